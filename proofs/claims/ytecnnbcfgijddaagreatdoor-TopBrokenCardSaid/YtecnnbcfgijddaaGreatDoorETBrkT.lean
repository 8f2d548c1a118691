/- ToU -/
import Derived.Test.YtecnnbcfgijddaaGreatDoorETBrkP
import Derived.Test.YtecnnbcfgijddaaGreatDoorETBrkS
set_option linter.unusedSimpArgs false
set_option linter.unusedVariables false
namespace Go.Eng.Top
open Go.Proofs Go.RowKit
attribute [local go_sem] Oper.semAt_some
variable {tg tg' tg1:Tag} {O:Nat->Prop} {W W' V V':World} {R k:Nat} {g:Gh} {r:Raw} {c:HC} {rs:List Raw} {cc:Li} {gs:List Gh} {iv:Value}
theorem _root_.Go.Eng.Frm.grow{row:Option Nat}(f:Frm tg O W V tg1)(h:V.grownBy V' row)(z:∀r,row=some r->W.heap.size<=r):Frm tg O W V' tg1:=by
 obtain⟨X,L,G,y,A⟩:=h;refine⟨⟨X.trans f.chg.os,L.trans f.chg.tape,G.trans f.chg.output,vP f.chg.size y,λb j u=>?_⟩,f.tag,λb j=>f.new b (vP y j)⟩;refine(A b (qK j f.chg.size) λe=>?_).trans (f.chg.block b j u);have:=z b e.symm;omega
def Put(h j:Nat)(W f:World):Prop:=W.heap.size<=f.heap.size/\∀b o,W.heap[b]?=some o->(o.isCells=true\/b=h\/b=j)->f.heap[b]?=some o
theorem _root_.Go.Eng.eU.put{j A t E sz n:Nat}{v:Value}{xs:Lv}(h:eU W R tg t E sz v n xs)(p:Put j A W W'):eU W' R tg t E sz v n xs:=
 ⟨⟨h.own.1,by
  rcases h.own.2 with g|⟨g,cap,f,rfl,z,y,u⟩;exact .inl g;exact .inr ⟨g,cap,f,rfl,z,p.2 _ _ y (.inl rfl),u⟩⟩,h.tag⟩
theorem jF.put{f j:Nat}(h:jF W R tg k g r)(p:Put f j W W'):jF W' R tg k g r:=
 ⟨p.2 _ _ h.cel (.inl rfl),h.bR,h.tb,h.st.put p,h.si.put p,h.la.put p,h.se.put p⟩
theorem Hist.put(h:Hist W R tg c rs cc gs iv)(p:Put c.nb c.cb W W'):Hist W' R tg c rs cc gs iv:=by
 obtain⟨l1,l2,u⟩:=h.lt;refine⟨λb A=>h.new b (vP p.1 A),h.low,vP h.RW p.1,p.2 _ _ h.hc (.inl rfl),h.th,h.tn,h.tc,h.rows.put p,h.len,λk g r z y=>(h.it k g r z y).put p,?_,?_⟩;obtain⟨D,j,f⟩:=h.nm;exact⟨D,dw j ((p.2 _ _ (wP l2) (.inr (.inl rfl))).trans (wP l2).symm),f⟩;obtain⟨D,j,f⟩:=h.ca;exact⟨D,dw j ((p.2 _ _ (wP u) (.inr (.inr rfl))).trans (wP u).symm),f⟩
theorem FX{y z B:Nat}{row:Option Nat}(h:W.grownBy W' row)(hn:y<B)(hc:z<B)(G:∀r,row=some r->B<=r/\∃o:Obj,W.heap[r]?=some o/\o.isCells=false):Put y z W W':=by
 obtain⟨h1,h2,h3,X,L⟩:=h;refine⟨X,λb o j f=>(L b (qJ.1 j).1 λe=>?_).trans j⟩;obtain⟨q1,o',u,A⟩:=G b e.symm;rw[j]at u;cases u;rcases f with f|f|f;rw[A]at f;cases f;omega;omega
theorem IB(w:World)(a:Addr)(T:Int):Calls Tryz.prog 107 #[.pointer (some a),.int .i64 T] w λe f=>e=.returned (.func (.func 162) #[] #[.pointer (some ⟨w.heap.size,0,none⟩),.pointer (some ⟨w.heap.size+1,0,none⟩)])/\f=(w.alloc (.cells #[.pointer (some a)] 96)).alloc (.cells #[.int .i64 T] 3):=by
 go_enter Tryz.func107,Tryz.ntmps107
 go_wp2
 go_ret
 exact⟨rfl,rfl⟩
def sbD(d:Dat)(l t:Int):ByteArray:=((⟨#[67]⟩:ByteArray)++d.ia l++⟨#[46]⟩)++d.ia t
def OkS(d:Dat)(m:Nat)(s:List Itm):Prop:=∀i∈s,OkI d m s i/\OkL d i
def Mid(d:Dat)(m:Nat)(T:Int)(R:Nat)(tg:Tag)(c:HC)(cc:Li)(iv:Value)(bs:List Nat)(V:World)(p0:Option (List Itm))(s:List Itm)(W:World):Prop:=
 ∃f h,Frm tg (λt=>4<t) V W f/\Hist W R f c (s.map Itm.raw) cc h iv/\(∀(b:Nat) (o:Obj),V.heap.size<=b->W.heap[b]?=some o->o.isCells=false->f b=0)/\h.map Gh.b=bs/\OkS d m s/\DT d (sbD d) T (s,cc)=p0
theorem _root_.Go.Eng.Frm.setNew{a:Addr}{u:Value}(f:Frm tg O W V tg1)(y:W.heap.size<=a.block):Frm tg O W (V.setCell a u) tg1:=
 ⟨⟨f.chg.os,f.chg.tape,f.chg.output,by simpa[World.setCell]using f.chg.size,λb j h=>(Below.heap_setCell _ _ _ _ Z).trans (f.chg.block b j h)⟩,f.tag,λb j=>f.new b (by simpa[World.setCell]using j)⟩
theorem gS{d:Dat}{sb:Int->Int->ByteArray}{T:Int}{cc:Li}{s:List Itm}(h:¬gu T s<s.length):DT d sb T (s,cc)=some s:=by
 have:∀l:List Itm,(∀i∈l,¬due T i)->l.mapM (λi=>FY d cc sb (iy s i.lb) T 21 i)=some l:=by
  intro l;induction l with
  |nil=>intro _;rfl
  |cons i l y=>
   intro f;rw[xG,y λj z=>f j (wX _ z)];have e:FY d cc sb (iy s i.lb) T 21 i=some i:=by
    unfold FY;exact if_neg (f i (wL ..))
   rw[e];rfl
 exact this s λi u hd=>by
  obtain⟨k,A⟩:=List.getElem?_of_mem u;apply h;unfold gu;rw[List.findIdx_lt_length];exact⟨i,u,qR hd⟩
theorem VW{d:Dat}{sb:Int->Int->ByteArray}{qy T:Int}{cc:Li}(a:Nat):∀(b:Nat) (i:Itm),20-i.done.length<=a->20-i.done.length<=b->1<=a->1<=b->FY d cc sb qy T a i=FY d cc sb qy T b i:=by
 induction a with
 |zero=>intro b i _ _ h;omega
 |succ a j=>
  intro b i y u _ z;cases b with
  |zero=>omega|succ b=>
   rw[FY,FY];by_cases hd:0<=i.line/\i.leave<T
   .rw[if_pos hd,if_pos hd];by_cases f:19<=i.done.length;rw[if_pos f,if_pos f];rw[if_neg f,if_neg f];have:=tQ d cc sb qy i;exact j b _ Z Z Z Z
   rw[if_neg hd,if_neg hd]
theorem mapM_none{α β:Type}{f:α->Option β}{l:List α}{k:Nat}{x:α}(h:l[k]?=some x)(u:f x=none):l.mapM f=none:=by
 induction l generalizing k with
 |nil=>cases h
 |cons y l j=>
  rw[xG];cases k with
  |zero=>cases h;rw[u];rfl
  |succ k=>rw[j h];cases f y<;>rfl
theorem WL{α β:Type}{f:α->Option β}{l:List α}{k:Nat}{x y:α}(h:l[k]?=some x)(u:f y=f x):(l.set k y).mapM f=l.mapM f:=by
 induction l generalizing k with
 |nil=>cases h
 |cons z l j=>
  cases k with
  |zero=>cases h;rw[List.set_cons_zero,xG,xG,u]
  |succ k=>rw[List.set_cons_succ,xG,xG,j h]
theorem VV{d:Dat}{sb:Int->Int->ByteArray}{T:Int}{cc:Li}{s:List Itm}{i:Itm}(h:s[k]?=some i)(hd:due T i)(f:19<=i.done.length):DT d sb T (s,cc)=none:=by
 refine mapM_none h ?_;rw[FY];exact(if_pos hd).trans (if_pos f)
theorem BY{d:Dat}{sb:Int->Int->ByteArray}{qy:Int}{cc:Li}(i:Itm):(tR d cc sb qy i).post=i.post/\(tR d cc sb qy i).lb=i.lb:=by
 unfold tR jj
 (repeat' split)<;>exact⟨rfl,rfl⟩
theorem VU{d:Dat}{sb:Int->Int->ByteArray}{T:Int}{cc:Li}{s:List Itm}{i:Itm}(h:s[k]?=some i)(hd:due T i)(j:i.done.length<19):DT d sb T (s.set k (tR d cc sb (iy s i.lb) i),cc)=DT d sb T (s,cc):=by
 have f:=BY (d:=d) (sb:=sb) (qy:=iy s i.lb) (cc:=cc) i;unfold DT;simp only[tG h f.1];refine WL h ?_;rw[f.2];have e:FY d cc sb (iy s i.lb) T 21 i=FY d cc sb (iy s i.lb) T 20 (tR d cc sb (iy s i.lb) i):=by
  conv=>lhs;rw[FY]
  exact(if_pos hd).trans (if_neg Z)
 rw[e];have:=tQ d cc sb (iy s i.lb) i;exact VW 21 20 _ Z Z Z Z
set_option maxRecDepth 100000 in
set_option maxHeartbeats 4000000 in
theorem IA{w0:World}{d:Dat}{m:Nat}{T:Int}{its:List Itm}(E:Env w0 R c d)(H:Hist W R tg c (its.map Itm.raw) cc gs iv)(hB:Below R w0 W)(hN:its.length<1000)(oks:OkS d m its)(hm:m<=900):
  Calls Tryz.prog 41 #[.pointer (some ⟨c.hb,0,none⟩),.int .i64 T] W λe w'=>(∃its',DT d (sbD d) T (its,cc)=some its'/\e=.returned (.bool true)/\∃tg' gs',Frm tg (λt=>4<t) W w' tg'/\Hist w' R tg' c (its'.map Itm.raw) cc gs' iv/\OkS d m its') \/
   (DT d (sbD d) T (its,cc)=none/\e=.returned (.bool false)/\∃tg',Frm tg (λt=>4<t) W w' tg'):=by
 refine callsIn_wide (n:=9).1 ?_;refine callsIn_of_wp_marks Tryz.func41 rfl trivial ?_;simp only[Tryz.ntmps41,xB,wR,yZ,Nat.reduceAdd,Nat.reduceSub,Array.replicate_succ,Array.replicate_zero,List.push_toArray,List.append_toArray,xU,qCx];obtain⟨N,hW⟩:∃N,W.heap.size=N:=⟨_,rfl⟩;obtain⟨V,hV⟩:∃V,(W.alloc (.cells #[.pointer (some ⟨c.hb,0,none⟩)] 96)).alloc (.cells #[.bool false] 4)=V:=⟨_,rfl⟩
 have sV:V.heap.size=N+2:=by rw[<- hV,qH,qH,hW]
 have vN:V.heap[N]?=some (.cells #[.pointer (some ⟨c.hb,0,none⟩)] 96 (0,0)):=by
  rw[<- hV];exact(Below.heap_alloc _ _ _ (by rw[qH];omega)).trans (by rw[<- hW];exact World.alloc_heap_new W _)
 have vM:V.heap[N+1]?=some (.cells #[.bool false] 4 (0,0)):=by
  have:=World.alloc_heap_new (W.alloc (.cells #[.pointer (some ⟨c.hb,0,none⟩)] 96)) (.cells #[.bool false] 4);rw[qH,hW]at this;rw[<- hV];exact this
 have v0:V.cell? ⟨N,0,none⟩=some (.pointer (some ⟨c.hb,0,none⟩)):=by simp[World.cell?,vN]
 have hd:=IB V ⟨c.hb,0,none⟩ T;obtain⟨U,hU⟩:∃U,(V.alloc (.cells #[.pointer (some ⟨c.hb,0,none⟩)] 96)).alloc (.cells #[.int .i64 T] 3)=U:=⟨_,rfl⟩;rw[sV,hU]at hd;have sU:U.heap.size=N+4:=by rw[<- hU,qH,qH,sV]
 have lo:∀b,b<N+2->U.heap[b]?=V.heap[b]?:=λb hb=>by
  rw[<- hU];exact(Below.heap_alloc _ _ _ (by rw[qH];omega)).trans (Below.heap_alloc _ _ _ Z)
 have uN:=(lo N Z).trans vN;have uM:=(lo (N+1) Z).trans vM;have u0:U.cell? ⟨N+2,0,none⟩=some (.pointer (some ⟨c.hb,0,none⟩)):=by
  have:=World.alloc_heap_new V (.cells #[.pointer (some ⟨c.hb,0,none⟩)] 96);rw[sV]at this;have h2:U.heap[N+2]?=some (.cells #[.pointer (some ⟨c.hb,0,none⟩)] 96 (0,0)):=by rw[<- hU];exact(Below.heap_alloc _ _ _ (by rw[qH];omega)).trans this
  simp[World.cell?,h2]
 have u1:U.cell? ⟨N+3,0,none⟩=some (.int .i64 T):=by
  have:=World.alloc_heap_new (V.alloc (.cells #[.pointer (some ⟨c.hb,0,none⟩)] 96)) (.cells #[.int .i64 T] 3);rw[qH,sV,hU]at this;simp[World.cell?,this]
 have HV:Hist V R tg c (its.map Itm.raw) cc gs iv:=hV▸(H.alloc _).alloc _;have HU:Hist U R tg c (its.map Itm.raw) cc gs iv:=hU▸(HV.alloc _).alloc _;have FU:Frm tg (λt=>4<t) W U tg:=by
  rw[<- hU,<- hV];exact(((Frm.alloc H.new _).trans (Frm.alloc (H.alloc _).new _)).trans (Frm.alloc ((H.alloc _).alloc _).new _)).trans (Frm.alloc (((H.alloc _).alloc _).alloc _).new _)
 have tN:∀b,N<=b->tg b=0:=λb hb=>H.new b Z
 obtain⟨lh,ln,lc⟩:=H.lt;clear vN vM
 gi_wp2_with (refine⟨trivial,?_⟩;gi_at_call 107;refine(callsIn_wide.2 hd).mono ?_;rintro e w' ⟨rfl,hw⟩;have hw:=hw.symm;subst hw)
 refine qz (n:=9) (q:=5) rfl (by decide) (gf:=162) (lb:=#[.pointer (some ⟨N+2,0,none⟩),.pointer (some ⟨N+3,0,none⟩)]) rfl trivial (enters_of Tryz.func162 (by kernel_rfl) rfl)
  (Mid d m T R tg c cc iv (gs.map Gh.b) U (DT d (sbD d) T (its,cc))) (λ_ W'=>W'.cell? ⟨N+1,0,none⟩=some (.bool false)/\DT d (sbD d) T (its,cc)=none/\∃tg',Frm tg (λt=>4<t) W W' tg') ?hI ?hIx ?hrd ?hdr
  (XC (R:=R) (c:=c) (cc:=cc) (iv:=iv) (bs:=gs.map Gh.b) (T:=T) (d:=d) (sb:=sbD d) (s0:=its) hN (by decide)) ?h0 ?assign ?body ?done ?stop
 case assign=>
  intro l v W K hK;simp only[List.setIfInBounds_toArray,List.set_cons_zero,List.set_cons_succ]at hK ⊢
  gi_wp2
  exact hK
 case hdr=>rintro s W' q ⟨tg',gs',f,h,r⟩;exact⟨tg',gs',f.drewN q,h.drewN q,r⟩
 case h0=>exact⟨tg,gs,Frm.refl HU.new,HU,λb _ hb _ _=>HU.new b hb,rfl,oks,rfl⟩
 case hrd=>
  rintro s W' ⟨tg',gs',f,h,_,hb,ok,_⟩;have e2:=f.lo (b:=N+2) Z (by rw[tN _ Z];omega);have e3:=f.lo (b:=N+3) Z (by rw[tN _ Z];omega);exact⟨tg',gs',h,hb,by simp only[World.cell?,e2];exact u0,by simp only[World.cell?,e3];exact u1,λi hi=>(ok i hi).1.dl⟩
 case hI=>
  rintro s A B row ⟨tg',gs',f,h,nc,r⟩ hg hr;refine⟨tg',gs',f.grow hg (λr e=>(hr r e).1),h.put (FX hg Z Z hr),λb o hb ho hc=>?_,r⟩;rcases wW b A.heap.size with hl | hl
  .by_cases e:row=some b
   .obtain⟨_,o',h1,h2⟩:=hr b e;exact nc b o' hb h1 h2
   .exact nc b o hb ((hg.block b hl (λh=>e h.symm)).symm.trans ho) hc
  .exact h.new b hl
 case hIx=>exact λs A B row hs hg hr=>⟨cell_kept hs.1 hg (λr e=>(hr r e).2),hs.2.1,hs.2.2.imp λ_ f=>f.grow hg (λr e=>by have:=(hr r e).1;omega)⟩
 case stop=>
  rintro D W' hD ⟨hc,hp,tF,fF⟩ hK
  gi_wp2
  refine⟨by simp,.inl ⟨_,_,rfl,run_takeDeferred hK,?_⟩⟩;have hc5:=cell_kept hc (grownBy_putObj' _ D (.deferred none)) (λr e=>by cases e;exact⟨_,hK,rfl⟩);refine⟨.bool false,?_,.inr ⟨hp,rfl,tF,fF.grow (grownBy_putObj' _ D (.deferred none)) (λr e=>by cases e;omega)⟩⟩;simp[results,Tryz.f41,go_sem,hc5]
 case done=>
  rintro D s W' hD hf ⟨tg',gs',f,h,_,hb,ok,hp⟩ hK;have eM:=(f.lo (b:=N+1) Z (by rw[tN _ Z];omega)).trans uM;have cM:W'.cell? ⟨N+1,0,none⟩=some (.bool false):=by simp[World.cell?,eM]
  have fM:W'.frozen? ⟨N+1,0,none⟩=false:=by simp[World.frozen?,eM]
  gi_wp2
  have hK':(W'.setCell ⟨N+1,0,none⟩ (.bool true)).heap[D]?=some (.deferred (some [])):=(KeepsOthers.setCell ..).same D _ hK rfl;refine⟨by simp,.inl ⟨_,_,rfl,run_takeDeferred hK',?_⟩⟩;have hg5:=grownBy_putObj' (W'.setCell ⟨N+1,0,none⟩ (.bool true)) D (.deferred none);have hc5:=cell_kept (World.cell?_setCell_same' W' ⟨N+1,0,none⟩ (.bool true) (by rw[cM];rfl)) hg5 (λr e=>by cases e;exact⟨_,hK',rfl⟩)
  have tM:tg' (N+1)=0:=(f.tag _ Z).trans (tN _ Z);have h2:Hist (W'.setCell ⟨N+1,0,none⟩ (.bool true)) R tg' c (s.map Itm.raw) cc gs' iv:=h.fr (Frm.set (O:=(·=0)) h.new tM _) (λt h e=>Z)
  refine⟨.bool true,?_,.inl ⟨s,(hp.symm.trans (gS hf)),rfl,tg',gs',((FU.trans f).setNew (by show _<=N+1;omega)).grow hg5 (λr e=>by cases e;omega),h2.put (FX (B:=N+4) hg5 Z Z (λr e=>by cases e;exact⟨Z,_,hK',rfl⟩)),ok⟩⟩;simp[results,Tryz.f41,go_sem,hc5]
 case body=>
  rintro l s W3 ⟨z,gs3,F3,H3,nc3,hb3,ok3,hp3⟩ hf;obtain⟨k,hk⟩:∃k,gu T s=k:=⟨_,rfl⟩;have hfw:=hf;rw[hk]at hf;obtain⟨i,hi⟩:∃i,s[k]?=some i:=⟨_,qB hf⟩;have hdue:due T i:=by
   have h1:=List.findIdx_getElem (p:=λi=>decide (due T i)) (w:=hfw);have h2:s[gu T s]?=some i:=by rw[hk];exact hi
   rw[qB hfw]at h2;rw[<- wE h2];exact vO h1
  obtain⟨g,hg,hI⟩:=H3.get (aQ hi);have hgb:(gs.map Gh.b).getD k 0=g.b:=by rw[<- hb3];simp[hg]
  rw[hk,hgb];simp only[List.setIfInBounds_toArray,List.set_cons_zero,List.set_cons_succ];obtain⟨bS,cS,hS,_⟩:=hI.st.pos (by show 0<(i.done++_).length;simp);obtain⟨n,hn⟩:∃n,i.raw.st.length=n:=⟨_,rfl⟩;have hn':i.done.length+1=n:=by rw[<- hn];show _=(i.done++_).length;simp
  rw[hn]at hS;have c5:W3.cell? ⟨g.b,5,none⟩=some (.slice (some ⟨bS,0,none⟩) n cS):=hS▸hI.cell (j:=5) rfl;have eM:=(F3.lo (b:=N+1) Z (by rw[tN _ Z];omega)).trans uM;have cM:W3.cell? ⟨N+1,0,none⟩=some (.bool false):=by simp[World.cell?,eM]
  have fM:W3.frozen? ⟨N+1,0,none⟩=false:=by simp[World.frozen?,eM]
  by_cases h20:n=20
  .have h20':decide ((n:Int)≥20)=true:=qR Z
   gi_wp2
   exact⟨(KeepsOthers.setCell ..).from _,World.cell?_setCell_same' W3 ⟨N+1,0,none⟩ (.bool false) (by rw[cM];rfl),hp3.symm.trans (VV hi hdue Z),z,(FU.trans F3).setNew (by show _<=N+1;omega)⟩
  have h20':decide ((n:Int)≥20)=false:=qY (by have:=(ok3 i (qZ hi)).1.dl;omega)
  gi_wp2
  have oki:=(ok3 i (qZ hi)).1;have okl:=(ok3 i (qZ hi)).2;have hlin:d.lin i.line:=okl.ln.resolve_left (by have:=hdue.1;omega);obtain⟨lb0,lb1,lb2,lb3,lb4,lb5⟩:=E.lnb _ hlin;obtain⟨L,hL⟩:∃L:Nat,i.line=L:=⟨i.line.toNat,Z⟩;obtain⟨bl,fl,nl,cl,v0,v1,v3,v5,e4,hLn,blR,q0,q1,q2,q3,q4,q5⟩:=E.lns L (hL▸hlin);have B3:Below R w0 W3:=cT H.low H.RW hB (FU.trans F3) Z
  have c0:W3.cell? ⟨N,0,none⟩=some (.pointer (some ⟨c.hb,0,none⟩)):=by
   have e:=(F3.lo (b:=N) Z (by rw[tN _ Z];omega)).trans uN;simp[World.cell?,e]
  have c4:W3.cell? ⟨c.hb,4,none⟩=some (.slice (some ⟨bl,fl,none⟩) nl cl):=e4▸H3.cell (j:=4) rfl;have c11:W3.cell? ⟨g.b,11,none⟩=some (.int .i64 L):=hL▸hI.cell (j:=11) rfl;have q0:=(B3.cell (p:=⟨bl,fl+L*6,none⟩) blR).trans q0;have q1:=(B3.cell (p:=⟨bl,fl+L*6+1,none⟩) blR).trans q1;have q2:=(B3.cell (p:=⟨bl,fl+L*6+2,none⟩) blR).trans q2;have q3:=(B3.cell (p:=⟨bl,fl+L*6+3,none⟩) blR).trans q3
  have q4:=(B3.cell (p:=⟨bl,fl+L*6+4,none⟩) blR).trans q4;have q5:=(B3.cell (p:=⟨bl,fl+L*6+5,none⟩) blR).trans q5;have hL0:(0:Int)<=(L:Int):=Z;obtain⟨X,hX⟩:∃X,W3.heap.size=X:=⟨_,rfl⟩
--R5
  refine fw (λ_=>True) (λw=>w.cell? ⟨N,0,none⟩=some (.pointer (some ⟨c.hb,0,none⟩))/\w.cell? ⟨c.hb,4,none⟩=some (.slice (some ⟨bl,fl,none⟩) nl cl)/\w.cell? ⟨g.b,11,none⟩=some (.int .i64 L)/\w.cell? ⟨bl,fl+L*6,none⟩=some (.string v0)/\w.cell? ⟨bl,fl+L*6+1,none⟩=some (.int .i64 v1)/\w.cell? ⟨bl,fl+L*6+2,none⟩=some (.int .i64 (d.lto L))/\w.cell? ⟨bl,fl+L*6+3,none⟩=some (.int .i64 v3)/\w.cell? ⟨bl,fl+L*6+4,none⟩=some (.int .i64 (d.ltr L))/\w.cell? ⟨bl,fl+L*6+5,none⟩=some (.int .i64 v5)) (λi=>decide (12<=i)) (by kernel_rfl) (by kernel_rfl) (λh=>by obtain⟨_,_,h⟩:=h;exact h) ?_
  refine lU 0 ?_;refine aX 1 ?_;refine aX 2 ?_;refine aX 3 ?_;refine lU 4 ?_;refine aX 5 ?_;refine aX 6 ?_;refine aX 7 ?_;refine lU 8 ?_;refine aX 9 ?_;refine lU 10 ?_;refine bA 11 ?_;refine bA 12 ?_;refine cU (by kernel_rfl) ?_ _
--E5
  obtain⟨W4,hW4⟩:∃W4,(W3.alloc (.cells #[.string v0,.int .i64 v1,.int .i64 (d.lto L),.int .i64 v3,.int .i64 (d.ltr L),.int .i64 v5] 139)).drew=W4:=⟨_,rfl⟩;have H4:Hist W4 R z c (s.map Itm.raw) cc gs3 iv:=by rw[<- hW4];exact(H3.alloc _).drewN 1
  have F4:Frm z (itT k) W3 W4 z:=by rw[<- hW4];exact(Frm.alloc H3.new _).drewN 1
  have x4:W4.heap[X]?=some (.cells #[.string v0,.int .i64 v1,.int .i64 (d.lto L),.int .i64 v3,.int .i64 (d.ltr L),.int .i64 v5] 139 (0,0)):=by rw[<- hW4,<- hX];exact World.alloc_heap_new W3 _
  rw[hW4];have hI4:=H4.it k g _ hg (aQ hi);have hla:Calls Tryz.prog 108 #[.pointer (some ⟨g.b,0,none⟩)] W4 λe w'=>e=.returned (.pointer (some ⟨bS,i.done.length*4,none⟩))/\∃m,w'=W4.drewN m:=(Nq hI4 (ss:=i.done) rfl (by have:=oki.dl;omega)).mono (by
   rintro e w' ⟨⟨b,cap,hb,rfl⟩,q,rfl⟩;rw[hS]at hb;cases hb;exact⟨rfl,q,rfl⟩)
  clear q0 q1 q2 q3 q4 q5 c0 c4 c11 hW4
  gi_wp2_with (refine⟨trivial,?_⟩;gi_at_call 108;refine(CallsIn.inRound l (callsIn_wide.2 hla)).mono ?_;rintro e w' ⟨rfl,q,rfl⟩)
  generalize hW5:W4.drewN q=W5;have H5:Hist W5 R z c (s.map Itm.raw) cc gs3 iv:=hW5▸H4.drewN q;have F5:Frm z (itT k) W3 W5 z:=hW5▸F4.drewN q;have x5:W5.heap[X]?=some (.cells #[.string v0,.int .i64 v1,.int .i64 (d.lto L),.int .i64 v3,.int .i64 (d.ltr L),.int .i64 v5] 139 (0,0)):=by rw[<- hW5];exact x4
  have hI5:=H5.it k g _ hg (aQ hi);have y1:W5.cell? ⟨g.b,11,none⟩=some (.int .i64 L):=hL▸hI5.cell (j:=11) rfl;have y2:W5.cell? ⟨g.b,12,none⟩=some (.int .i64 i.leave):=hI5.cell (j:=12) rfl;have y3:W5.cell? ⟨bS,i.done.length*4+2,none⟩=some (.int .i64 (-1)):=ff (hS▸hI5.st) (ss:=i.done) rfl (i:=2) rfl
  have y4:W5.cell? ⟨bS,i.done.length*4+3,none⟩=some (.int .i64 (-1)):=ff (hS▸hI5.st) (ss:=i.done) rfl (i:=3) rfl;have ho5:=hI5.st;rw[hS,hn]at ho5;have y5:W5.frozen? ⟨bS,i.done.length*4+2,none⟩=false:=ho5.free _;have y6:W5.frozen? ⟨bS,i.done.length*4+3,none⟩=false:=ho5.free _
--R7
  refine fw (λ_=>True) (λw=>w.cell? ⟨g.b,11,none⟩=some (.int .i64 L)/\w.cell? ⟨g.b,12,none⟩=some (.int .i64 i.leave)) (λi=>decide (12<=i)) (by kernel_rfl) (by kernel_rfl) (λh=>by obtain⟨_,_,h⟩:=h;exact h) ?_;refine aX 0 ?_;refine aX 1 ?_;refine aX 2 ?_;refine aX 3 ?_;refine aX 4 ?_;refine lU 5 ?_;refine aX 6 ?_;refine aX 7 ?_;refine aX 8 ?_;refine lU 9 ?_;refine aX 10 ?_;refine aX 11 ?_
  refine bA 12 ?_;refine aX 13 ?_;refine aX 14 ?_;refine bA 15 ?_;refine cU (by kernel_rfl) ?_ _
--E7
  obtain⟨W6,hW6⟩:∃W6,((W5.setCell ⟨bS,i.done.length*4+2,none⟩ (.int .i64 i.leave)).setCell ⟨bS,i.done.length*4+3,none⟩ (.int .i64 L)).drew=W6:=⟨_,rfl⟩;rw[hW6];obtain⟨h6,f6⟩:=H5.left hg (aQ hi) (l:=i.done) rfl hS rfl (x:=i.leave) (y:=L);obtain⟨r6,hr6⟩:∃r,{i.raw with st:=i.done++[(i.off,i.arr,i.leave,(L:Int))]}=r:=⟨_,rfl⟩;rw[hr6]at h6;have rse:r6.se=i.seals:=by rw[<- hr6];rfl
  have rln:r6.ln=L:=by rw[<- hr6,<- hL];rfl
  have rlv:r6.lv=i.leave:=by rw[<- hr6];rfl
  obtain⟨G,hG⟩:∃G,gs3.set k g=G:=⟨_,rfl⟩;obtain⟨S6,hS6⟩:∃S,(s.map Itm.raw).set k r6=S:=⟨_,rfl⟩;have hgG:G[k]?=some g:=by rw[<- hG];exact zV (qC.1 hg).1
  have hrS:S6[k]?=some r6:=by rw[<- hS6];exact zV (by rw[vX];exact hf)
  have H6:Hist W6 R z c S6 cc G iv:=by rw[<- hW6,<- hS6,<- hG];exact h6.drewN 1
  have F6:Frm z (itT k) W3 W6 z:=F5.trans (by rw[<- hW6];exact f6.drewN 1);have tX:z X=0:=H3.new X Z;have x6:W6.heap[X]?=some (.cells #[.string v0,.int .i64 v1,.int .i64 (d.lto L),.int .i64 v3,.int .i64 (d.ltr L),.int .i64 v5] 139 (0,0)):=by
   rw[<- hW6];exact(f6.lo (qJ.1 x5).1 (by rw[tX];unfold itT;omega)).trans x5
  have tlow:∀b,b<R->z b=0:=H3.low;have hbel:∀{Wn:World} {tn:Tag},Frm z (itT k) W3 Wn tn->Below R w0 Wn:=λf=>cT H3.low H3.RW B3 f (by unfold itT;omega)
  clear hW5 hW6 y1 y2 y3 y4 y5 y6 ho5;have hI6:=H6.it k g _ hgG hrS;have z1:W6.cell? ⟨g.b,9,none⟩=some g.se:=hI6.cell (j:=9) rfl;have z2:W6.cell? ⟨g.b,11,none⟩=some (.int .i64 L):=rln▸hI6.cell (j:=11) rfl;have z3:W6.cell? ⟨g.b,12,none⟩=some (.int .i64 i.leave):=rlv▸hI6.cell (j:=12) rfl;have hc1:=E.ita W6.drew L (hbel (F6.drewN 1)) Z Z;have lv:=okl.lv;have ia1:=E.iab L;have ia2:=E.iab i.leave
  have n1:¬9223372036854775807<1+(d.ia L).size:=Z;have n2:¬9223372036854775807<1+(d.ia L).size+1:=Z;have n3:¬9223372036854775807<1+(d.ia L).size+1+(d.ia i.leave).size:=Z
  gi_wp2
--R8
  refine fw (λ_=>True) (λw=>w.cell? ⟨g.b,9,none⟩=some g.se/\w.cell? ⟨g.b,11,none⟩=some (.int .i64 L)/\w.cell? ⟨g.b,12,none⟩=some (.int .i64 i.leave)) (λi=>decide (21<=i)) (by kernel_rfl) (by kernel_rfl) (λh=>by obtain⟨_,_,h⟩:=h;exact h) ?_;refine aX 0 ?_;refine aX 1 ?_;refine aX 2 ?_;refine aX 3 ?_;refine aX 4 ?_;refine lU 5 ?_;refine aX 6 ?_;refine aX 7 ?_;refine aX 8 ?_;refine lU 9 ?_
  refine aX 13 ?_;refine aX 14 ?_;refine aX 15 ?_;refine lU 16 ?_;refine pq 10 λK hK=>?_
  go_simp
  refine hc1.mono ?_;rintro e WA ⟨rfl,hbA⟩;have FA0:Frm z (λ_=>False) W6.drew WA z:=Frm.below (H6.drewN 1).new hbA;have HA:Hist WA R z c S6 cc G iv:=(H6.drewN 1).fr FA0 (λ_ _ h=>h);have FA:Frm z (itT k) W3 WA z:=(F6.drewN 1).trans (FA0.sub λ_ h=>h.elim);have hc2:=E.ita WA i.leave (hbel FA) lv.1 Z;have z1:WA.cell? ⟨g.b,9,none⟩=some g.se:=(HA.it k g _ hgG hrS).cell (j:=9) rfl
  have z2:WA.cell? ⟨g.b,11,none⟩=some (.int .i64 L):=rln▸(HA.it k g _ hgG hrS).cell (j:=11) rfl;have z3:WA.cell? ⟨g.b,12,none⟩=some (.int .i64 i.leave):=rlv▸(HA.it k g _ hgG hrS).cell (j:=12) rfl
  go_simp
  refine ji hK ?_;clear hK K;refine aX 11 ?_;refine aX 12 ?_;refine pq 17 λK hK=>?_
  go_simp
  refine hc2.mono ?_;rintro e WB ⟨rfl,hbB⟩;have FB0:Frm z (λ_=>False) WA WB z:=Frm.below HA.new hbB;have HB:Hist WB R z c S6 cc G iv:=HA.fr FB0 (λ_ _ h=>h);have FB:Frm z (itT k) W3 WB z:=FA.trans (FB0.sub λ_ h=>h.elim)
  obtain⟨be,ce,WC,uC,pC,KC,rC,fC⟩:=(HB.alloc (.cells #[.string (sbD d L i.leave)] 9)).aDb hgG hrS (by rw[rse];have:=oki.el;have:=oki.dl;omega) (t:=sbD d L i.leave) (World.alloc_heap_new WB _);have z1:WB.cell? ⟨g.b,9,none⟩=some g.se:=(HB.it k g _ hgG hrS).cell (j:=9) rfl;have z2:WB.cell? ⟨g.b,11,none⟩=some (.int .i64 L):=rln▸(HB.it k g _ hgG hrS).cell (j:=11) rfl
  have z3:WB.cell? ⟨g.b,12,none⟩=some (.int .i64 i.leave):=rlv▸(HB.it k g _ hgG hrS).cell (j:=12) rfl
  go_simp
  refine ji hK ?_;clear hK K;refine aX 18 ?_;refine bA 19 ?_;refine pq 20 λK hK=>?_
  have z1:WC.cell? ⟨g.b,9,none⟩=some g.se:=(KC.it k g _ hgG hrS).cell (j:=9) rfl;have z2:WC.cell? ⟨g.b,11,none⟩=some (.int .i64 L):=rln▸(KC.it k g _ hgG hrS).cell (j:=11) rfl;have z3:WC.cell? ⟨g.b,12,none⟩=some (.int .i64 i.leave):=rlv▸(KC.it k g _ hgG hrS).cell (j:=12) rfl;have z4:WC.frozen? ⟨g.b,9,none⟩=false:=(KC.it k g _ hgG hrS).free 9
  refine Lib.wp_append_run _ (.tmp 51) (.tmp 65) 23 23 (by rfl) _ _ rfl rfl _ _ pC ?_;refine ji hK ?_;clear hK K;refine aX 21 ?_;refine aX 22 ?_;refine aX 23 ?_;refine bA 24 ?_;refine cU (by kernel_rfl) ?_ _
--E8
  obtain⟨W8,hW8⟩:∃W8,WC.setCell ⟨g.b,9,none⟩ (.slice (some ⟨be,0,none⟩) (i.seals.length+1) ce)=W8:=⟨_,rfl⟩;rw[hW8];rw[rse]at rC;obtain⟨h8,f8⟩:=KC.stE hgG hrS (v:=.slice (some ⟨be,0,none⟩) (i.seals.length+1) ce) (t:=sbD d L i.leave) (by rw[rse];exact rC);rw[hW8]at h8 f8;have F6B:Frm z (itT k) W6 WB z:=(((Frm.refl H6.new).drewN 1).trans (FA0.sub λ_ h=>h.elim)).trans (FB0.sub λ_ h=>h.elim)
  have F68:Frm z (itT k) W6 W8 uC:=((F6B.trans (Frm.alloc HB.new _)).trans (fC.sub λt h=>by rw[h];exact⟨Z,Z⟩)).trans f8;obtain⟨g8,hg8⟩:∃q,{g with se:=.slice (some ⟨be,0,none⟩) (i.seals.length+1) ce}=q:=⟨_,rfl⟩;obtain⟨r8,hr8⟩:∃q,{r6 with se:=r6.se++[sbD d L i.leave]}=q:=⟨_,rfl⟩;rw[hg8,hr8]at h8;obtain⟨G8,hG8⟩:∃q,G.set k g8=q:=⟨_,rfl⟩;obtain⟨S8,hS8⟩:∃q,S6.set k r8=q:=⟨_,rfl⟩
  have hgG8:G8[k]?=some g8:=by rw[<- hG8];exact zV (qC.1 hgG).1
  have hrS8:S8[k]?=some r8:=by rw[<- hS8];exact zV (qC.1 hrS).1
  have H8:Hist W8 R uC c S8 cc G8 iv:=by rw[<- hS8,<- hG8];exact h8
  have hb8:g8.b=g.b:=by rw[<- hg8]
  have r8v:r8.lv=i.leave:=by rw[<- hr8];exact rlv
  have r8t:r8.st=i.done++[(i.off,i.arr,i.leave,(L:Int))]:=by rw[<- hr8,<- hr6]
  have x8:W8.heap[X]?=some (.cells #[.string v0,.int .i64 v1,.int .i64 (d.lto L),.int .i64 v3,.int .i64 (d.ltr L),.int .i64 v5] 139 (0,0)):=
   (F68.lo (qJ.1 x6).1 (by rw[tX];unfold itT;omega)).trans x6
  have m1:W8.cell? ⟨g.b,5,none⟩=some g8.st:=hb8▸(H8.it k g8 _ hgG8 hrS8).cell (j:=5) rfl;have m2:W8.cell? ⟨g.b,12,none⟩=some (.int .i64 i.leave):=hb8▸r8v▸(H8.it k g8 _ hgG8 hrS8).cell (j:=12) rfl;have m3:W8.cell? ⟨X,2,none⟩=some (.int .i64 (d.lto L)):=by simp[World.cell?,x8]
  have m4:W8.cell? ⟨X,4,none⟩=some (.int .i64 (d.ltr L)):=by simp[World.cell?,x8]
  have lt4:0<=d.ltr L:=hL▸lb4;have lt5:d.ltr L<=100000:=hL▸lb5;have nw:IntKind.i64.wrap (i.leave+d.ltr L)=i.leave+d.ltr L:=IntWalk.i64_in _ Z;obtain⟨Y,hY⟩:∃Y,W8.heap.size=Y:=⟨_,rfl⟩
  obtain⟨bt,ct,WD,uD,pD,KD,rD,fD⟩:=((H8.drewN 1).alloc (.cells (kO (d.lto L,i.leave+d.ltr L,-1,-1)).toArray 61)).appT hgG8 hrS8 (by rw[r8t];have:=oki.dl;simp;omega) (b0:=Y) (t:=(d.lto L,i.leave+d.ltr L,-1,-1)) (by rw[<- hY];exact World.alloc_heap_new (W8.drewN 1) _);have m5:WD.cell? ⟨g.b,5,none⟩=some g8.st:=hb8▸(KD.it k g8 _ hgG8 hrS8).cell (j:=5) rfl
  have m6:WD.frozen? ⟨g.b,5,none⟩=false:=hb8▸(KD.it k g8 _ hgG8 hrS8).free 5;have m7:WD.cell? ⟨g.b,12,none⟩=some (.int .i64 i.leave):=hb8▸r8v▸(KD.it k g8 _ hgG8 hrS8).cell (j:=12) rfl;have xD:WD.heap[X]?=W8.heap[X]?:=by
   have hlt:=(qJ.1 x8).1;exact(fD.lo (by rw[qH];exact Nat.lt_succ_of_lt hlt) (by rw[F68.tag X (qJ.1 x6).1,tX];omega)).trans (Below.heap_alloc _ _ _ hlt)
  rw[x8]at xD;have m8:WD.cell? ⟨X,2,none⟩=some (.int .i64 (d.lto L)):=by simp[World.cell?,xD]
  have m9:WD.cell? ⟨X,4,none⟩=some (.int .i64 (d.ltr L)):=by simp[World.cell?,xD]
  clear z1 z2 z3 hW8
  gi_wp2
--R9
  refine fw (λ_=>True) (λw=>w.cell? ⟨g.b,5,none⟩=some g8.st/\w.cell? ⟨g.b,12,none⟩=some (.int .i64 i.leave)/\w.cell? ⟨X,2,none⟩=some (.int .i64 (d.lto L))/\w.cell? ⟨X,4,none⟩=some (.int .i64 (d.ltr L))) (λi=>decide (18<=i)) (by kernel_rfl) (by kernel_rfl) (λh=>by obtain⟨_,_,h⟩:=h;exact h) ?_;refine aX 0 ?_;refine aX 1 ?_;refine aX 2 ?_;refine aX 3 ?_;refine aX 4 ?_;refine lU 5 ?_;refine aX 6 ?_
  refine lU 7 ?_;refine aX 8 ?_;refine aX 9 ?_;refine aX 10 ?_;refine lU 11 ?_;refine aX 12 ?_;refine lU 13 ?_;refine aX 14 ?_;refine aX 15 ?_;refine bA 16 ?_;refine pq 17 λK hK=>?_
  refine Lib.wp_append_run _ (.tmp 75) (.tmp 86) 53 53 (by rfl) _ _ rfl rfl _ _ pD ?_;refine ji hK ?_;clear hK K;refine aX 18 ?_;refine aX 19 ?_;refine aX 20 ?_;refine bA 21 ?_;refine cU (by kernel_rfl) ?_ _
--E9
  obtain⟨W9,hW9⟩:∃W9,WD.setCell ⟨g.b,5,none⟩ (.slice (some ⟨bt,0,none⟩) (n+1) ct)=W9:=⟨_,rfl⟩;rw[hW9];have l8:r8.st.length=n:=by rw[r8t];simp;omega
  rw[l8]at rD;obtain⟨h9,f9⟩:=KD.stT hgG8 hrS8 (v:=.slice (some ⟨bt,0,none⟩) (n+1) ct) (t:=(d.lto L,i.leave+d.ltr L,-1,-1)) (by rw[l8];exact rD);rw[hb8,hW9]at h9 f9;have F8D:Frm uC (itT k) W8 WD uD:=(((Frm.refl H8.new).drewN 1).trans (Frm.alloc (H8.drewN 1).new _)).trans (fD.sub λt h=>by rw[h];exact⟨Z,Z⟩);have F9:Frm z (itT k) W3 W9 uD:=((F6.trans F68).trans F8D).trans f9
  obtain⟨g9,hg9⟩:∃q,{g8 with b:=g.b,st:=.slice (some ⟨bt,0,none⟩) (n+1) ct}=q:=⟨_,rfl⟩;obtain⟨r9,hr9⟩:∃q,{r8 with st:=r8.st++[(d.lto (L:Int),i.leave+d.ltr L,(-1:Int),(-1:Int))]}=q:=⟨_,rfl⟩;rw[hg9,hr9]at h9;have hgG9:(G8.set k g9)[k]?=some g9:=zV (qC.1 hgG8).1;have hrS9:(S8.set k r9)[k]?=some r9:=zV (qC.1 hrS8).1;have hb9:g9.b=g.b:=by rw[<- hg9]
  have o1:W9.cell? ⟨g.b,10,none⟩=some (.int .i64 r9.hd):=hb9▸(h9.it k g9 _ hgG9 hrS9).cell (j:=10) rfl;have o2:W9.frozen? ⟨g.b,10,none⟩=false:=hb9▸(h9.it k g9 _ hgG9 hrS9).free 10;obtain⟨i10,f10⟩:=(h9.it k g9 _ hgG9 hrS9).scal (r':={r9 with hd:=0}) h9.new (o:=10) (u:=.int .i64 0) rfl rfl rfl rfl rfl;rw[hb9]at i10 f10;have h10:=h9.item hgG9 hrS9 f10 i10 rfl rfl
  obtain⟨W10,hW10⟩:∃W10,W9.setCell ⟨g.b,10,none⟩ (.int .i64 0)=W10:=⟨_,rfl⟩;rw[hW10]at h10 f10;have F10:Frm z (itT k) W3 W10 uD:=F9.trans f10;obtain⟨y,hy⟩:∃y:Itm,{i with done:=i.done++[(i.off,i.arr,i.leave,i.line)],off:=d.lto i.line,arr:=i.leave+d.ltr i.line,seals:=i.seals++[sbD d i.line i.leave],holds:=0}=y:=⟨_,rfl⟩;have hyr:{r9 with hd:=0}=y.raw:=by rw[<- hr9,<- hr8,<- hr6,<- hy,<- hL];rfl
  have hyp:y.post=i.post:=by rw[<- hy]
  have hyl:y.lb=i.lb:=by rw[<- hy]
  rw[hyr,List.set_set,<- hS8,List.set_set,<- hS6,List.set_set,mf,List.set_set,<- hG8,List.set_set,<- hG,List.set_set]at h10;have hz3:∀j∈s,j.post.1.size<=1000/\0<=j.post.2.2.1/\j.post.2.2.1<d.N:=λj hj=>⟨(ok3 j hj).1.lz,(ok3 j hj).1.po⟩
  have oky:OkI d m s y:=by
   rw[<- hy];exact⟨⟨lb2,lb3⟩,⟨by show 0<=i.leave+d.ltr i.line;omega,by show i.leave+d.ltr i.line<=_;omega⟩,oki.sn,⟨by show(0:Int)<=0;omega,by show(0:Int)<=m;omega⟩,by show(i.done++_).length<=19;have:=oki.dl;simp;omega,oki.sl,oki.bl,by show(i.seals++_).length<=(i.done++_).length;have:=oki.el;simp;omega,oki.qy,oki.po,oki.lz⟩
  have hg10:(gs3.set k g9)[k]?=some g9:=zV (qC.1 hg).1;have hdec:=Nr E h10 (hbel F10) hg10 hi hyp oky hm hz3;rw[hyl,hb9]at hdec;have oN:W10.cell? ⟨N,0,none⟩=some (.pointer (some ⟨c.hb,0,none⟩)):=by
   have e:=((F3.trans (F10.sub (O':=λt=>4<t) λt h=>by have:=h.1;omega)).lo (b:=N) Z (by rw[tN _ Z];omega)).trans uN;simp[World.cell?,e]
  gi_wp2_with (refine⟨trivial,?_⟩;gi_at_call 109;refine(CallsIn.inRound l (callsIn_wide.2 hdec)).mono ?_;rintro e w' ⟨rfl,F11,H11⟩)
  have Ft:Frm z (itT k) W3 w' uD:=F10.trans F11;have hne:∀j,s.length=0->False:=λ_ h=>Z
  obtain⟨j,q,hj,hql,hqt⟩:=Bv oki.qy;have hq:=hz3 q (qZ hj);have hst:aBZ d cc (sbD d) T s=s.set k (jj d cc (iy s i.lb) y):=by
   unfold aBZ;rw[hk,hi,<- hy];rfl
  have hmv:jj d cc (iy s i.lb) y=tR d cc (sbD d) (iy s i.lb) i:=by rw[<- hy];rfl
  obtain⟨okY,okYL⟩:=Iq (cc:=cc) E oky (by rw[<- hy];exact lv) (tz:=iy s i.lb) (by rw[hqt];exact hq.2);have hpY:(jj d cc (iy s i.lb) y).post=i.post:=by rw[hmv];exact(BY i).1
  obtain⟨tg2,h2,e1,e2,e3⟩:=H11.clean (B:=U.heap.size) Z Z;refine⟨⟨Ft.chg.size,λb o hb ho hc=>(Ft.lo (qJ.1 ho).1 (by rw[nc3 b o hb ho hc];unfold itT;omega)).trans ho⟩,?_⟩;rw[hst];have Fw:Frm tg (λt=>4<t) U w' uD:=F3.trans (Ft.sub λt h=>by have:=h.1;omega);refine⟨tg2,_,⟨Fw.chg,λb hb=>(e1 b hb).trans (Fw.tag b hb),λb hb=>e3 b (Fw.new b hb)⟩,h2,λb o hb ho hc=>e2 b o hb ho hc,?_,?_,?_⟩
  .rw[List.map_set,hb9,hb3,<- hb3];apply wQ;intro a;rw[vS];split
   .rename_i ea;subst ea;rw[qQ,hg,if_pos (by rw[vX];exact(qC.1 hg).1)];rfl
   .rfl
  .intro x hx;rcases mem_set hx with hx | rfl
   .exact⟨(ok3 x hx).1.within λ_ h=>nN hi hpY h,(ok3 x hx).2⟩
   .exact⟨okY.within λ_ h=>nN hi hpY h,okYL⟩
  .rw[hmv,VU hi hdue (by have:=oki.dl;omega)];exact hp3
end Go.Eng.Top
