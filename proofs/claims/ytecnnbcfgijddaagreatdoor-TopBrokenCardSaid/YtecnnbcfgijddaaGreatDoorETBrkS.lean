/- ToT -/
import Derived.Test.YtecnnbcfgijddaaGreatDoorETBrkK
import Derived.Test.YtecnnbcfgijddaaGreatDoorETBrkR
import Derived.Sort.LoopGhostIn
import Derived.BigQuiet
set_option linter.unusedSimpArgs false
set_option linter.unusedVariables false
namespace Go.Eng.Top
open Go.Proofs Go.RowKit
attribute [local go_sem] Oper.semAt_some
def due(T:Int)(i:Itm):Prop:=0<=i.line/\i.leave<T
instance (T:Int) (i:Itm):Decidable (due T i):=by unfold due;infer_instance
def gu(T:Int)(s:List Itm):Nat:=s.findIdx λi=>decide (due T i)
def aBZ(d:Dat)(cc:Li)(sb:Int->Int->ByteArray)(T:Int)(s:List Itm):List Itm:=match s[gu T s]? with|some i=>s.set (gu T s) (tR d cc sb (iy s i.lb) i)|none=>s
theorem fst_eq{T:Int}{s:List Itm}{k:Nat}{i:Itm}(h:s[k]?=some i)(hd:due T i)(z:∀q,q<k->∀j,s[q]?=some j->¬due T j):gu T s=k:=by
 unfold gu;have f:=(qC.1 h);rw[List.findIdx_eq f.1];refine⟨by rw[f.2];exact qR hd,λj y=>?_⟩;have u:j<s.length:=by have:=f.1;omega
 exact qY (z j y _ (qB u))
theorem Xg{T:Int}{s:List Itm}(f:∀q,q<s.length->∀j,s[q]?=some j->¬due T j):¬gu T s<s.length:=λh=>by
 have u:=List.findIdx_getElem (p:=λi=>decide (due T i)) (w:=h);exact f _ h _ (qB h) (vO u)
theorem tQ(d:Dat)(cc:Li)(sb:Int->Int->ByteArray)(qy:Int)(i:Itm):(tR d cc sb qy i).done.length=i.done.length+1:=by
 unfold tR jj
 (repeat' split)<;>simp
def rdD(R:Nat)(c:HC)(cc:Li)(iv:Value)(bs:List Nat)(j h:Nat)(T:Int)(s:List Itm)(W:World):Prop:=
 ∃tg f,Hist W R tg c (s.map Itm.raw) cc f iv/\f.map Gh.b=bs/\W.cell? ⟨j,0,none⟩=some (.pointer (some ⟨c.hb,0,none⟩))/\W.cell? ⟨h,0,none⟩=some (.int .i64 T)/\∀i∈s,i.done.length<=19
set_option maxRecDepth 100000 in
set_option maxHeartbeats 4000000 in
theorem XC{R:Nat}{c:HC}{cc:Li}{iv:Value}{bs:List Nat}{B0 B1 n:Nat}{T:Int}{d:Dat}{sb:Int->Int->ByteArray}{s0:List Itm}(hl:s0.length<1000)(hn:1<=n):
  aBa Fence.wide n Tryz.prog 162 #[.pointer (some ⟨B0,0,none⟩),.pointer (some ⟨B1,0,none⟩)] (λs=>#[.pointer (some ⟨bs.getD (gu T s) 0,0,none⟩)]) (λs=>gu T s<s.length) (aBZ d cc sb T) (rdD R c cc iv bs B0 B1 T) s0 (λs=>¬gu T s<s.length):=by
 intro l J Jx W L hdr hY h0;obtain⟨tg,gs,H,hbs,c0,c1,hdl⟩:=L _ _ h0;obtain⟨av,cv,hiv⟩:=H.rows.sl;have hlen:gs.length=s0.length:=by have:=H.len;rw[vX]at this;exact this
 rw[hlen]at hiv;have c7:W.cell? ⟨c.hb,7,none⟩=some (.slice av s0.length cv):=hiv▸H.cell (j:=7) rfl;refine callsIn_of_wp Tryz.func162 rfl trivial ?_ rfl;simp only[Tryz.ntmps162,xB,wR,yZ,Nat.reduceAdd,Nat.reduceSub,Array.replicate_succ,Array.replicate_zero,List.push_toArray,List.append_toArray,xU,qCx]
 gi_wp2
 gi_loopg [11] (s0.length) (λg p wr=>∃(k:Nat) (s:List Itm),p=.int .i64 k/\k<=s.length/\J s wr/\(∀q,q<k->∀i,s[q]?=some i->¬due T i)/\s.length=s0.length/\g=s0.length-k)
 case atStart=>exact⟨0,s0,rfl,wK _,h0,λq h=>absurd h (Nat.not_lt_zero _),rfl,rfl⟩
 case round=>
  obtain⟨k,s,rfl,hk,hJ,hno,hsl,rfl⟩:=hrel;by_cases hlt:k<s0.length
  .have hk':((k:Int)<(s0.length:Int)):=by omega
   have hk0:(0:Int)<=(k:Int):=Z;obtain⟨tg1,gs1,H1,X,c01,c11,hdl1⟩:=L _ _ hJ;have hlen1:gs1.length=s0.length:=by have:=H1.len;rw[vX]at this;omega
   obtain⟨bk,f⟩:∃b,bs[k]?=some b:=⟨_,qB (by rw[<- X,vX];omega)⟩;obtain⟨ib,ic,hib,_⟩:=H1.rows.pos Z;obtain⟨rfl,rfl⟩:av=some ⟨ib,0,none⟩/\cv=ic:=by
    rw[hiv]at hib;injection hib with h1 _ h3
    exact⟨h1,h3⟩
   have hcel:wr.cell? ⟨ib,k,none⟩=some (.pointer (some ⟨bk,0,none⟩)):=by
    refine(hib▸H1.rows).cell ?_;rw[<- X,qQ]at f;rw[qQ];cases e:gs1[k]? with
    |none=>rw[e]at f;cases f
    |some g=>rw[e]at f;cases f;rfl
   gi_wp2
   obtain⟨i0,hi0⟩:∃i,s[k]?=some i:=⟨_,qB Z⟩
   gi_loopg [] (20-i0.done.length) (λg wx=>∃(s:List Itm),J s wx/\(∀q,q<k->∀i,s[q]?=some i->¬due T i)/\s.length=s0.length/\∃i,s[k]?=some i/\g=20-i.done.length)
   case atStart=>exact⟨s,hJ,hno,hsl,i0,hi0,rfl⟩
   case round=>
    obtain⟨u,hJ2,A,y,i,hi,rfl⟩:=hrel;obtain⟨tg2,gs2,H2,hbs2,c02,c12,hdl2⟩:=L _ _ hJ2;obtain⟨g,hg,hI⟩:=H2.get (aQ hi);have hgb:g.b=bk:=by
     rw[<- hbs2,qQ,hg]at f;exact(wE f)
    have l1:wr.cell? ⟨bk,11,none⟩=some (.int .i64 i.line):=hgb▸hI.cell (j:=11) rfl;have l2:wr.cell? ⟨bk,12,none⟩=some (.int .i64 i.leave):=hgb▸hI.cell (j:=12) rfl;have G:∀m,¬due T i->J u (wr.drewN m)/\∀q,q<k+1->∀j,u[q]?=some j->¬due T j:=λm hd=>⟨hdr _ _ m hJ2,λq hq j hj=>by
     rcases wW q k with h|h;exact A q h j hj;obtain rfl:q=k:=by omega
     rw[hi]at hj;obtain rfl:=wE hj;exact hd⟩
    by_cases h1:0<=i.line;case neg=>
     have h1':decide (i.line≥0)=false:=qY h1
     gi_wp2
     refine wpIn_wide.2 ?_
     go_quiet (fail)
     gi_wp2
     gi_roundg (s0.length-(k+1))
     case measure=>omega
     case rel=>exact⟨k+1,u,by go_num,Z,(G nq (λh=>absurd h.1 Z)).1,(G nq (λh=>absurd h.1 Z)).2,y,rfl⟩
    case pos=>
    have h1':decide (i.line≥0)=true:=qR h1;by_cases h2:i.leave<T;case neg=>
     have h2':decide (i.leave<T)=false:=qY h2
     gi_wp2
     refine wpIn_wide.2 ?_
     go_quiet (fail)
     gi_wp2
     gi_roundg (s0.length-(k+1))
     case measure=>omega
     case rel=>exact⟨k+1,u,by go_num,Z,(G nq (λh=>absurd h.2 Z)).1,(G nq (λh=>absurd h.2 Z)).2,y,rfl⟩
    case pos=>
    have h2':decide (i.leave<T)=true:=qR h2;have hf:gu T u=k:=fst_eq hi ⟨h1,h2⟩ A;have hy0:=λm=>hY u (wr.drewN m) (hdr _ _ m hJ2) (by rw[hf];omega);rw[hf,show bs.getD k 0=bk by simp[f]]at hy0
    gi_wp2
    refine wpIn_wide.2 ?_
    go_quiet (fail)
    obtain⟨fn,tmps,assign,body,hy,hR⟩:=hy0 nq
    gi_wp2
    have hst:aBZ d cc sb T u=u.set k (tR d cc sb (iy u i.lb) i):=by unfold aBZ;rw[hf,hi]
    rw[hst]at hR;have hkl:k<u.length:=Z;refine hR.mono ?_;rintro e W3 (⟨rfl,hJ3⟩|⟨rfl,hJx3⟩)
    .have z:(u.set k (tR d cc sb (iy u i.lb) i))[k]?=some (tR d cc sb (iy u i.lb) i):=zV hkl;have hm:i.done.length+1<=19:=by
      obtain⟨_,_,_,_,_,_,h5⟩:=L _ _ hJ3;have:=h5 _ (qZ z);rw[tQ]at this;exact this
     gi_wp2
     gi_roundg (20-(i.done.length+1))
     case measure=>omega
     case rel=>exact⟨_,hJ3,λq hq j hj=>A q hq j (by rw[zW Z]at hj;exact hj),by rw[zX];exact y,_,z,by rw[tQ]⟩
    .gi_wp2
     refine bodyPost_ret (results_none rfl _ _ _) rfl ?_;exact⟨⟨_,rfl⟩,.inr hJx3⟩
  have hk':¬((k:Int)<(s0.length:Int)):=by omega
  gi_wp2
  go_end0
  exact⟨⟨_,rfl⟩,.inl ⟨s,Nat.le_of_not_lt (Xg (λq hq=>hno q Z)),hJ⟩⟩
variable {tg tg' tg1:Tag} {O:Nat->Prop} {W W' V V' w0:World} {R k m:Nat} {g:Gh} {r:Raw} {c:HC} {rs:List Raw} {cc:Li} {gs:List Gh} {iv:Value} {d:Dat} {l:List Itm} {x:Itm}
theorem aBz(E:Env w0 R c d){f:Int}(y:d.lin f)(n:Nat):∀(lv t:Int),0<=lv/\lv<=2200000->0<=t->0<=(Bt d f n lv t).2/\(Bt d f n lv t).2<=2200000:=by
 induction n with
 |zero=>intro lv t h _;exact h
 |succ n j=>
  intro lv t h u;rw[Bt];by_cases e:d.dE f t=0;rw[if_pos e];have:=E.depb f t y u e;exact j _ _ ⟨Z,this.2⟩ Z;rw[if_neg e];exact h
theorem Iq(E:Env w0 R c d)(f:OkI d m l x)(u:0<=x.leave/\x.leave<=2200000){tz:Int}(ht:0<=tz/\tz<d.N):OkI d m l (jj d cc tz x)/\OkL d (jj d cc tz x):=by
 have ho:=f.off;obtain⟨a,A⟩:∃a:Nat,x.off=a:=⟨x.off.toNat,Z⟩;obtain⟨b,hb⟩:∃b:Nat,tz=b:=⟨tz.toNat,Z⟩;have h1:=(E.nxb a b Z Z).2;obtain⟨p1,p2,G,p4⟩:=E.offb a Z;have hm:0<=d.ps a*d.mn a:=qAc p1 G;unfold jj;split;exact⟨⟨f.off,f.arr,f.sn,f.hd,f.dl,f.sl,f.bl,f.el,f.qy,f.po,f.lz⟩,⟨.inl (by show(-1:Int)<0;omega),u,by show(-1:Int)<=-1;omega⟩⟩;split;exact⟨⟨f.off,f.arr,f.sn,f.hd,f.dl,f.sl,f.bl,f.el,f.qy,f.po,f.lz⟩,⟨.inl (by show(-1:Int)<0;omega),u,by show(-1:Int)<=-1;omega⟩⟩;rename_i L;have z:0<=d.nx x.off tz:=by
  rcases qCz (d.nx x.off tz) 0 with h|h;exact absurd (.inl h) L;exact h
 have j:d.lin (d.nx x.off tz):=by rw[A,hb]at z ⊢;exact h1 z
 have X:=f.arr;have y:=aBz E j (x.holds+1).toNat x.leave (max (x.arr+d.ps x.off*d.mn x.off) x.sn) u (by rw[A];omega);refine⟨⟨f.off,f.arr,f.sn,f.hd,f.dl,f.sl,f.bl,f.el,f.qy,f.po,f.lz⟩,⟨?_,y,?_⟩⟩;dsimp only;split;exact .inr j;exact .inl Z;dsimp only;split<;>omega
open Classical in
theorem Hist.clean{B:Nat}(H:Hist W R tg c rs cc gs iv)(hn:c.nb<B)(hc:c.cb<B):∃f,Hist W R f c rs cc gs iv/\(∀b,b<B->f b=tg b)/\(∀(b:Nat) (o:Obj),B<=b->W.heap[b]?=some o->o.isCells=false->f b=0)/\∀b,tg b=0->f b=0:=by
 obtain⟨f,G⟩:∃f:Tag,∀b,f b=if B<=b/\∃o:Obj,W.heap[b]?=some o/\o.isCells=false then 0 else tg b:=⟨_,λb=>rfl⟩;have y:∀b,b<B->f b=tg b:=λb u=>by rw[G,if_neg Z]
 have z:∀(b:Nat) (o:Obj),W.heap[b]?=some o->o.isCells=true->f b=tg b:=λb o u ho=>by
  rw[G,if_neg];rintro⟨_,o',L,A⟩;rw[u]at L;cases L;rw[ho]at A;cases A
 have X:∀b,tg b=0->f b=0:=λb u=>by rw[G];split;rfl;exact u
 have j:∀{t E sz n:Nat}{v:Value}{xs:Lv},eU W R tg t E sz v n xs->eU W R f t E sz v n xs:=λh=>⟨h.own,λb u=>by
  rcases h.own.2 with⟨rfl,_⟩|⟨q,cap,cur,rfl,_,h5,_⟩;cases u;cases u;exact(z _ _ h5 rfl).trans (h.tag _ rfl)⟩
 refine⟨f,⟨λb u=>X b (H.new b u),λb u=>X b (H.low b u),H.RW,H.hc,(z _ _ H.hc rfl).trans H.th,(y _ hn).trans H.tn,(y _ hc).trans H.tc,j H.rows,H.len,λk g r hg hr=>?_,H.nm,H.ca⟩,y,λb o u L A=>by rw[G,if_pos ⟨u,o,L,A⟩],X⟩;have h:=H.it k g r hg hr;exact⟨h.cel,h.bR,(z _ _ h.cel rfl).trans h.tb,j h.st,j h.si,j h.la,j h.se⟩
end Go.Eng.Top
