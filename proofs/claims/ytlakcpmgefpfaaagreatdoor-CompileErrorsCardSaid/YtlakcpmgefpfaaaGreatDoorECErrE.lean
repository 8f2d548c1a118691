/- PeH15b PeH16 PeH17 PeH17b PeH17c PeH18 PeH21 PeH21b PeH21c PeH22 -/
import Derived.Test.YtlakcpmgefpfaaaGreatDoorECErrD
import Derived.RecoverIn
import Derived.KernelRfl
set_option linter.all false
namespace Go.Eng
open Go.RowKit
structure OkS (c:Cfg) (S:Base):Prop where
 P:c.P=S.P
 G:c.G=S.G
 K:ai S.P S.G c.K
 I:bf S.P S.G c.KI
 m:S.P.follows .mixedOrders=true
 rd:S.rd≠none->S.N<=S.sv.length
 nod:S.rd=none->S.nod=!c.rng
 KP:bJ S.P S.G c.KP
def aP.mark {S:Base} {σ:Sig} {a:Act} {w:World} {D:Nat->Prop} {E:Nat->Ent} (h:aP S σ a w D E) (f:S.nod=false) {k:Nat} (g:S.w0.heap.size<=k) (i:D k) (hw:w.heap[k]?=some (.deferred (some []))) (b:∀d∈a.defers,d.target≠.collected k):
  aP S σ {a with defers:={target:=.collected k,args:=#[]}::a.defers} w D E:=
 ⟨h.sz,⟨⟨λe=>(by rw[f]at e;cases e),⟨_::h.df.1.2.1.choose,yP (_::·) h.df.1.2.1.choose_spec⟩,List.Pairwise.cons (λd hd=>(b d hd).symm) h.df.1.2.2⟩,λd hd=>by
  rcases zK.1 hd with e | e
  .exact .inr ⟨k,e,g,i,hw⟩
  .exact h.df.2 d e⟩,h.tm,h.bl,h.own,h.inj,h.low,h.dlt,h.dlo,h.dhi,h.gl,h.svr,h.pv⟩
variable {S:Base} {a:Act} {w:World} {R:Exit->Act->World->Prop}
def Zd{x:Code}(h:x.wpIn S.F 0 S.P R a w): At S.P S.rd x R a w:=Vv S.F_round S.F_fn S.F_depth h
def aGi(c:Cfg)(A:Ann)(x:Code): Prop:=∀(S:Base) (s:St) (Q:Exit->St->Prop) (R:Exit->Act->World->Prop),OkS c S->
  ev c A x s Q->s.tm.length=S.N->(∀e s',Q e s'->s'.tm.length=S.N->∀a w,Sim S s'.sig a w->R e a w)->∀a w,Sim S s.sig a w->At S.P S.rd x R a w
mutual
variable {s:St} {D:Nat->Prop} {E:Nat->Ent}
def H8(h:aP S s.sig a w D E): ∀{x:AV} {v:Value},x.rel S.P ⟨w,D,s.sig.m,E⟩ v->(Yc s.mem x).rel S.P ⟨w,qe s.sig.m E D,noM,noE⟩ v:=λ{x v} z=>by
 have L:Later ⟨w,D,s.sig.m,E⟩ ⟨w,qe s.sig.m E D,noM,noE⟩:=⟨λ_ g=>.inl g,λ_ _=>rfl⟩;have i:∀{y:AV} {u:Value},y.rel S.P ⟨w,D,s.sig.m,E⟩ u->(lr y).rel S.P ⟨w,qe s.sig.m E D,noM,noE⟩ u:=λ{y u} V=>
  AV.rel_mono L (λe f=>by rw[fW]at f;cases f) (AV.rel_forg V)
 unfold Yc;split
 .rename_i e;split
  .rename_i cs hm;obtain⟨_,q⟩:=z _ hm;obtain⟨_,T,O⟩:=q rfl;obtain⟨_,us,el,G,A⟩:=h.bl e _ hm;refine⟨(E e).b,0,us.toList,?_,.inr ⟨e,_,hm,T,rfl⟩,λj u X=>?_,?_⟩
   .rw[O];show Value.pointer (some ⟨(E e).b,0*_+0,none⟩)=_;rw[xW]
   .have r:w.heap[(E e).b]?=some (.cells us el (0,0)):=G;show w.cell? ⟨(E e).b,0+j,none⟩=some u;rw[qDv w _ _ us el (0,0) r,zD];simpa using X
   .exact AV.relL_mono L (λe f=>by rw[fh]at f;cases f) (AV.relL_forg A)
  .trivial
 .rename_i y;obtain⟨b,off,u,h1,h2,h3,h5⟩:=z;exact⟨b,off,u,h1,.inl h2,h3,H8 h h5⟩
 .exact i z
end
theorem H7 {S : Base} {s : St} {a : Act} {w : World} {D : Nat → Prop} {E : Nat → Ent} (h : aP S s.sig a w D E) : ∀ {xs : List AV} {vs : Lv}, AV.relL S.P ⟨w, D, s.sig.m, E⟩ xs vs → AV.relL S.P ⟨w, qe s.sig.m E D, noM, noE⟩ (KU s.mem xs) vs
  | [], _, hx => hx
  | _ :: _, _, ⟨u, us, e, h1, h2⟩ => ⟨u, us, e, H8 h h1, H7 h h2⟩
variable {gf:FuncId} {G:List (Nat×AV)} {g:Operand}
theorem P3 {G : List (Nat × AV)} {g : Operand} {gf : FuncId} {s : St} {l : List AV} (h : Nr G g gf s = some l) : ∃ caps, evT G s.sig.T g = .fn gf caps ∧ KU s.mem caps = l := by
  unfold Nr at h
  split at h
  · rename_i gf' caps e
    split at h
    · rename_i e2; subst e2; cases h; exact ⟨caps, e, rfl⟩
    · cases h
  · cases h
variable {caps:List AV}
def P2{m:Mem}{α:Type}{inv:α->Prop}{st:α->St}{t:Ty}{X:Prop}(h:Ub G g gf caps m inv st t X):
  X/\(AV.namesL caps≠[]->EZ t=true/\∀x,inv x->Nr G g gf (st x)=some (KU m caps)):=by
 unfold Ub at h;split at h
 .rename_i e;exact⟨h,λg=>(g (wY.1 e)).elim⟩
 .exact⟨h.2.2,λ_=>⟨h.1,h.2.1⟩⟩
variable {P:Program}
theorem Tt {P : Program} {w : World} {D : Nat → Prop} {t : Ty} {y : t.den} {u : Value} (h : EZ t = true) (hr : ag w D t y [u]) : AV.relL P ⟨w, D, noM, noE⟩ (Kv t y) [u] := by
  cases t with
  | pair a b => cases h
  | _ => exact ⟨u, [], rfl, hr, rfl⟩
def XO{t:Ty}{y:t.den}{n:Nat}(h:XM t n=true): (Kv t y).length=n:=by
 cases t with
 | pair a b=>simp only[XM,kK]at h;subst h;rfl
 | _=>simp only[XM,qC,kK]at h;rw[h.1];rfl
def Bc(t:Ty)(y:t.den): AV.namesL (Kv t y)=[]:=by
 have one:∀(t:Ty) (x:t.den),(sQ t x).names=[]:=λt x=>by
  unfold sQ;split
  .exact jf t x
  .rfl
 cases t with
 | pair a b=>show(sQ a y.1).names++((sQ b y.2).names++[])=[];rw[one,one];rfl
 | _=>rfl
def Jg: ∀(b:List Tmp) (vs tm:List AV),(Jh b vs tm).length=tm.length
 | [],_,_=>by unfold Jh;rfl
 | _::_,[],_=>rfl
 | p::b,v::vs,tm=>by
  show(Jh b vs (tm.set p v)).length=_;rw[Jg b vs,yG]
def Jf{C:Ctx}: ∀{b:List Tmp} {vs tm:List AV} {us:Lv} {tmps:Array Value},b.length=vs.length->AV.relL P C vs us->tm.length=tmps.size->(∀p∈b,p<tm.length)->(∀t,(tm.getD t .top).rel P C (tmps.getD t undef))->
  ∀t,((Jh b vs tm).getD t .top).rel P C (((b.zip us).foldl (λt (p,v)=>t.setIfInBounds p v) tmps).getD t undef)
 | [],[],_,_,_,_,j,_,_,h=>by
  cases j;exact h
 | p::b,v::vs,tm,us,tmps,g,j,y,z,h=>by
  obtain⟨u,i,rfl,L,G⟩:=j;show ∀t,((Jh b vs (tm.set p v)).getD t .top).rel P C (((b.zip i).foldl (λt (p,v)=>t.setIfInBounds p v) (tmps.setIfInBounds p u)).getD t undef);have f:=z p (by simp);refine Jf (by simpa using g) G (by simpa using y) (λq A=>by rw[yG];exact z q (by simp[A])) λt=>?_
  by_cases e:t=p
  .subst e;have x:(tm.set t v).getD t .top=v:=by rw[qA,qCb f];rfl
   have r:(tmps.setIfInBounds t u).getD t undef=u:=by simp[Array.getD,<- y,f]
   rw[x,r];exact L
  .have x:(tm.set p v).getD t .top=tm.getD t .top:=by
    simp only[qA];rw[qBq (λh=>e h.symm)]
   have r:(tmps.setIfInBounds p u).getD t undef=tmps.getD t undef:=by
    simp only[qQ,zS];rw[if_neg (λh=>e h.symm)]
   rw[x,r];exact h t
 | [],_::_,_,_,_,g,_,_,_,_=>by cases g
 | _::_,[],_,_,_,g,_,_,_,_=>by cases g
variable {c:Cfg}
def Yj(hI:bf P G c.KI){m:Mem}{it:jF}(hgf:gf<Aj)(A:aHH c m gf caps=some it)
  (O:it.pre) (l:Nat) (J:Nat->World->(Nat->Prop)->(Nat->Prop)->Prop) (JX:World->(Nat->Prop)->(Nat->Prop)->Prop) (JP:List PanicEntry->World->(Nat->Prop)->(Nat->Prop)->Prop) (w:World) (D:Nat->Prop) (us:Lv)
  (hD:∀b,D b->b<w.heap.size) (hG:lM P ⟨w,D,noM,noE⟩ G) (hcaps:AV.namesL caps=[]->AV.relL P ⟨w,D,noM,noE⟩ caps us)
  (T:AV.namesL caps≠[]->(∀k f i V,J k f i V->∃D:Nat->Prop,(∀b,D b->b<f.heap.size)/\lM P ⟨f,D,noM,noE⟩ G/\AV.relL P ⟨f,D,noM,noE⟩ (KU m caps) us)/\EZ it.t=true/\∀f i V,JX f i V->∃D:Nat->Prop,(∀b,D b->b<f.heap.size)/\lM P ⟨f,D,noM,noE⟩ G)
  (c1:∀k f j i V,J k f i V->Below f.heap.size f j->∀X:Nat->Prop,J k j (λb=>i b\/(iH f j b/\¬X b)) (λb=>V b\/(iH f j b/\X b)))
  (c2:∀k f (i z V V2:Nat->Prop),J k f i V->(∀b,z b->i b)->(∀b,V2 b->V b)->J k f z V2)
  (c3:∀k f j i V,J k f i V->Chg V f j->j.heap.size=f.heap.size->J k j i V)
  (x1:∀f j i V,JX f i V->Below f.heap.size f j->∀X:Nat->Prop,JX j (λb=>i b\/(iH f j b/\¬X b)) (λb=>V b\/(iH f j b/\X b)))
  (x2:∀f (i z V V2:Nat->Prop),JX f i V->(∀b,z b->i b)->(∀b,V2 b->V b)->JX f z V2)
  (x3:∀f j i V,JX f i V->Chg V f j->j.heap.size=f.heap.size->JX j i V)
  (p3:∀r f j i V,JP r f i V->Chg V f j->j.heap.size=f.heap.size->JP r j i V)
  (hy:∀k y W i V vs,it.L[k]?=some y->J k W i V->(∀b,i b->b<W.heap.size)->AV.relL P ⟨W,i,noM,noE⟩ (Kv it.t y) vs->YieldAt Fence.wide 0 P l vs.toArray W λe x=>
   W.heap.size<=x.heap.size/\(∀b,i b\/V b->x.heap[b]?=W.heap[b]?)/\((e=.returned (.bool true)/\J (k+1) x i V)\/(e=.returned (.bool false)/\JX x i V)\/∃r,e=.panicked r/\JP r x i V))
  (h0:J 0 w D noV):
  CallsIn Fence.wide 0 P gf (#[.func (.yield l) #[] #[]]++us.toArray) w λe x=>((∃v,e=.returned v)/\((∃z,J it.L.length x z noV)\/∃z,JX x z noV))\/∃r,e=.panicked r/\∃z V2,JP r x z V2:=by
 unfold aHH at A;split at A
 .rename_i e;exact hI.at hgf A O l J JX JP w D us hD hG (hcaps (wY.1 e)) c1 c2 c3 x1 x2 x3 p3 hy h0
 .rename_i e;obtain⟨l1,lf,l2⟩:=T λg=>e (wY.2 g)
  refine(hI.lent A O l (λk W=>J k W noV noV) (λW=>JX W noV noV) (λr W=>JP r W noV noV) w us (λk f h=>l1 k f _ _ h) (λf h=>l2 f _ _ h)
   (λk f j h hb=>c2 _ _ _ _ _ _ (c1 k f j _ _ h hb noV) (λ_ g=>g.elim) λ_ g=>g.elim) (λf j h hb=>x2 _ _ _ _ _ (x1 f j _ _ h hb noV) (λ_ g=>g.elim) λ_ g=>g.elim)
   (λk y W u h1 h2 h3=>?_) (c2 _ _ _ _ _ _ h0 (λ_ g=>g.elim) λ_ g=>g)).mono ?_
  .obtain⟨fn,tmps,as,body,g1,g2⟩:=hy k y W noV noV [u] h1 h2 (λ_ g=>g.elim) (Tt lf h3);exact⟨fn,tmps,as,body,g1,g2.mono λe x g=>⟨g.1,g.2.2⟩⟩
  .rintro e x (⟨g1,g2⟩ | ⟨r,g1,g2⟩)
   .exact .inl ⟨g1,g2.imp (λg=>⟨_,g⟩) λg=>⟨_,g⟩⟩
   .exact .inr ⟨r,g1,_,_,g2⟩
def aEi{A:Ann}{ps:Array Tmp}{as b:Code}(iha:aGi c A as)(ihb:aGi c A b): aGi c A (.rangeFunc g ps as b):=by
 intro S s Q R H h hl hR a w hs;unfold ev at h;split at h
 case h_2=>exact h.elim
 rename_i gf caps rid hev hid;obtain⟨pl,hps⟩:∃pl,ps.toList=pl:=⟨_,rfl⟩;rw[hps]at h;split at h
 case h_2=>exact h.elim
 rename_i it sp hki hsp;split at h
 case isFalse=>exact h.elim
 rename_i hc;obtain⟨⟨hpre,⟨x0,i1,i2,i3⟩,hround,hdone⟩,hlo⟩:=P2 h;simp only[Yu,qC,qE]at hc;obtain⟨⟨⟨⟨⟨hgoes,hgf⟩,hsv⟩,hrng⟩,hone⟩,hp⟩:=hc;have hp:∀p∈pl,p<s.tm.length:=λp g=>vN (qO.1 hp p g)
 obtain⟨D,E,hd⟩:=hs;have hrd:S.rd=none:=by
  cases hr:S.rd with
  | none=>rfl
  | some l=>
   have h1:=H.rd (by rw[hr];simp);have h2:=AV.relL_length hd.svr;have e:s.sig.sv=s.sv:=rfl;rw[e]at h2;omega
 have hnod:S.nod=false:=by rw[H.nod hrd,hrng];rfl
 have hgv:=fj hd g;rw[<- H.G,hev]at hgv;obtain⟨cs,hga,hcaps⟩:=hgv;unfold leP at i3;split at i3
 case h_2=>exact i3.elim
 rename_i ns0 hle0;have hlen0:=nJ hle0;obtain⟨D1,E1,hd1,up1,dn1,bl1⟩:=DJ hd hle0 (bR i3).1;obtain⟨dk,hdk⟩:∃dk,dk=w.heap.size:=⟨_,rfl⟩;rw[hrd];refine at_range λfn hfn=>?_
 obtain⟨rec,hrec⟩:∃rec:LoopState->Option Code->Loop,rec=λst pe=>{state:=st,pending:=pe,fn,tmps:=a.tmps,params:=ps,assign:=as,body:=b,defers:=w.heap.size}:=⟨_,rfl⟩
 obtain⟨W1,hW1⟩:∃W1,(w.alloc (.deferred (some []))).alloc (.loop (rec .ready none))=W1:=⟨_,rfl⟩;have hsz1:W1.heap.size=w.heap.size+2:=by rw[<- hW1];simp
 have hL1:W1.heap[w.heap.size+1]?=some (.loop (rec .ready none)):=by
  rw[<- hW1];have:=World.alloc_heap_new (w.alloc (.deferred (some []))) (.loop (rec .ready none));rwa [yE]at this
 have hK1:W1.heap[w.heap.size]?=some (.deferred (some [])):=by
  rw[<- hW1];exact(Below.heap_alloc _ _ _ (by simp)).trans (World.alloc_heap_new w _)
 have hb1:Below w.heap.size w W1:=by
  rw[<- hW1];exact((Below.refl _ w).alloc (qJ _) _).alloc (by simp) _
 have hbase:S.w0.heap.size<=w.heap.size:=hd1.low.size;have hne1:∀d∈a.defers,d.target≠.collected w.heap.size:=λd hd e=>by
  rcases hd1.df.2 d hd with⟨_,g⟩ | ⟨k,g1,_,g3,_⟩
  .exact g _ e
  rw[g1]at e;injection e with e
  have:=hd1.dlt k g3;omega
 have hd2:aP S (sp.st x0).sig {a with defers:={target:=.collected w.heap.size,args:=#[]}::a.defers} W1 (λb=>D1 b\/b=w.heap.size) E1:=by
  refine(hd1.world (D':=λb=>D1 b\/b=w.heap.size) hb1 (λb=>⟨λg=>?_,λg=>?_⟩) (λb g=>?_)).mark hnod hbase (.inr rfl) hK1 hne1
  .rcases g with g | g
   .exact .inl g
   .exact .inr ⟨⟨Z,Z⟩,.inr g⟩
  .rcases g with g | ⟨_,g⟩
   .exact .inl g
   .exact g
  .rcases g with g | g
   .have:=hd1.dlt b g;omega
   .omega
 refine⟨w.heap.size+1,[{target:=.collected w.heap.size,args:=#[]}],W1,{target:=.fn (.func gf) cs.toArray,args:=#[.func (.yield (w.heap.size+1)) #[] #[]]},W1,gf,
  #[.func (.yield (w.heap.size+1)) #[] #[]]++cs.toArray,W1,?_,?_,?_,?_⟩
 .rw[<- hW1,hrec];exact run_enterLoop_outer _ _ _ _ _
 .simp only[resolve,hga];simp[go_sem]
 .have:=lq (P:=S.P) (by rw[<- H.P];exact hgoes) W1 (#[.func (.yield (w.heap.size+1)) #[] #[]]++cs.toArray);simp only[invoke];exact this
 have hcaps1:AV.namesL caps=[]->AV.relL S.P ⟨W1,(λb=>D1 b\/b=w.heap.size),noM,noE⟩ caps cs:=λhnm=>
  AV.relL_mono (C:=⟨w,D,s.sig.m,E⟩) (C':=⟨W1,(λb=>D1 b\/b=w.heap.size),noM,noE⟩) ⟨λb g=>.inl (up1 b g),λb g=>hb1.block b (hd.dlt b g)⟩ (λk hk=>by rw[hnm]at hk;cases hk) hcaps
 have hl2:∀b,D1 b\/b=w.heap.size->b≠w.heap.size+1:=λb g e=>by
  rcases g with g | g
  .have:=hd1.dlt b g;omega
  .omega
 have he2:¬aJ (sp.st x0).sig.m E1 (w.heap.size+1):=λg0=>by
  have:=(hd1.ownAll g0).2.1;omega
 have hsz0:a.tmps.size=S.N:=hd.sz;obtain⟨J,hJ⟩:∃J:Nat->World->(Nat->Prop)->(Nat->Prop)->Prop,J=λk W Dit V=>∃x D E,sp.inv x/\sp.μ x=k/\
   aP S (sp.st x).sig {a with defers:={target:=.collected w.heap.size,args:=#[]}::a.defers} W D E/\(∀b,Dit b->D b)/\
   W.heap[w.heap.size+1]?=some (.loop (rec .ready none))/\¬D (w.heap.size+1)/\¬aJ (sp.st x).sig.m E (w.heap.size+1)/\(sp.st x).tm.length=S.N/\(∀b,V b->w.heap.size+1<b/\b<W.heap.size/\¬D b/\¬aJ (sp.st x).sig.m E b):=⟨_,rfl⟩
 obtain⟨JX,hJX⟩:∃JX:World->(Nat->Prop)->(Nat->Prop)->Prop,JX=λW Dit V=>∃cc s2 D E,((cc=Code.ret/\Q .ret s2)\/∃i,cc=Code.exit i/\Q (.exit i) s2)/\s2.tm.length=S.N/\
   aP S s2.sig {a with defers:={target:=.collected w.heap.size,args:=#[]}::a.defers} W D E/\(∀b,Dit b->D b)/\
   W.heap[w.heap.size+1]?=some (.loop (rec .done (some cc)))/\¬D (w.heap.size+1)/\¬aJ s2.sig.m E (w.heap.size+1)/\(∀b,V b->w.heap.size+1<b/\b<W.heap.size/\¬D b/\¬aJ s2.sig.m E b):=⟨_,rfl⟩
 obtain⟨JP,hJP⟩:∃JP:List PanicEntry->World->(Nat->Prop)->(Nat->Prop)->Prop,JP=λch W _ V=>∃s2 D E,Q (.panic ch) s2/\s2.tm.length=S.N/\
   aP S s2.sig {a with defers:={target:=.collected w.heap.size,args:=#[]}::a.defers} W D E/\(∀b,V b->w.heap.size+1<b/\b<W.heap.size/\¬D b/\¬aJ s2.sig.m E b):=⟨_,rfl⟩
 have grow:∀{W W2:World} {σ:Sig} {D:Nat->Prop} {E:Nat->Ent},aP S σ {a with defers:={target:=.collected w.heap.size,args:=#[]}::a.defers} W D E->Below W.heap.size W W2->∀X:Nat->Prop,
   aP S σ {a with defers:={target:=.collected w.heap.size,args:=#[]}::a.defers} W2 (λb=>D b\/(iH W W2 b/\¬X b)) E:=λ{W W2 σ D E} h hb X=>
  h.world (D':=λb=>D b\/(iH W W2 b/\¬X b)) hb (λb=>⟨λg=>g.imp id λg=>⟨g.1,.inr g⟩,λg=>g.elim .inl (·.2)⟩) λb g=>by
   rcases g with g | g
   .exact qX (h.dlt b g) hb.size
   .exact g.1.2
 have notAll:∀{W:World} {σ:Sig} {D:Nat->Prop} {E:Nat->Ent},aP S σ {a with defers:={target:=.collected w.heap.size,args:=#[]}::a.defers} W D E->∀b,W.heap.size<=b->¬aJ σ.m E b:=λh b hb g=>by
  have:=(h.ownAll g).2.1;omega
 have hbase0:S.w0.heap.size<=w.heap.size:=hbase;refine(Yj H.I hgf hki hpre (w.heap.size+1) J JX JP W1 (λb=>D1 b\/b=w.heap.size) cs (λb g=>?_) ?_ hcaps1 (λhnm=>⟨?_,(hlo hnm).1,?_⟩) ?_ ?_ ?_ ?_ ?_ ?_ ?_ ?_ ?_).mono ?_
 .rcases g with g | g
  .have:=hd1.dlt b g;omega
  .omega
 .exact lM.mono (C:=⟨w,D,s.sig.m,E⟩) (C':=⟨W1,(λb=>D1 b\/b=w.heap.size),noM,noE⟩) ⟨λb g=>.inl (up1 b g),λb g=>hb1.block b (hd.dlt b g)⟩ hd.gl
 .subst hJ;rintro k W Dit V ⟨x,D',E',j1,j2,j3,_⟩;obtain⟨capx,q1,q2⟩:=P3 ((hlo hnm).2 x j1);have hv:=fj j3 g;rw[<- H.G,q1]at hv;obtain⟨cs',g1,g2⟩:=hv;have g1':a.eval g=.func (.func gf) #[] cs'.toArray:=g1;rw[hga]at g1';have e:cs=cs':=by
   have:=(Value.func.injEq ..▸g1':_/\_/\_).2.2;simpa using yP Array.toList this
  subst e;refine⟨qe (sp.st x).sig.m E' D',λb hb=>?_,lM.mono (C:=⟨W,D',(sp.st x).sig.m,E'⟩) (C':=⟨W,qe (sp.st x).sig.m E' D',noM,noE⟩) ⟨λ_ g=>.inl g,λ_ _=>rfl⟩ j3.gl,q2▸H7 j3 g2⟩;rcases hb with hb | ⟨nm,blk,b1,b2,rfl⟩
  .exact j3.dlt b hb
  .exact(j3.own nm blk b1 b2).2.1
 .subst hJX;rintro W Dit V ⟨cc,s2,D',E',j1,j2,j3,_⟩;exact⟨D',j3.dlt,lM.mono (C:=⟨W,D',s2.sig.m,E'⟩) (C':=⟨W,D',noM,noE⟩) ⟨λ_ g=>g,λ_ _=>rfl⟩ j3.gl⟩
 .subst hJ;rintro k W W2 Dit V ⟨x,D',E',j1,j2,j3,j4,j5,j6,j7,j8,j9⟩ hb X;have hlt:w.heap.size+1<W.heap.size:=(vT.1 j5).1;refine⟨x,_,E',j1,j2,grow j3 hb X,λb g=>g.imp (j4 b) (λg=>g),(hb.block _ hlt).trans j5,λg=>?_,j7,j8,λb g=>?_⟩
  .rcases g with g | g
   .exact j6 g
   .have:=g.1.1;omega
  .rcases g with g | ⟨g,gx⟩
   .obtain⟨v1,v2,v3,v4⟩:=j9 b g;refine⟨v1,qX v2 hb.size,λg2=>?_,v4⟩;rcases g2 with g2 | g2
    .exact v3 g2
    .have:=g2.1.1;omega
   .refine⟨qX hlt g.1,g.2,λg2=>?_,notAll j3 b g.1⟩;rcases g2 with g2 | g2
    .have:=j3.dlt b g2;have:=g.1;omega
    .exact g2.2 gx
 .subst hJ;rintro k W Dit Dit2 V V2 ⟨x,D',E',j1,j2,j3,j4,j5,j6,j7,j8,j9⟩ hsub hsubV;exact⟨x,D',E',j1,j2,j3,λb g=>j4 b (hsub b g),j5,j6,j7,j8,λb g=>j9 b (hsubV b g)⟩
 .subst hJ;rintro k W W2 Dit V ⟨x,D',E',j1,j2,j3,j4,j5,j6,j7,j8,j9⟩ hc hsz;have hlt:w.heap.size+1<W.heap.size:=(vT.1 j5).1;refine⟨x,D',E',j1,j2,j3.lay hc hsz λb g=>?_,j4,(hc.block _ hlt λg=>?_).trans j5,j6,j7,j8,λb g=>?_⟩
  .obtain⟨v1,v2,v3,v4⟩:=j9 b g;exact⟨Z,v3,v4⟩
  .have:=(j9 _ g).1;omega
  .rw[hsz];exact j9 b g
 .subst hJX;rintro W W2 Dit V ⟨cc,s2,D',E',j1,j2,j3,j4,j5,j6,j7,j9⟩ hb X;have hlt:w.heap.size+1<W.heap.size:=(vT.1 j5).1;refine⟨cc,s2,_,E',j1,j2,grow j3 hb X,λb g=>g.imp (j4 b) (λg=>g),(hb.block _ hlt).trans j5,λg=>?_,j7,λb g=>?_⟩
  .rcases g with g | g
   .exact j6 g
   .have:=g.1.1;omega
  .rcases g with g | ⟨g,gx⟩
   .obtain⟨v1,v2,v3,v4⟩:=j9 b g;refine⟨v1,qX v2 hb.size,λg2=>?_,v4⟩;rcases g2 with g2 | g2
    .exact v3 g2
    .have:=g2.1.1;omega
   .refine⟨qX hlt g.1,g.2,λg2=>?_,notAll j3 b g.1⟩;rcases g2 with g2 | g2
    .have:=j3.dlt b g2;have:=g.1;omega
    .exact g2.2 gx
 .subst hJX;rintro W Dit Dit2 V V2 ⟨cc,s2,D',E',j1,j2,j3,j4,j5,j6,j7,j9⟩ hsub hsubV;exact⟨cc,s2,D',E',j1,j2,j3,λb g=>j4 b (hsub b g),j5,j6,j7,λb g=>j9 b (hsubV b g)⟩
 .subst hJX;rintro W W2 Dit V ⟨cc,s2,D',E',j1,j2,j3,j4,j5,j6,j7,j9⟩ hc hsz;have hlt:w.heap.size+1<W.heap.size:=(vT.1 j5).1;refine⟨cc,s2,D',E',j1,j2,j3.lay hc hsz λb g=>?_,j4,(hc.block _ hlt λg=>?_).trans j5,j6,j7,λb g=>?_⟩
  .obtain⟨v1,v2,v3,v4⟩:=j9 b g;exact⟨Z,v3,v4⟩
  .have:=(j9 _ g).1;omega
  .rw[hsz];exact j9 b g
 .subst hJP;rintro ch W W2 Dit V ⟨s2,D',E',j1,j2,j3,j9⟩ hc hsz;refine⟨s2,D',E',j1,j2,j3.lay hc hsz λb g=>?_,λb g=>?_⟩
  .obtain⟨v1,v2,v3,v4⟩:=j9 b g;exact⟨Z,v3,v4⟩
  .rw[hsz];exact j9 b g
 ·
  intro k y W Dit V vs hy hj hltd hu;rw[hJ]at hj;obtain⟨x,D',E',j1,j2,j3,j4,j5,j6,j7,j8,j9⟩:=hj;have hlt:w.heap.size+1<W.heap.size:=(vT.1 j5).1;have hpl:pl.length=(Kv it.t y).length:=(XO hone).symm;have hvl:vs.length=pl.length:=by rw[hpl];exact(AV.relL_length hu).symm
  have hpsz:ps.size=vs.toArray.size:=by
   have e:ps.size=pl.length:=by rw[<- hps,vP]
   rw[e,qAd,hvl]
  have hyl:=run_yield (P:=S.P) (args:=vs.toArray) j5 (by rw[hrec];simpa using hpsz.symm);rw[hrec]at hyl;obtain⟨tq,htq⟩:∃tq:Array Value,tq=(pl.zip vs).foldl (λt (p,v)=>t.setIfInBounds p v) a.tmps:=⟨_,rfl⟩;have htm:(ps.zip vs.toArray).foldl (λt (p,v)=>t.setIfInBounds p v) a.tmps=tq:=by
   have e:ps=pl.toArray:=by apply yQ;rw[hps]
   rw[e,htq,List.zip_toArray,List.foldl_toArray]
  refine⟨fn,_,as,b,hyl,?_⟩;rw[htm];refine MR hfn ?_;have hu':AV.relL S.P ⟨W,D',(sp.st x).sig.m,E'⟩ (Kv it.t y) vs:=AV.relL_mono (C:=⟨W,Dit,noM,noE⟩) (C':=⟨W,D',(sp.st x).sig.m,E'⟩) ⟨j4,λ_ _=>rfl⟩ (λnm g=>by rw[Bc]at g;cases g) hu;have tqs:tq.size=a.tmps.size:=by
   rw[htq];generalize a.tmps=t0;induction pl.zip vs generalizing t0 with
   | nil=>rfl
   | cons q r ih=>rw[kF,ih];simp
  have tms:∀t,((MS pl it.t y (sp.st x)).sig.T t).rel S.P ⟨W,D',(sp.st x).sig.m,E'⟩ (tq.getD t undef):=by
   rw[htq];exact Jf hpl hu' (by rw[j8,hsz0]) (λp g=>by rw[j8,<- hl];exact hp p g) j3.tm
  have svs:AV.relL S.P ⟨W,D',(sp.st x).sig.m,E'⟩ (sp.st x).tm a.tmps.toList:=by
   refine AV.relL_mk (by rw[j8,vP,hsz0]) λi av v hi hv=>?_
   have:=j3.tm i;have e1:(sp.st x).sig.T i=av:=by show(sp.st x).tm.getD i .top=av;rw[qA,hi];rfl
   have e2:a.tmps.getD i undef=v:=by
    rw[qQ];simp only[yM]at hv;rw[hv];rfl
   rw[e1]at this;simpa only[e2]using this
  have hent:=j3.enter (w.heap.size+1) (tm:=(MS pl it.t y (sp.st x)).sig.T) (tmps:=tq) (by rw[tqs];exact hsz0) tms (AV.relL_append svs j3.svr);obtain⟨Sr,f⟩:∃Sr:Base,Sr={P:=S.P,w0:=W,D0:=D',N:=S.N,O:=aJ (sp.st x).sig.m E',G:=S.G,sv:=a.tmps.toList++S.sv,rd:=some (w.heap.size+1),nod:=true}:=⟨_,rfl⟩;rw[<- f]at hent;have hNpos:S.N<=(a.tmps.toList++S.sv).length:=by
   rw[qF,vP,hsz0];omega
  have HOr:OkS c Sr:=by
   subst f;exact⟨H.P,H.G,H.K,H.I,H.m,λ_=>hNpos,λh=>(by cases h),H.KP⟩
  have hrr:Sr.rd=some (w.heap.size+1):=by rw[f]
  have hrx:=hround x y j1 (by rw[j2];exact hy);have hlr:(MS pl it.t y (sp.st x)).tm.length=Sr.N:=by
   subst f;show(Jh pl (Kv it.t y) (sp.st x).tm).length=S.N;rw[Jg];exact j8
  rw[<- hrr];have hPr:Sr.P=S.P:=by rw[f]
  rw[<- hPr];refine iha Sr _ _ _ HOr hrx hlr (λe s1 hq hl1 a1 w1 hs1=>?_) _ W ⟨D',E',hent⟩;cases e<;>first
   | exact hq.elim
   | skip
  obtain⟨D3,E3,h3⟩:=hs1;have nl3:¬D3 (w.heap.size+1):=λg=>by
   have:=h3.dhi _ g;rw[f]at this;rcases this with g1 | g1 | g1
   .exact j6 g1
   .simp only at g1;omega
   .exact j7 g1
  have ne3:¬aJ s1.sig.m E3 (w.heap.size+1):=λg0=>by
   have:=(h3.ownAll g0).1;rw[f]at this;rcases this with g4 | g4
   .simp only at g4;omega
   .exact j7 g4
  have hl3:w1.heap[w.heap.size+1]?=some (.loop (rec .ready none)):=by
   have:=h3.low.block (w.heap.size+1) (by rw[f];exact hlt) (by rw[f];exact j7);rw[this,f];exact j5
  have out3:∀q,q<W.heap.size->¬D' q->¬aJ (sp.st x).sig.m E' q->¬D3 q/\¬aJ s1.sig.m E3 q/\w1.heap[q]?=W.heap[q]?:=λq q1 q2 q3=>by
   refine⟨λg=>?_,λg=>?_,?_⟩
   .have:=h3.dhi _ g;rw[f]at this;rcases this with g1 | g1 | g1
    .exact q2 g1
    .simp only at g1;omega
    .exact q3 g1
   .have:=(h3.ownAll g).1;rw[f]at this;rcases this with g4 | g4
    .simp only at g4;omega
    .exact q3 g4
   .have:=h3.low.block q (by rw[f];exact q1) (by rw[f];exact q3);rw[this,f]
  have hdef3:a1.defers=[]:=(h3.df.1.1 (by rw[f])).trans (by rw[f]);have hlt3:w.heap.size+1<w1.heap.size:=(vT.1 hl3).1;have hbr:=run_beginRound (P:=S.P) hl3 (by rw[hrec]);refine⟨_,hPr▸hbr,?_⟩;have h4:=h3.again (.loop {rec .ready none with state:=.busy}) (by rw[f]) hdef3 nl3 ne3
  obtain⟨Sq,u⟩:∃Sq:Base,Sq={Sr with w0:=w1.putObj (w.heap.size+1) (.loop {rec .ready none with state:=.busy}),D0:=D3,O:=aJ s1.sig.m E3}:=⟨_,rfl⟩;rw[<- u]at h4;have HOq:OkS c Sq:=by
   rw[u];exact⟨HOr.P,HOr.G,HOr.K,HOr.I,HOr.m,HOr.rd,HOr.nod,HOr.KP⟩
  have hrq:Sq.rd=Sr.rd:=by rw[u]
  have hPq:Sq.P=Sr.P:=by rw[u]
  rw[<- hrq,<- hPq];have hlq:s1.tm.length=Sq.N:=by rw[u];exact hl1
  refine ihb Sq _ _ _ HOq hq hlq (λe s2 hq2 hl2 a2 w2 hs2=>?_) _ _ ⟨D3,E3,h4⟩;obtain⟨D5,E5,h5⟩:=hs2;have nl5:¬D5 (w.heap.size+1):=λg=>by
   have:=h5.dhi _ g;rw[u]at this;rcases this with g1 | g1 | g1
   .exact nl3 g1
   .simp only[World.putObj_size]at g1;omega
   .exact ne3 g1
  have ne5:¬aJ s2.sig.m E5 (w.heap.size+1):=λg0=>by
   have:=(h5.ownAll g0).1;rw[u]at this;rcases this with g4 | g4
   .simp only[World.putObj_size]at g4;omega
   .exact ne3 g4
  have hl5:w2.heap[w.heap.size+1]?=some (.loop {rec .ready none with state:=.busy}):=by
   have:=h5.low.block (w.heap.size+1) (by rw[u];simpa using hlt3) (by rw[u];exact ne3);rw[this,u];exact World.putObj_heap_same hlt3
  have out5:∀q,q<W.heap.size->¬D' q->¬aJ (sp.st x).sig.m E' q->q≠w.heap.size+1->¬D5 q/\¬aJ s2.sig.m E5 q/\w2.heap[q]?=W.heap[q]?:=λq q1 q2 q3 q4=>by
   obtain⟨o1,o2,o3⟩:=out3 q q1 q2 q3;have sz1:W.heap.size<=w1.heap.size:=by have:=h3.low.size;rw[f]at this;exact this
   refine⟨λg=>?_,λg=>?_,?_⟩
   .have:=h5.dhi _ g;rw[u]at this;rcases this with g1 | g1 | g1
    .exact o1 g1
    .simp only[World.putObj_size]at g1;omega
    .exact o2 g1
   .have:=(h5.ownAll g).1;rw[u]at this;rcases this with g4 | g4
    .simp only[World.putObj_size]at g4;omega
    .exact o2 g4
   .have:=h5.low.block q (by rw[u];simpa using qX q1 sz1) (by rw[u];exact o2);rw[this,u,<- o3];exact World.putObj_heap_other q4
  have outV:∀q,V q->w.heap.size+1<q/\q<W.heap.size/\¬D5 q/\¬aJ s2.sig.m E5 q/\w2.heap[q]?=W.heap[q]?:=λq g=>by
   obtain⟨v1,v2,v3,v4⟩:=j9 q g;exact⟨v1,v2,out5 q v2 v3 v4 Z⟩
  have keepD:∀j,D' j->w2.heap[j]?=W.heap[j]?:=λj L=>by
   have hbl:j<W.heap.size:=j3.dlt j L;have no1:¬aJ (sp.st x).sig.m E' j:=λg0=>(j3.ownAll g0).2.2 L
   have e1:w1.heap[j]?=W.heap[j]?:=by
    have:=h3.low.block j (by rw[f];exact hbl) (by rw[f];exact no1);rw[this,f]
   have hd3:D3 j:=h3.dlo j (by rw[f];exact L);have no3:¬aJ s1.sig.m E3 j:=λg0=>(h3.ownAll g0).2.2 hd3
   have hb3:j<w1.heap.size:=h3.dlt j hd3;have e2:w2.heap[j]?=(w1.putObj (w.heap.size+1) (.loop {rec .ready none with state:=.busy})).heap[j]?:=by
    have:=h5.low.block j (by rw[u];simpa using hb3) (by rw[u];exact no3);rw[this,u]
   rw[e2,World.putObj_heap_other (λe=>j6 (by rw[<- e];exact L)),e1]
  have subD:∀j,D' j->D5 j:=λj L=>h5.dlo j (by rw[u];exact h3.dlo j (by rw[f];exact L))
  have own1:∀j,aJ (sp.st x).sig.m E' j->S.w0.heap.size<=j\/S.O j:=λj g0=>(j3.ownAll g0).1
  have hbW:S.w0.heap.size<=W.heap.size:=j3.low.size;have own3:∀j,aJ s1.sig.m E3 j->S.w0.heap.size<=j\/S.O j:=λj g0=>by
   have:=(h3.ownAll g0).1;rw[f]at this;rcases this with g4 | g4
   .simp only at g4;exact .inl Z
   .exact own1 j g4
  have sz31:W.heap.size<=w1.heap.size:=by have:=h3.low.size;rw[f]at this;exact this
  have sz52:w1.heap.size<=w2.heap.size:=by have:=h5.low.size;rw[u]at this;simpa using this
  have low1:Chg S.O S.w0 w1:=j3.low.step (by have:=h3.low.os;rw[f]at this;exact this) (by have:=h3.low.tape;rw[f]at this;exact this) (by have:=h3.low.output;rw[f]at this;exact this) sz31 λq hq hno=>by
   have:=h3.low.block q (by rw[f];exact qX hq hbW) (by
    rw[f];intro g;rcases own1 q g with g | g
    .omega
    .exact hno g)
   rw[this,f]
  have low2:Chg S.O S.w0 w2:=low1.step (by have:=h5.low.os;rw[u]at this;exact this) (by have:=h5.low.tape;rw[u]at this;exact this) (by have:=h5.low.output;rw[u]at this;exact this) sz52 λq hq hno=>by
   have:=h5.low.block q (by rw[u];simpa using(by omega:q<w1.heap.size)) (by
    rw[u];intro g;rcases own3 q g with g | g
    .omega
    .exact hno g)
   rw[this,u];exact World.putObj_heap_other Z
  have dh:∀j,D5 j->S.D0 j\/S.w0.heap.size<=j\/S.O j:=λj L=>by
   have h6:=h5.dhi j L;rw[u]at h6;rcases h6 with g | g | g
   .have h7:=h3.dhi j g;rw[f]at h7;rcases h7 with g | g | g
    .exact j3.dhi j g
    .simp only at g;exact .inr (.inl Z)
    .exact(own1 j g).elim (λg=>.inr (.inl g)) (λg=>.inr (.inr g))
   .simp only[World.putObj_size]at g;exact .inr (.inl Z)
   .exact(own3 j g).elim (λg=>.inr (.inl g)) (λg=>.inr (.inr g))
  have hmarks:Marks S.nod S.w0.heap.size D5 w2 S.gd ({target:=.collected w.heap.size,args:=#[]}::a.defers):=
   ⟨j3.df.1,λd hd=>by
    rcases j3.df.2 d hd with g | ⟨q,q1,q2,q3,q4⟩
    .exact .inl g
    refine .inr ?_;exact⟨q,q1,q2,subD q q3,(keepD q q3).trans q4⟩⟩
  have hNS:s2.tm.length=S.N:=by rw[hl2,u,f]
  have hout:aP S (uX s2).sig {a with defers:={target:=.collected w.heap.size,args:=#[]}::a.defers} w2 D5 E5:=
   by
   have h9:=h5.leaveN (S:=S) (a0:={a with defers:={target:=.collected w.heap.size,args:=#[]}::a.defers}) (by rw[u,f]) (by rw[u,f]) (by rw[u,f]) hsz0 (λj g=>by
    rw[u]at g;rcases g with g | g
    .simp only[World.putObj_size]at g;exact .inl Z
    .exact own3 j g) low2 (λj g=>subD j (j3.dlo j g)) dh hmarks
   unfold uX;rw[hNS];exact h9
  have hlun:(uX s2).tm.length=S.N:=by
   have:=AV.relL_length h5.svr;show(s2.sv.take s2.tm.length).length=S.N;have e:s2.sig.sv=s2.sv:=rfl;rw[e]at this;rw[qL,this,hNS,u,f,qF,vP,hsz0];omega
  have hbase2:S.w0.heap.size<=w.heap.size+1:=Z;have hput:=λ(o:Obj)=>hout.putL (l:=w.heap.size+1) o hbase2 nl5 ne5
  have hlt5:w.heap.size+1<w2.heap.size:=(vT.1 hl5).1;have sameD:∀(o:Obj) (j:Nat),D' j->(w2.putObj (w.heap.size+1) o).heap[j]?=W.heap[j]?:=λo j L=>by
   rw[World.putObj_heap_other (λe=>j6 (by rw[<- e];exact L))];exact keepD j L
  have szo:∀o:Obj,W.heap.size<=(w2.putObj (w.heap.size+1) o).heap.size:=λo=>by simp;omega
  have sameV:∀(o:Obj) (j:Nat),Dit j\/V j->(w2.putObj (w.heap.size+1) o).heap[j]?=W.heap[j]?:=λo j L=>by
   rcases L with L | L
   .exact sameD o j (j4 j L)
   .obtain⟨v1,_,_,_,v5⟩:=outV j L;rw[World.putObj_heap_other Z];exact v5
  have fin:∀(jump:Option Code),(Instr.endRound (w.heap.size+1) jump).run S.P w2=.ok (.bool jump.isNone) (w2.putObj (w.heap.size+1) (.loop (rec (if jump.isNone then .ready else .done) jump))):=λjump=>by
   have:=run_endRound (P:=S.P) jump hl5;rw[hrec]at this ⊢;exact this
  have stop:∀cc,((cc=Code.ret/\Q .ret (uX s2))\/∃i,cc=Code.exit i/\Q (.exit i) (uX s2))->
    ∃v w',(Instr.endRound (w.heap.size+1) (some cc)).run S.P w2=.ok v w'/\(W.heap.size<=w'.heap.size/\(∀b,Dit b\/V b->w'.heap[b]?=W.heap[b]?)/\
     ((Ending.returned v=.returned (.bool true)/\J (k+1) w' Dit V)\/(Ending.returned v=.returned (.bool false)/\JX w' Dit V)\/∃ch,Ending.returned v=.panicked ch/\JP ch w' Dit V)):=λcc hcc=>by
   refine⟨_,_,fin (some cc),szo _,sameV _,.inr (.inl ⟨rfl,?_⟩)⟩;rw[hJX];exact⟨cc,uX s2,D5,E5,hcc,hlun,hput _,λj L=>subD j (j4 j L),World.putObj_heap_same hlt5,nl5,ne5,λb g=>by
    obtain⟨v1,v2,v3,v4,_⟩:=outV b g;exact⟨v1,qX v2 (szo _),v3,v4⟩⟩
  have hPP:Sq.P=S.P:=by rw[hPq,hPr]
  rw[hPP];cases e with
  | normal=>
   obtain⟨z,z1,z2,z3⟩:=hq2;unfold leP at z3;split at z3
   case h_2=>exact z3.elim
   rename_i nsz hlez;obtain⟨D6,E6,h6,u6,n6,b6⟩:=DJ (hput (.loop (rec .ready none))) hlez (bR z3).1;refine⟨_,_,fin none,szo _,sameV _,.inl ⟨rfl,?_⟩⟩;rw[hJ];refine⟨z,D6,E6,z1,Z,h6,λj L=>u6 j (subD j (j4 j L)),World.putObj_heap_same hlt5,λg=>?_,λg=>ne5 (b6 _ g),?_,λb g=>?_⟩
   .rcases n6 _ g with g | g
    .exact nl5 g
    .exact ne5 g
   .rw[<- nJ hlez];exact hlun
   .obtain⟨v1,v2,v3,v4,_⟩:=outV b g;refine⟨v1,qX v2 (szo _),λg2=>?_,λg2=>v4 (b6 _ g2)⟩;rcases n6 _ g2 with g2 | g2
    .exact v3 g2
    .exact v4 g2
  | ret=>exact stop .ret (.inl ⟨rfl,hq2⟩)
  | exit i=>exact stop (.exit i) (.inr ⟨i,rfl,hq2⟩)
  | goto t=>exact hq2.elim
  | panic ch=>
   refine⟨(h5.df.1.1 (by rw[u,f])).trans (by rw[u,f]),wH sz31 sz52,λj L=>L.elim (λg=>keepD j (j4 j g)) λg=>(outV j g).2.2.2.2,.inr (.inr ⟨ch,rfl,?_⟩)⟩;rw[hJP];exact⟨uX s2,D5,E5,hq2,hlun,hout,λb g=>by
    obtain⟨v1,v2,v3,v4,_⟩:=outV b g;exact⟨v1,qX v2 (wH sz31 sz52),v3,v4⟩⟩
  | outgrown=>exact hq2.elim
 .rw[hJ];exact⟨x0,_,E1,i1,i2,hd2,λ_ g=>g,hL1,λg=>hl2 _ g rfl,he2,by rw[<- hlen0];exact hl,λ_ g=>g.elim⟩
 ·
  rintro e W2 (⟨⟨v,rfl⟩,hj⟩ | ⟨ch,rfl,D2,V2,hj⟩)
  case inr=>
   rw[hJP]at hj;obtain⟨s2,D',E',q1,q2,q3,_⟩:=hj;exact hR (.panic ch) s2 q1 q2 _ _ ⟨D',E',q3⟩
  rcases hj with⟨D2,hj⟩ | ⟨D2,hj⟩
  .rw[hJ]at hj;obtain⟨x,D',E',j1,j2,j3,j4,j5,j6,j7,j8,_⟩:=hj;have hel:=run_endLoop (P:=S.P) j5 (by rw[hrec];simp);refine⟨none,_,(by rw[hrec]at hel;exact hel),?_⟩;exact hR .normal (sp.st x) (hdone x j1 j2) j8 _ _ ⟨D',E',j3.putL _ Z j6 j7⟩
  .rw[hJX]at hj;obtain⟨cc,s2,D',E',j1,j2,j3,j4,j5,j6,j7,_⟩:=hj;have hel:=run_endLoop (P:=S.P) j5 (by rw[hrec];simp);refine⟨some cc,_,(by rw[hrec]at hel;exact hel),?_⟩;rcases j1 with⟨rfl,hq⟩ | ⟨i,rfl,hq⟩
   .exact Vv (F:=Fence.wide) (n:=0) rfl (λ_=>trivial) rfl (wpIn_ret (hR .ret s2 hq j2 _ _ ⟨D',E',j3.putL _ Z j6 j7⟩))
   .exact Vv (F:=Fence.wide) (n:=0) rfl (λ_=>trivial) rfl (wpIn_exit (hR (.exit i) s2 hq j2 _ _ ⟨D',E',j3.putL _ Z j6 j7⟩))
def aP.slot {S:Base} {s:St} {a:Act} {w:World} {D:Nat->Prop} {E:Nat->Ent} (h:aP S s.sig a w D E) {d:Option Tmp} {v:Value} {x:AV} (i:s.tm.length=S.N) (hd:oW d s.tm.length=true)
  (j:x.rel S.P ⟨w,D,s.sig.m,E⟩ v):aP S (setSlot d x s).sig (a.put d v) w D E:=by
 have b:∀t,d=some t->t<S.N:=λt e=>by subst e;unfold oW at hd;rw[<- i];simpa using hd
 have r:=h.put (d:=d) (v:=v) (x:=x) b j;have e:(setSlot d x s).sig=⟨upT s.sig.T d x,s.sig.m,s.sig.sv⟩:=by
  unfold St.sig setSlot
  congr 1
  funext t
  cases d with
  | none=>simp[upT]
  | some d=>
   unfold upT;have f:d<s.tm.length:=by rw[i];exact b d rfl
   by_cases e:t=d
   .subst e;simp[qA,f]
   .have:¬d=t:=λg=>e g.symm
    simp[qA,yI,this,e]
 rw[e];exact r
variable {m:Nat->Option Blk} {ns:List Prop}
def PL{T:Nat->AV}{g:Bool}{o:Op}{r:zz}{b:List Nat}(h:Af c T m g o=some (ns,r,b)): ∀d,o≠.defer d:=λd e=>by rw[e]at h;cases h
def Kw{T b:Nat->AV}{g:Bool}{o:Op}(h:∀x∈o.operands.toList,evT c.G b x=evT c.G T x): Af c b m g o=Af c T m g o:=by
 unfold Af;split
 .rename_i x;rw[h x (by simp[Op.operands])]
 .rename_i f args _;have e:kr c b g args.toList=kr c T g args.toList:=by
   unfold kr;apply yA;intro x i;rw[h x (by simp[Op.operands,Call.operands];exact .inr (by simpa using i))]
  rw[e]
 .rfl
variable {σ:Sig}
theorem AE {c : Cfg} {S : Base} {σ : Sig} {a : Act} {w : World} {D : Nat → Prop} {E : Nat → Ent} (hG : c.G = S.G) (h : aP S σ a w D E) : ∀ {args : List Operand}, (∀ q ∈ (kr c σ.T true args).flatMap (·.2), q) →
    AV.relL S.P ⟨w, D, σ.m, E⟩ ((kr c σ.T true args).map (·.1)) (args.map a.eval)
  | [], _ => rfl
  | x :: args, hn => by
    have hx := fj h x
    rw [← hG] at hx
    refine ⟨_, _, rfl, od (g := true) rfl (fun q hq => hn q ?_) hx, AE hG h fun q hq => hn q ?_⟩
    · simp only [kr, zB, qAf, qI]; exact .inl hq
    · simp only [kr, zB, qAf, qI]; exact .inr hq
def Wc{C:Ctx}{a:AV}{v u:Value}(h:valOf a=some v)(b:a.rel P C u): u=v:=by
 unfold valOf at h;split at h
 .split at h
  .cases h;simpa only[AV.rel,ag,vF,vU]using b
  .cases h
 .cases h;exact b
 .cases h
theorem Tv {S : Base} {c : Cfg} (H : OkS c S) {σ : Sig} {a : Act} {w : World} {D : Nat → Prop} {E : Nat → Ent} (hd : aP S σ a w D E) {o : Oper} {ns : List Prop} {r : zz} {nms : List Nat} (hp : Af c σ.T σ.m true o.op = some (ns, r, nms)) (hns : ∀ q ∈ ns, q) (hpre : r.pre)
    (hrk : r.ok = false) {K : Act → World → Prop} {R : Exit → Act → World → Prop} (hR : ∀ w', Sim S (FD nms σ) a w' → R (.panic (chainOf r.pan)) a w') : o.wpIn S.F 0 S.P a w K R := by
  unfold Oper.wpIn
  refine ⟨fun f _ => S.F_fn f, ?_⟩
  rw [Oper.semAt_eq _ _ _ (PL hp)]
  unfold Af at hp
  split at hp
  · rename_i x hop
    split at hp
    case h_2 => cases hp
    rename_i t av ns' hx
    split at hp
    case h_2 => cases hp
    rename_i v hv
    cases hp
    have hrel := fj hd x
    rw [← H.G] at hrel
    have hrel := od (g := true) rfl (fun q hq => hns q (by rw [hx] at hq; exact hq)) hrel
    rw [hx] at hrel
    obtain ⟨u, hu, hur⟩ := hrel
    have hur := Wc hv hur
    subst hur
    have hexec : (execOp a.eval o).run S.P w = .halt (.panic (.iface t u)) w := by
      obtain ⟨dst, op, ty, pos, after, guard⟩ := o
      simp only at hop
      subst hop
      simp only [execOp, hu]
      rfl
    rw [hexec]
    refine hR w ⟨D, E, ?_⟩
    exact hd.dropped (ns := []) ⟨rfl, rfl, rfl, qJ _, fun _ _ _ => rfl⟩
  · rename_i f args at_ hop
    split at hp
    case isFalse => cases hp
    rename_i hc
    simp only [qC, wY] at hc
    obtain ⟨_, hgo⟩ := hc
    split at hp
    case h_2 => cases hp
    rename_i r' hkp
    cases hp
    have hargs := wo (ts := lO c.P f) (AE H.G hd hns)
    rw [← H.P] at hargs
    have hargs0 := A4 (cP σ.m (AV.namesL (Ag c.P (lO c.P f) ((kr c σ.T true args.toList).map (·.1))))) hargs
    have hG0 : lM S.P ⟨w, D, bN (ff σ.m (cP σ.m (AV.namesL (Ag c.P (lO c.P f) ((kr c σ.T true args.toList).map (·.1)))))), E⟩ S.G := lM.mono (C := ⟨w, D, σ.m, E⟩) ⟨fun _ g => g, fun _ _ => rfl⟩ hd.gl
    rw [H.P] at hargs0
    have hcall := H.KP _ _ _ _ (by rw [H.P] at hkp; exact hkp) hpre hrk w D E (args.toList.map a.eval) hd.dlt (by rw [H.P] at hG0; exact hG0) hargs0 (hd.heldOf _)
    have hexec : (execOp a.eval o).run S.P w = .ok (.enter f (args.toList.map a.eval).toArray) w := by
      obtain ⟨dst, op, ty, pos, after, guard⟩ := o
      simp only at hop
      subst hop
      have hg2 := lq (P := S.P) (by rw [← H.P]; exact hgo) w (args.map a.eval)
      have e1 : (args.toList.map a.eval).toArray = args.map a.eval := by rw [toList_map]
      rw [e1]
      simp only [execOp, resolve, Act.eval, Deferred.ofValue, wQ, yK, vX, invoke, Array.append_empty, gX]
      simpa using hg2
    rw [hexec, Oper.uponIn_enter]
    refine ⟨fun h => (by rw [S.F_depth] at h; cases h), Base.callsIn (hcall.mono fun e2 w2 he => ?_)⟩
    obtain ⟨rfl, hb⟩ := he
    refine hR w2 ⟨D, E, ?_⟩
    rw [H.P]
    exact hd.dropped hb
  · cases hp
variable {ops:Array Oper} {Q:Exit->St->Prop}
def J0(H:OkS c S)(hR:∀e s',Q e s'->s'.tm.length=S.N->∀a w,Sim S s'.sig a w->R e a w):
  ∀(os:List Oper) (j:Nat) (s:St),(∀i o,os[i]?=some o->ops[j+i]?=some o)->ZA c ops os s Q->s.tm.length=S.N->∀a w,Sim S s.sig a w->wpOpsIn S.F 0 S.P ops R (List.range' j os.length) a w
 | [],j,s,_,h,hl,a,w,hs=>by
  simp only[xI,qCg,wpOpsIn];simp only[ZA]at h;exact hR _ s h hl a w hs
 | o::os,j,s,O,h,hl,a,w,hs=>by
  have ho:ops[j]?=some o:=by simpa using O 0 o rfl
  have hos:∀i o',os[i]?=some o'->ops[j+1+i]?=some o':=λi o' hi=>by
   have:=O (i+1) o' (by simpa using hi);rw[show j+1+i=j+(i+1) by omega];exact this
  obtain⟨D,E,hd⟩:=hs;simp only[ZA]at h;split at h
  case h_2=>exact h.elim
  rename_i g A;have y:=FB (o:=o) hd A;rw[wS,qBn,wpOpsIn_cons];have step:∀{q:Rec},iJ c.P c.G c.K (c.mt o) ops s.nx s.sig o=some q->iu q s.tm.length=true/\HT q s=true->all q.need (ZA c ops os (cV q s) Q)->wpOpIn S.F 0 S.P ops R j (wpOpsIn S.F 0 S.P ops R (List.range' (j+1) os.length)) a w:=by
   intro q u v hall;obtain⟨V,b⟩:=bR hall;have hdst:∀d,o.dst=some d->d<S.N:=by
    intro d hdd;have e:q.dst=o.dst:=by
     unfold iJ at u;split at u
     .split at u
      .unfold KG at u;split at u
       .cases u;rfl
       .split at u
        .cases u;rfl
        .cases u
      .cases u
     .cases u
    have x:=v.1;unfold iu at x;simp only[qC]at x;have:=x.1;rw[e,hdd]at this;rw[<- hl];simpa using this
   have hq':iJ S.P S.G c.K (c.mt o) ops s.nx s.sig o=some q:=by rw[<- H.P,<- H.G];exact u
   have:=pC (Q:=R) H.K ho ⟨D,E,hd⟩ hdst hq' V (λk hk=>by
    have:=v.2;unfold HT at this;rw[hk]at this;exact Me this)
   refine wpOpIn_mono (λa' w' h'=>J0 H hR os (j+1) _ hos b (by rw[jC];exact hl) a' w' ?_) this;show Sim S (cV q s).sig a' w';rw[iw v.1];exact h'
  split at h
  ·
   rename_i ns r nms z;obtain⟨h1,x⟩:=h;by_cases L:g=true/\r.ok=false
   .obtain⟨rfl,hrk⟩:=L;obtain⟨V,hpre,b⟩:=bR (h1 rfl);have b:=b hrk;unfold wpOpIn;rw[ho];simp only;rw[y];simp only[kR];exact Tv H hd z V hpre hrk λw' hs'=>hR _ (FC nms s) b hl a w' (by rw[IY];exact hs')
   .have hgo:g=true->r.ok=true:=λe=>by
     cases hk:r.ok with
     | true=>rfl
     | false=>exact(L ⟨e,hk⟩).elim
    split at x
    ·
     rename_i T;have hg:g=false:=by
      cases hg:g with
      | false=>rfl
      | true=>
       have:=hgo hg;unfold Af at z;split at z
       .split at z
        .split at z
         .cases z;cases this
         .cases z
        .cases z
       .rename_i hop;rw[hop]at T;cases T
       .cases z
     split at x
     .rename_i X;have:o.guard=none:=by simpa using X
      rw[this]at A;simp only[QU,wM]at A;rw[<- A]at hg;cases hg
     .obtain⟨hdo,b⟩:=x;unfold wpOpIn;rw[ho];simp only;rw[y,hg];simp only[wE,xO];refine⟨λf _=>S.F_fn f,J0 H hR os (j+1) _ hos (b hg) (by simp[setSlot];split<;>simp[hl]) _ _ ⟨D,E,?_⟩⟩;exact hd.slot hl hdo ⟨λe=>(by rw[hg]at e;cases e),λ_=>rfl⟩
    .split at x
     case h_2=>exact x.elim
     rename_i q u;split at x
     case isFalse=>exact x.elim
     rename_i v;exact step u v (x hgo)
  .split at h
   case h_2=>exact h.elim
   rename_i q u;split at h
   case isFalse=>exact h.elim
   rename_i v;exact step u v h
def Gt(t:Nat): ∀(ts:List Tmp) (l:List AV),(py ts l).getD t .top=if t∈ts then .top else l.getD t .top
 | [],l=>by simp[py]
 | d::ts,l=>by
  simp only[py];rw[Gt t ts];by_cases b:t∈ts
  .rw[if_pos b,if_pos (wX _ b)]
  .rw[if_neg b];by_cases g:t=d
   .subst g;rw[if_pos wB,qA,yI];split
    .split<;>rfl
    .rename_i f;exact(f rfl).elim
   .rw[if_neg (λh=>(zK.1 h).elim g b),qA,qA,qBq (λe=>g e.symm)]
theorem aBi {S : Base} {σ : Sig} {s : St} {ops : Array Oper} {a : Act} {w : World} (h : Sim S σ a w) (hm : σ.m = s.sig.m) (hv : σ.sv = s.sig.sv) (hT : ∀ t, σ.T t = s.sig.T t ∨ t ∈ ops.toList.filterMap (·.dst)) : Sim S (aAd ops s).sig a w := by
  obtain ⟨D, E, hd⟩ := h
  obtain ⟨T, m, sv⟩ := σ
  simp only at hm hv hT
  subst hm hv
  refine ⟨D, E, hd.sz, hd.df, fun t => ?_, hd.bl, hd.own, hd.inj, hd.low, hd.dlt, hd.dlo, hd.dhi, hd.gl, hd.svr, hd.pv⟩
  show ((py (ops.toList.filterMap (·.dst)) s.tm).getD t .top).rel S.P _ _
  rw [Gt]
  split
  · trivial
  · rename_i hn
    rcases hT t with e | e
    · have h2 := hd.tm t
      show (s.sig.T t).rel S.P ⟨w, D, s.sig.m, E⟩ _
      rw [← e]
      exact h2
    · exact (hn e).elim
def kA{K:Kt}{mt:Bool}{nx:Nat}{o:Oper}{r:Rec}(h:iJ P G K mt ops nx σ o=some r): r.dst=o.dst/\∀x∈o.op.operands.toList,∀t,x=.tmp t->t∈r.reads:=by
 have this:r.dst=o.dst/\r.reads=o.op.operands.toList.flatMap Q9++uJ ops o.guard:=by
  unfold iJ at h;split at h
  .split at h
   .unfold KG at h;split at h
    .cases h;exact⟨rfl,rfl⟩
    .split at h
     .cases h;exact⟨rfl,rfl⟩
     .cases h
   .cases h
  .cases h
 refine⟨this.1,λx b t e=>?_⟩;rw[this.2,qI,xB];exact .inl ⟨x,b,by rw[e];simp[Q9]⟩
def AZ{rs:List Rec}{done:Nat->Bool}{dsts:List Tmp}{s:Sig}: ∀n,(∀j r,j<n->done j=true->rs[j]?=some r->r.upd=[]/\∀d,r.dst=some d->d∈dsts)->
  (fR (cj rs) done n s).m=s.m/\(fR (cj rs) done n s).sv=s.sv/\∀t,(fR (cj rs) done n s).T t=s.T t\/t∈dsts
 | 0,_=>⟨rfl,rfl,λ_=>.inl rfl⟩
 | n+1,h=>by
  obtain⟨g,f,b⟩:=AZ n λj r x=>h j r Z
  simp only[fR];split
  .rename_i hd;unfold cj;cases i:rs[n]? with
   | none=>exact⟨g,f,b⟩
   | some r=>
    obtain⟨v,u⟩:=h n r Z hd i;simp only[fq];refine⟨?_,f,λt=>?_⟩
    .rw[v];exact g
    .unfold upT;split
     .rename_i e;exact .inr (u t e.symm)
     .exact b t
  .exact⟨g,f,b⟩
theorem YF {S : Base} {c : Cfg} (H : OkS c S) {ops : Array Oper} {s : St} {Q : Exit → St → Prop} {R : Exit → Act → World → Prop} (hR : ∀ e s', Q e s' → s'.tm.length = S.N → ∀ a w, Sim S s'.sig a w → R e a w)
    (h : aCr c ops s Q) (hl : s.tm.length = S.N) {a : Act} {w : World} (hs : Sim S s.sig a w) {id : Nat} : (Code.region id ops true).wpIn S.F 0 S.P R a w := by
  unfold aCr at h
  split at h
  case h_2 => exact h.elim
  rename_i rs o hrs ho
  obtain ⟨q, hq⟩ : ∃ q, q = ops.toList.findIdx (Bl c) := ⟨_, rfl⟩
  obtain ⟨tbl, htbl⟩ : ∃ tbl, tbl = jD [] ops.toList := ⟨_, rfl⟩
  rw [← hq] at ho
  rw [← hq, ← htbl] at h
  split at h
  case isFalse => exact h.elim
  rename_i hc
  obtain ⟨k1, k2, k3, k4⟩ := hc
  split at h
  case h_2 => exact h.elim
  rename_i ns r nms hp
  obtain ⟨hlive, h⟩ := bR h
  obtain ⟨hns, hpre, hyes, hno⟩ := bR h
  obtain ⟨hlen, hat⟩ := vq hrs
  have hlen : rs.length = ops.size := by simpa using hlen
  have hat' : ∀ (j : Nat) o r, ops[j]? = some o → rs[j]? = some r → iJ S.P S.G c.K (aC6 c.mb o) ops (gu rs s j).nx (gu rs s j).sig o = some r ∧ iu r s.tm.length = true := fun j o r ho hr => by
    have := hat j o r (by simpa using ho) hr
    rw [H.P, H.G] at this
    exact this
  have hok : ∀ (j : Nat) (r : Rec), rs[j]? = some r → iu r s.tm.length = true := fun j r hr => by
    have hj : j < ops.size := by rw [← hlen]; exact (qG.1 hr).1
    exact (hat' j _ r (zW hj) hr).2
  have hqs : q < ops.size := (vT.1 ho).1
  have hdst : ∀ (j : Nat) o r, ops[j]? = some o → rs[j]? = some r → ∀ d, o.dst = some d → d < S.N := fun j o r ho hr d hd => by
    obtain ⟨h1, h2⟩ := hat' j o r ho hr
    unfold iu at h2
    simp only [qC] at h2
    have h3 := h2.1
    rw [(kA h1).1, hd] at h3
    rw [← hl]; simpa using h3
  cases hk : r.ok with
  | true =>
    obtain ⟨g1, g2⟩ := bR (hyes hk)
    have HR : Jq S c.K c.mb ops s rs := ⟨hlen, hat', hl, fun j r hr p hp => g1 p (xB.2 ⟨r, zV hr, hp⟩)⟩
    exact vQ H.K H.m HR k1 k2 hs.draw fun a' w' hs' => hR _ _ g2 ((lJ _ _ _).trans hl) a' w' hs'
  | false =>
    refine wpIn_region_any H.m ?_
    have notLive : ∀ j r, rs[j]? = some r → j ≠ q → (tbl.getD j 0).testBit q = false → (∀ p ∈ r.need, p) ∧ r.upd = [] := fun j r hr hjq hb => by
      have hj := (qG.1 hr).1
      have e : rs.getD j dflt = r := yq hr
      refine ⟨fun p hp => hlive p ?_, ?_⟩
      · unfold H3
        rw [xB]
        refine ⟨j, by simpa using hj, ?_⟩
        rw [if_neg (by simp [hjq]; rw [← xU] at hb; simpa using hb), e]; exact hp
      · unfold Tz at k3
        rw [qO] at k3
        have := k3 j (by simpa using hj)
        rw [e] at this
        simp only [yF, kK, hjq, false_or, hb, wE, qC, wY] at this
        exact this.1
    refine FG (mb := c.mb) (k := 0) (q := q) H.K hlen hl (fun j o r ho hr hlv => ⟨(hat' j o r ho hr).1, hdst j o r ho hr, (notLive j r hr hlv.2.1 hlv.2.2).1⟩) hok k1 k2 (fun h => absurd hqs (by omega))
      (fun _ n listed a1 w1 hsz hqf hcnt hanc hdesc hrok hsim => ?_) ops.size (Array.replicate ops.size false) a _ (by simp) ?_ (fun i hi => by omega) (fun _ => ?_) (fun i j hij hj hb hl => ?_) ?_
    · obtain ⟨rq, hrq⟩ : ∃ rq, rs[q]? = some rq := ⟨_, qB (by rw [hlen]; exact hqs)⟩
      obtain ⟨g1, _⟩ := hrok rq hrq
      have hgd : o.guard = none := by simpa using k4
      obtain ⟨D, E, hd⟩ := (show Sim _ _ _ _ from hsim)
      unfold wpOpIn
      rw [ho]
      simp only
      rw [show Region.wanted o (yielded ops a1.tmps) = true by unfold Region.wanted; rw [hgd]]
      simp only [kR]
      have hqt := AZ (rs := rs) (done := fun i => listed.getD i false) (dsts := ops.toList.filterMap (·.dst)) (s := s.sig) ops.size fun j r hj hdn hr => by
        have hoj := zW hj
        have hjq : j ≠ q := fun e => by subst e; rw [hqf] at hdn; cases hdn
        have hb : (tbl.getD j 0).testBit q = false := by
          cases hb : (tbl.getD j 0).testBit q with
          | false => rfl
          | true => have := hdesc j hb hj; rw [this] at hdn; cases hdn
        refine ⟨(notLive j r hr hjq hb).2, fun d hd => ?_⟩
        rw [(kA (hat' j _ r hoj hr).1).1] at hd
        rw [List.mem_filterMap]
        exact ⟨ops[j], by simp, hd⟩
      have hp' : Af c (fR (cj rs) (fun i => listed.getD i false) ops.size s.sig).T (fR (cj rs) (fun i => listed.getD i false) ops.size s.sig).m true o.op = some (ns, r, nms) := by
        rw [← hp, hqt.1]
        refine Kw fun x hx => ?_
        cases x with
        | tmp t => exact yP JO (g1 t ((kA (hat' q o rq ho hrq).1).2 _ hx t rfl))
        | _ => rfl
      refine Tv H hd hp' hns hpre hk fun w' hs' => hR _ (aAd ops (FC nms s)) (hno hk) ?_ a1 w' (aBi hs' ?_ ?_ ?_)
      · have : ∀ (ts : List Tmp) (l : List AV), (py ts l).length = l.length := by
          intro ts
          induction ts with
          | nil => intro l; rfl
          | cons d ts ih => intro l; simp [py, ih]
        exact (this _ _).trans hl
      · rw [IY]
        show (fun k => if nms.contains k = true then none else _) = (fun k => if nms.contains k = true then none else _)
        rw [hqt.1]
      · exact hqt.2.1
      · exact hqt.2.2
    · exact wH (zQ _ _) (by simp)
    · rw [qQ]; simp [hqs]
    · rw [qQ] at hl
      simp [hj] at hl
    · have : ∀ n, fR (cj rs) (fun i => (Array.replicate ops.size false).getD i false) n s.sig = s.sig := by
        intro n
        induction n with
        | zero => rfl
        | succ n ih =>
          have : (Array.replicate ops.size false).getD n false = false := by
            rw [qQ]
            cases h : (Array.replicate ops.size false)[n]? with
            | none => rfl
            | some v => rw [yU] at h; split at h <;> cases h; rfl
          simp only [fR, this, wE, xO]; exact ih
      rw [this]; exact hs.draw
def lX{A:Ann}: ∀(x:Code),aGi c A x
 | .skip,S,s,Q,R,H,h,L,u,a,w,v=>Zd (wpIn_skip (u _ s h L a w v))
 | .region id ops draw,S,s,Q,R,H,h,L,u,a,w,v=>by
  have key:∀s1:St,s1.tm.length=S.N->Sim S s1.sig a w->aFS c ops draw s1 Q->At S.P S.rd (Code.region id ops draw) R a w:=by
   intro s1 hl1 hs1 j;unfold aFS at j;split at j
   .split at j
    .rename_i X;subst X;exact Zd (YF H u j hl1 hs1)
    .rename_i X;have X:draw=false:=by simpa using X
     subst X;refine Zd (wpIn_region ?_);have:=J0 H u ops.toList 0 s1 (λi o ho=>by simpa using ho) j hl1 a w hs1;rw[qBm];simpa using this
   unfold aC3 at j;split at j
   .rename_i ns s' he;obtain⟨g1,g2⟩:=bR j;exact Zd (ZH H.P H.G H.K H.m he g1 hl1 hs1 λV w' f=>u _ s' g2 ((Td he).trans hl1) V w' f)
   .exact j.elim
  unfold ev at h;split at h
  .exact key s L v h
  .rename_i s1 _;split at h
   .rename_i ms hms;obtain⟨g1,g2⟩:=bR h;exact key s1 ((nJ hms).symm.trans L) (MJ v hms g1) g2
   .exact h.elim
 | .seq x y,S,s,Q,R,H,h,L,u,a,w,v=>by
  have key:ev c A x s (λe s'=>match e with | .normal=>ev c A y s' Q | e=>Q e s')->At S.P S.rd (Code.seq x y) R a w:=by
   intro h;refine zo (lX x S s _ _ H h L (λe s' T r V w' f=>?_) a w v);cases e<;>first
    | exact lX y S s' Q R H T r u V w' f
    | exact u _ s' T r V w' f
  unfold ev at h;split at h
  .split at h
   .rename_i sp _;obtain⟨h1,h2⟩:=h;refine zo (lX x S s _ _ H h1 L (λe s' T r V w' f=>?_) a w v);cases e<;>first
     | (obtain⟨y',g1,g2⟩:=T;exact lX y S _ Q R H (h2 y' g1) ((xg g2).symm.trans r) u V w' (EL g2 f))
     | exact u _ s' T r V w' f
   .exact key h
  .exact key h
 | .cond t x y,S,s,Q,R,H,h,L,u,a,w,v=>by
  unfold ev at h;split at h
  case h_2=>exact h.elim
  rename_i ns b hc;obtain⟨g1,g2,g3⟩:=bR h;obtain⟨D,E,hs0⟩:=id v;have O:=fj hs0 t;rw[<- H.G]at O;have hb:a.eval t=.bool b:=by
   unfold YQ at hc;split at hc
   .rename_i b' hv;cases hc;rw[hv]at O;simpa only[AV.rel,ag,vF,vU]using O
   .rename_i g b' hv;cases hc;rw[hv]at O;have hg:g=true:=g1 _ (by simp);simpa only[AV.rel,ag,vF,vU]using O.1 hg
   .cases hc
  exact aCF hb (λe=>lX x S s Q R H (g2 e) L u a w v) (λe=>lX y S s Q R H (g3 e) L u a w v)
 | .block id x,S,s,Q,R,H,h,L,u,a,w,v=>by
  unfold ev at h;refine ON (lX x S s _ _ H h L (λe s' T r V w' f=>?_) a w v);cases e<;>first
   | exact u _ s' T r V w' f
   | (rename_i id'
      simp only[Exit.inBlock];simp only at T;split at T
      .rename_i e;rw[if_pos e];exact u _ s' T r V w' f
      .rename_i e;rw[if_neg e];exact u _ s' T r V w' f)
 | .exit id,S,s,Q,R,H,h,L,u,a,w,v=>Zd (wpIn_exit (u _ s h L a w v))
 | .ret,S,s,Q,R,H,h,L,u,a,w,v=>Zd (wpIn_ret (u _ s h L a w v))
 | .loop x,S,s,Q,R,H,h,L,u,a,w,v=>by
  unfold ev at h;split at h
  case h_2=>exact h.elim
  split at h
  case h_2=>exact h.elim
  rename_i sp _;obtain⟨⟨x0,i1,i2⟩,h2⟩:=h;refine at_loop (λn a w=>∃y,sp.inv y/\sp.μ y=n/\(sp.st y).tm.length=S.N/\Sim S (sp.st y).sig a w) (sp.μ x0) ⟨x0,i1,rfl,(xg i2).symm.trans L,EL i2 v⟩ ?_;rintro n a w ⟨y,j1,rfl,j2,j3⟩;refine lX x S (sp.st y) _ _ H (Zj h2 y j1) j2 (λe s' T r V w' f=>?_) a w j3;cases e<;>first
   | (obtain⟨z,k1,k2,k3⟩:=T;exact⟨sp.μ z,k3,z,k1,rfl,(xg k2).symm.trans r,EL k2 f⟩)
   | exact u _ s' T r V w' f
 | .rangeFunc g ps x y,S,s,Q,R,H,h,L,u,a,w,v=>aEi (lX x) (lX y) S s Q R H h L u a w v
 | .scope x,S,s,Q,R,H,h,L,u,a,w,v=>by
  unfold ev at h;refine Zc (lX x S s _ _ H h L (λe s' T r V w' f=>?_) a w v);cases e<;>first
   | exact T.elim
   | exact u _ s' T r V w' f
 | .label _,S,s,Q,R,H,h,L,u,a,w,v=>by
  unfold ev at h;exact Zd (wpIn_label (u _ s h L a w v))
 | .goto _,S,s,Q,R,_,h,_,_,_,_,_=>by unfold ev at h;exact h.elim
 | .refuse _,S,s,Q,R,_,h,_,_,_,_,_=>by unfold ev at h;exact h.elim
end Go.Eng
namespace Go.Eng
open Go.RowKit
def TP{w:World}{k o:Nat}{x:Option (List Deferred)}(h:w.heap[k]?=some (.deferred x)): w.cell? ⟨k,o,none⟩=none:=by
 simp[World.cell?,h]
structure Shr (k:Nat) (C C':Ctx):Prop where
 at_:∃x,C.w.heap[k]?=some (.deferred x)
 w:∀b,b≠k->C'.w.heap[b]?=C.w.heap[b]?
 D:∀b,C.D b->b≠k->C'.D b
 m:C'.m=C.m
 E:C'.E=C.E
def Shr.cells {k:Nat} {C C':Ctx} (L:Shr k C C') {b o:Nat} {us:Lv} (f:cX C.w b o us) (h:0<us.length):b≠k/\cX C'.w b o us:=by
 have hb:b≠k:=λe=>by
  obtain⟨x,g⟩:=L.at_;subst e;have:=f 0 us[0] (by simp);rw[TP g]at this;cases this
 exact⟨hb,f.same (L.w b hb)⟩
def dA{k:Nat}{C C':Ctx}(L:Shr k C C'): ∀{t:Ty} {x:t.den} {us:Lv},ag C.w C.D t x us->ag C'.w C'.D t x us
 | .int _,_,_,h=>h
 | .bool,_,_,h=>h
 | .str,_,_,h=>h
 | .sl e,xs,us,h=>by
  obtain⟨T,cap,g,f,O,G,A⟩:=h;refine⟨T,cap,g,f,O,G,λi y z=>?_⟩;obtain⟨a,ue,g1,g2,g3,g4⟩:=A i y z;obtain⟨v,u⟩:=L.cells g3 (by rw[aX g4];exact Ty.sz_pos e);exact⟨a,ue,g1,L.D _ g2 v,u,dA L g4⟩
 | .pair a b,_,_,h=>by
  obtain⟨r,j,h,g,f⟩:=h;exact⟨r,j,h,dA L g,dA L f⟩
mutual
def dZ: AV->Bool
 | .clo1 _ _ _ _=>false
 | .clo2 _ _ _ _ _=>false
 | .slv _=>false
 | .agg cs=>jT cs
 | .tup cs=>jT cs
 | .fn _ cs=>jT cs
 | .ifc _ a=>dZ a
 | .grd _ a=>dZ a
 | .ipv a=>dZ a
 | .ips cs=>!cs.isEmpty&&jT cs
 | .sel _ cs=>jT cs
 | .pin _ a=>dZ a
 | _=>true
def jT: List AV->Bool
 | []=>true
 | a::as=>dZ a&&jT as
end
mutual
def AV.rel_shr {P:Program} {k:Nat} {C C':Ctx} (L:Shr k C C'):∀{a:AV} {v:Value},dZ a=true->a.rel P C v->a.rel P C' v
 | .top,_,_,_=>trivial
 | .dat _ _,_,_,h=>dA L h
 | .agg cs,_,z,h=>by
  obtain⟨us,G,A⟩:=h;exact⟨us,G,AV.relL_shr L (by simpa[dZ]using z) A⟩
 | .tup cs,_,z,h=>by
  obtain⟨us,G,A⟩:=h;exact⟨us,G,AV.relL_shr L (by simpa[dZ]using z) A⟩
 | .val _,_,_,h=>h
 | .buf T n,v,_,h=>by
  simp only[AV.rel]at h ⊢;rw[L.m,L.E];exact h
 | .ptr T g i c,v,_,h=>by
  simp only[AV.rel]at h ⊢;rw[L.m,L.E];exact h
 | .ip t x,_,_,h=>by
  obtain⟨b,off,us,G,A,O,h4⟩:=h;obtain⟨q1,X⟩:=L.cells O (by rw[aX h4];exact Ty.sz_pos t);exact⟨b,off,us,G,L.D _ A q1,X,dA L h4⟩
 | .fn f caps,_,z,h=>by
  obtain⟨us,G,A⟩:=h;exact⟨us,G,AV.relL_shr L (by simpa[dZ]using z) A⟩
 | .clo1 a r pre g,_,z,_=>by simp[dZ]at z
 | .clo2 a b r pre g,_,z,_=>by simp[dZ]at z
 | .ifc t a,_,z,h=>by
  obtain⟨u,G,A⟩:=h;exact⟨u,G,AV.rel_shr L (by simpa[dZ]using z) A⟩
 | .grd g a,_,z,h=>⟨λhg=>AV.rel_shr L (by simpa[dZ]using z) (h.1 hg),h.2⟩
 | .ipv a,_,z,h=>by
  obtain⟨b,off,u,G,A,O,V⟩:=h;have hb:b≠k:=λe=>by
   obtain⟨x,hx⟩:=L.at_;subst e;rw[TP hx]at O;cases O
  exact⟨b,off,u,G,L.D _ A hb,(cell?_same (L.w _ hb)).trans O,AV.rel_shr L (by simpa[dZ]using z) V⟩
 | .ips cs,_,z,h=>by
  obtain⟨b,off,us,G,A,O,V⟩:=h;simp only[dZ,qC,zY,List.isEmpty_eq_false_iff]at z;have hl:=AV.relL_length V;obtain⟨q1,X⟩:=L.cells O (by rw[<- hl];exact qCm.2 z.1);exact⟨b,off,us,G,L.D _ A q1,X,AV.relL_shr L z.2 V⟩
 | .ia t xs,_,_,h=>by
  obtain⟨b,off,G,A⟩:=h;exact⟨b,off,G,dA L A⟩
 | .yld _,_,_,h=>h
 | .view T n,v,_,h=>by
  simp only[AV.rel]at h ⊢;rw[L.m,L.E];exact h
 | .av _ _,_,_,h=>by
  obtain⟨us,G,A,O⟩:=h;exact⟨us,G,A,λi y hy=>dA L (O i y hy)⟩
 | .sel i cs,_,z,h=>by
  obtain⟨us,G,A⟩:=h;exact⟨us,AV.relL_shr L (by simpa[dZ]using z) G,A⟩
 | .row T g i kk,v,_,h=>by
  simp only[AV.rel]at h ⊢;rw[L.m,L.E];exact h
 | .rptr T g i kk j,v,_,h=>by
  simp only[AV.rel]at h ⊢;rw[L.m,L.E];exact h
 | .pin u a,_,z,h=>⟨h.1,AV.rel_shr L (by simpa[dZ]using z) h.2⟩
def AV.relL_shr {P:Program} {k:Nat} {C C':Ctx} (L:Shr k C C'):∀{as:List AV} {us:Lv},jT as=true->AV.relL P C as us->AV.relL P C' as us
 | [],_,_,h=>h
 | a::as,_,e,h=>by
  obtain⟨u,b,i,g,f⟩:=h;simp only[jT,qC]at e;exact⟨u,b,i,AV.rel_shr L e.1 g,AV.relL_shr L e.2 f⟩
end
def Tq: Blk->Bool
 | .var cs=>jT cs
 | .buf _ _ _ ov=>jT (ov.map (·.2))
 | .mat _ _ _ _ _=>false
def XK{ov:List (Nat×AV)}{i:Nat}{a:AV}(f:jT (ov.map (·.2))=true)(e:ov.lookup i=some a): dZ a=true:=by
 induction ov with
 | nil=>simp at e
 | cons p ov g=>
  obtain⟨j,b⟩:=p;simp only[zB,jT,qC]at f;simp only[List.lookup]at e;split at e
  .cases e;exact f.1
  .exact g f.2 e
def eJ.shr {P:Program} {base k:Nat} {C C':Ctx} (L:Shr k C C') {e:Ent} {b:Blk} (v:Tq b=true) (G:e.isNil=false->e.b≠k) (h:eJ P base C e b):eJ P base C' e b:=by
 cases b with
 | var cs=>
  obtain⟨O,us,el,j,z⟩:=h;exact⟨O,us,el,(L.w _ (G O)).trans j,AV.relL_shr L v z⟩
 | buf el t xs ov=>
  obtain⟨raw,j,z⟩:=h;refine⟨raw,⟨j.1,?_⟩,λi y T=>?_⟩
  .rcases j.2 with h | ⟨g,cap,A,f,X,V,r⟩
   .exact .inl h
   .refine .inr ⟨g,cap,A,f,X,?_,r⟩;unfold Ent.handle at f;split at f
    .cases f
    .rename_i hi;simp only[yD,wM,qAc,vU,yB]at f;rw[<- f.1,L.w _ (G (by simpa using hi)),f.1];exact V
  .have g:=z i y T;cases x:ov.lookup i with
   | none=>rw[x]at g;exact dA L g
   | some a=>
    rw[x]at g;obtain⟨g1,u,g2,g4,g3⟩:=g;exact⟨g1,u,g2,g4,AV.rel_shr L (XK v x) g3⟩
 | mat el eli t xss ov=>cases v
def lY(a:AV): AV:=if dZ a then a else .top
def sweep(rng:Bool)(s:St): Option St:=
 if rng then
  if s.mem.all (λp=>Tq p.2)&&jT s.sv then some {s with tm:=s.tm.map lY} else none
 else some s
structure Jr (σ:Sig):Prop where
 T:∀t,dZ (σ.T t)=true
 m:∀nm b,σ.m nm=some b->Tq b=true
 sv:jT σ.sv=true
section
variable {S:Base}
def aP.shr {σ:Sig} {a:Act} {w:World} {D:Nat->Prop} {E:Nat->Ent} {k:Nat} {ds:List Deferred} (h:aP {S with G:=[]} σ {a with defers:={target:=.collected k,args:=#[]}::ds} w D E) (r:Jr σ)
  (O:∀b,S.D0 b->b<S.w0.heap.size) (v:∀d∈S.gd,∀k,d.target≠.collected k):w.heap[k]?=some (.deferred (some []))/\aP {S with G:=[]} σ {a with defers:=ds} (w.putObj k (.deferred none)) (λb=>D b/\b≠k) E:=by
 obtain⟨⟨dn,⟨ms,y⟩,dp⟩,dm⟩:=h.df;rcases dm _ wB with⟨_,g⟩ | ⟨k',e1,e2,e3,e4⟩
 .exact(g k rfl).elim
 simp only[Deferred.mk.injEq,Target.collected.injEq,vU]at e1;subst e1;have L:Shr k ⟨w,D,σ.m,E⟩ ⟨w.putObj k (.deferred none),λb=>D b/\b≠k,σ.m,E⟩:=
  ⟨⟨_,e4⟩,λb hb=>World.putObj_heap_other hb,λb hb hk=>⟨hb,hk⟩,rfl,rfl⟩
 have ek:∀f b,σ.m f=some b->(E f).isNil=false->(E f).b≠k:=λf b hm hi e=>(h.own f b hm hi).2.2 (e▸e3)
 have j:∀f i b,cA σ.m E f i b->False:=λf i b g=>by
  obtain⟨_,_,_,_,_,_,g1,_⟩:=g;have:=r.m f _ g1;cases this
 have A:∃z,ds=z++S.gd:=by
  cases ms with
  | nil=>
   have hh:({target:=.collected k,args:=#[]}:Deferred)∈S.gd:=by
    have:S.gd={target:=.collected k,args:=#[]}::ds:=y.symm;rw[this];exact wB
   exact(v _ hh k rfl).elim
  | cons x ms=>exact⟨ms,(List.cons.inj y).2⟩
 refine⟨e4,h.sz,⟨⟨λe=>(by
  have X:{target:=.collected k,args:=#[]}::ds=S.gd:=dn e
  exact(v _ (X▸wB) k rfl).elim),A,(yY.1 dp).2⟩,λd hd=>?_⟩,λt=>AV.rel_shr L (r.T t) (h.tm t),λf b hm=>(h.bl f b hm).shr L (r.m f b hm) (ek f b hm),λf b hm hi=>?_,h.inj,?_,λb hb=>?_,λb hb=>⟨h.dlo b hb,?_⟩,λb hb=>h.dhi b hb.1,λp r=>(by cases r),AV.relL_shr L r.sv h.svr,⟨λf i b g=>(j f i b g).elim,λf i b g=>(j f i b g).elim,λf i b _ _ g=>(j f i b g).elim⟩⟩
 .rcases dm d (wX _ hd)with g | ⟨q,V,q2,q3,q4⟩
  .exact .inl g
  have u:q≠k:=λe=>(yY.1 dp).1 d hd (by rw[V,e])
  exact .inr ⟨q,V,q2,⟨q3,u⟩,(World.putObj_heap_other u).trans q4⟩
 .obtain⟨g1,g2,g3⟩:=h.own f b hm hi;exact⟨g1,by simpa using g2,λhd=>g3 hd.1⟩
 .refine h.low.step rfl rfl rfl (by simp) λq hq _=>World.putObj_heap_other λe=>?_
  have:S.w0.heap.size<=k:=e2;have:q<S.w0.heap.size:=hq;omega
 .have:=h.dlt b hb.1;simpa using this
 .intro e;have X:b<S.w0.heap.size:=O b hb;have h2:S.w0.heap.size<=k:=e2;omega
def HZ{fn:Func}{R:Ending->World->Prop}(e:S.gd=[])(f:∀b,S.D0 b->b<S.w0.heap.size){σ:Sig}(r:Jr σ){E:Nat->Ent}{tmps:Array Value}: ∀(ds:List Deferred) (w:World) (D:Nat->Prop),
  aP {S with G:=[]} σ {tmps:=tmps,defers:=ds} w D E->(∀i y,aP {S with G:=[]} σ {tmps:=tmps,defers:=[]} i y E->∃v,(results fn tmps).run S.P i=.ok v i/\R (.returned v) i)->
  LeavesInM Fence.wide 0 S.P fn tmps R ds .returning w
 | [],w,D,h,j=>j w D h
 | d::ds,w,D,h,j=>by
  rcases h.df.2 d wB with⟨g,_⟩ | ⟨k,rfl,_⟩
  .have g:d∈S.gd:=g;rw[e]at g;cases g
  obtain⟨x,u⟩:=aP.shr (a:={tmps:=tmps,defers:=[]}) h r f (by rw[e];intro d hd;cases hd);exact⟨by simp,.inl ⟨k,_,rfl,run_takeDeferred x,HZ e f r ds _ _ u j⟩⟩
end
def J9(P:Program)(s:St): List ResultVar->Option (List Prop×List AV)
 | []=>some ([],[])
 | .tmp t::rs=>match J9 P s rs with
  | some (ns,vs)=>some (ns,s.sig.T t::vs)
  | none=>none
 | .cell a t::rs=>match KN P t (s.sig.T a,cJ s.sig.m (s.sig.T a)),J9 P s rs with
  | some c,some (ns,vs)=>some (c.need++ns,c.val::vs)
  | _,_=>none
def aHl(P:Program)(s:St)(rs:List ResultVar): Option (List Prop×AV):=match J9 P s rs with
 | some (ns,[v])=>some (ns,v)
 | some (ns,vs)=>some (ns,.tup vs)
 | none=>none
def lj(m:Mem)(k:Nat): Nat:=match m.lookup k with | some b=>b.len | none=>0
def tokens(m:Mem): List AV:=m.map λp=>.buf p.1 (lj m p.1)
def IV(m upd:Mem): Mem:=match m with
 | []=>upd
 | m=>m.map λp=>(p.1,(upd.lookup p.1).getD p.2)
def aCo(ret:AV)(m upd:Mem): St:={tm:=[ret],mem:=IV m upd,nx:=0,sv:=tokens m}
def VQ(P:Program)(rng:Bool)(fn:Func)(m:Mem)(r:jG)(s:St): Prop:=match sweep rng s with
 | some s1=>match aHl P s1 fn.results.toList with
  | some (ns,v)=>match VS {s1 with tm:=[v]} (aCo r.ret m r.upd)with
   | some ms=>all ns (all ms True)
   | none=>False
  | none=>False
 | none=>False
def aJQ(P:Program)(rng:Bool)(fn:Func)(m:Mem)(r:jG): Exit->St->Prop
 | .normal,s=>VQ P rng fn m r s
 | .ret,s=>VQ P rng fn m r s
 | _,_=>False
def ZP: Mem->Nat
 | []=>0
 | p::r=>max (p.1+1) (ZP r)
def fP(fn:Func)(args:List AV)(m:Mem): St:=⟨args++List.replicate (fn.ntmps-args.length) (.val undef),m,ZP m,tokens m⟩
def ry(m:Mem): Mem->List Prop
 | []=>[]
 | (k,b)::r=>Yt (lj m k) b::ry m r
def Bq(m upd:Mem): List Prop:=match m with
 | []=>[]
 | m=>ry m upd
def jq(m:Mem): Bool:=m.all λp=>p.2.simple
def evF(c:Cfg)(A:Ann)(f:FuncId)(args:List AV)(m:Mem)(r:jG): Prop:=match c.P.funcs[f]? with
 | some fn=>match fn.body with
  | some b=>(m.isEmpty||((r.upd.all λp=>m.any λq=>q.1==p.1)&&(jq m&&jq r.upd&&r.ret.simple)))=true/\(r.pre->all (Bq m r.upd) (ev c A b (fP fn args m) (aJQ c.P c.rng fn m r)))
  | none=>False
 | none=>False
end Go.Eng
namespace Go.Eng
open Go.RowKit
variable {P:Program}
def EG{t:TypeId}{v r:Value}{w w':World}(h:(Instr.loadAt t v).run P w=.ok r w'): (do loadVar t (<- asAddr v):Sem Value).run P w=.ok r w':=by
 cases v with
 | pointer a=>
  cases a with
  | some a=>simpa[Instr.loadAt,Instr.sureAddr,asAddr]using h
  | none=>simp[Instr.loadAt,Instr.sureAddr,wQ,stuck,Sem.run,Result.andThen]at h
 | _=>simp[Instr.loadAt,Instr.sureAddr,wQ,stuck,Sem.run,Result.andThen]at h
variable {S:Base} {D:Nat->Prop} {a:Act} {w:World} {E:Nat->Ent}
def pM{s:St}(h:aP S s.sig a w D E): ∀{rs:List ResultVar} {ns:List Prop} {vs:List AV},J9 S.P s rs=some (ns,vs)->(∀q∈ns,q)->
  ∃us:Lv,((rs.mapM fun | ResultVar.tmp t=>pure (a.tmps.getD t undef) | .cell f t=>do loadVar t (<- asAddr (a.tmps.getD f undef))):Sem (Lv)).run S.P w=.ok us w/\AV.relL S.P ⟨w,D,s.sig.m,E⟩ vs us
 | [],ns,vs,b,_=>by
  simp only[J9]at b;cases b;exact⟨[],by simp,rfl⟩
 | .tmp t::rs,ns,vs,b,g=>by
  simp only[J9]at b;split at b
  case h_2=>cases b
  rename_i j i e;cases b;obtain⟨us,g1,g2⟩:=pM h e g;refine⟨a.tmps.getD t undef::us,?_,_,us,rfl,h.tm t,g2⟩;rw[qDy];simp only[pure_bind,wQ,g1,vX,yK]
 | .cell f t::rs,ns,vs,b,g=>by
  simp only[J9]at b;split at b
  case h_2=>cases b
  rename_i c j i z e;cases b;obtain⟨us,g1,g2⟩:=pM h e (λq u=>g q (qI.2 (.inr u)));obtain⟨r,y,x,_,_⟩:=PZ (p:=(s.sig.T f,cJ s.sig.m (s.sig.T f))) h rfl z (λq u=>g q (qI.2 (.inl u))) (h.tm f);refine⟨r::us,?_,_,us,rfl,x,g2⟩;have v:=EG y;rw[qDy,wQ];rw[v];simp only[vX,wQ,g1,yK]
variable {fn:Func} {tmps:Array Value}
def vA{us:Lv}
  (h:((fn.results.toList.mapM fun | ResultVar.tmp t=>pure (tmps.getD t undef) | .cell b t=>do loadVar t (<- asAddr (tmps.getD b undef))):Sem (Lv)).run P w=.ok us w):
  (results fn tmps).run P w=.ok (if h:us.toArray.size=1 then us.toArray[0]else .tuple us.toArray) w:=by
 have e:results fn tmps=(do
   let l <- ((fn.results.toList.mapM fun | ResultVar.tmp t=>pure (tmps.getD t undef) | .cell b t=>do loadVar t (<- asAddr (tmps.getD b undef))):Sem (Lv))
   let vs:Array Value:=l.toArray
   pure (if h:vs.size=1 then vs[0]else .tuple vs)):=by
  unfold results;rw[qDf,map_eq_pure_bind,bind_assoc];simp only[pure_bind];rfl
 rw[e];simp only[wQ,h,vX,yK]
def XC{s:St}(h:aP S s.sig a w D E){ns:List Prop}{v:AV}(g:aHl S.P s fn.results.toList=some (ns,v))(y:∀q∈ns,q):
  ∃u,(results fn a.tmps).run S.P w=.ok u w/\v.rel S.P ⟨w,D,s.sig.m,E⟩ u:=by
 unfold aHl at g;split at g
 .rename_i A x f;cases g;obtain⟨b,g1,g2⟩:=pM h f y;obtain⟨z,_,rfl,g3,g4⟩:=g2;simp only[AV.relL]at g4;subst g4;exact⟨z,by simpa using vA g1,g3⟩
 .rename_i vs j f;cases g;obtain⟨b,g1,g2⟩:=pM h f y;have r:=AV.relL_length g2;have i:b.toArray.size≠1:=by
   intro e;have:vs.length=1:=by simpa[r]using e
   obtain⟨x,rfl⟩:=kS.1 this;exact j x rfl
  exact⟨.tuple b.toArray,by have:=vA g1;rw[dif_neg i]at this;exact this,b,rfl,g2⟩
 .cases g
def oY(a:AV): dZ (lY a)=true:=by
 unfold lY;split
 .assumption
 .rfl
def y4{C:Ctx}{a:AV}{v:Value}(h:a.rel P C v): (lY a).rel P C v:=by
 unfold lY;split
 .exact h
 .trivial
variable {R:Ending->World->Prop}
def W6{rng:Bool}{s y:St}(e:S.gd=[])(i:sweep rng s=some y)(f:S.nod=!rng)(u:∀b,S.D0 b->b<S.w0.heap.size)(h:aP S s.sig a w D E)
  (z:∀j O,aP {S with G:=[]} y.sig {tmps:=a.tmps,defers:=[]} j O E->∃v,(results fn a.tmps).run S.P j=.ok v j/\R (.returned v) j):
  LeavesInM Fence.wide 0 S.P fn a.tmps R a.defers .returning w:=by
 unfold sweep at i;split at i
 .split at i
  case isFalse=>cases i
  rename_i g;cases i;simp only[qC,qO]at g;have A:∀t,(s.tm.map lY).getD t .top=lY (s.tm.getD t .top):=λt=>by
   simp only[qA,qR];cases s.tm[t]? with
   | none=>rfl
   | some x=>rfl
  refine HZ e u (σ:=(St.sig {s with tm:=s.tm.map lY})) (E:=E) ⟨λt=>?_,λL b hm=>?_,g.2⟩ a.defers w D ?_ z
  .show dZ ((s.tm.map lY).getD t .top)=true;rw[A];exact oY _
  .exact g.1 (L,b) (dc hm)
  .refine⟨h.sz,h.df,λt=>?_,h.bl,h.own,h.inj,h.low,h.dlt,h.dlo,h.dhi,λp g=>(by cases g),h.svr,h.pv⟩;show((s.tm.map lY).getD t .top).rel S.P _ _;rw[A];exact y4 (h.tm t)
 .cases i;rename_i r;have r:rng=false:=by simpa using r
  rw[r]at f;have hd:a.defers=[]:=(h.df.1.1 (by rw[f];rfl)).trans e;rw[hd];refine z w D ⟨h.sz,⟨⟨λ_=>e.symm,⟨[],e.symm⟩,yV⟩,λd hd=>(by cases hd)⟩,h.tm,h.bl,h.own,h.inj,h.low,h.dlt,h.dlo,h.dhi,λp g=>(by cases g),h.svr,h.pv⟩
def pY(upd:Mem)(k:Nat): ∀m:Mem,(m.map λp=>(p.1,(upd.lookup p.1).getD p.2)).lookup k=(m.lookup k).map λb=>(upd.lookup k).getD b
 | []=>rfl
 | p::m=>by
  obtain⟨q,b⟩:=p;simp only[zB,List.lookup];by_cases e:k=q
  .subst e;simp
  .have:(k==q)=false:=by simpa using e
   simp only[this];exact pY upd k m
variable {m:Mem}
def qz(upd:Mem)(k:Nat)(h:m≠[]): (IV m upd).lookup k=(m.lookup k).map λb=>(upd.lookup k).getD b:=by
 unfold IV;split
 .exact(h rfl).elim
 .exact pY upd k m
def Np{m upd:Mem}(i:(m.isEmpty||upd.all λp=>m.any λq=>q.1==p.1)=true)(k:Nat): bN (IV m upd) k=upM (bN m) upd k:=by
 by_cases f:m=[]
 .subst f;show upd.lookup k=upM (bN []) upd k;unfold upM bN;cases upd.lookup k<;>rfl
 replace i:upd.all (λp=>m.any λq=>q.1==p.1)=true:=by
  cases m with
  | nil=>exact(f rfl).elim
  | cons _ _=>simpa using i
 unfold bN upM;rw[qz upd k f];cases h:upd.lookup k with
 | none=>simp
 | some b=>
  have hm:=qO.1 i _ (dc h);rw[xR]at hm;obtain⟨q,u,j⟩:=hm;have j:q.1=k:=by simpa using j
  have:∃b,m.lookup k=some b:=by
   clear h i f;induction m with
   | nil=>cases u
   | cons p m v=>
    obtain⟨p1,p2⟩:=p;simp only[List.lookup];by_cases e:k=p1
    .subst e;exact⟨p2,by simp⟩
    .have x:(k==p1)=false:=by simpa using e
     simp only[x];rcases zK.1 u with g | g
     .subst g;exact(e j.symm).elim
     .exact v g
  obtain⟨y,r⟩:=this;rw[r];rfl
def AA: ∀{u:Mem},(∀p∈ry m u,p)->∀{k:Nat} {b:Blk},u.lookup k=some b->lj m k<=b.len
 | [],_,_,_,h=>by simp at h
 | (k',i)::r,f,k,b,h=>by
  simp only[ry]at f;simp only[List.lookup]at h;split at h
  .rename_i e;cases h;have e:k=k':=by simpa using e
   subst e;exact Oc (f _ wB)
  .exact AA (λp g=>f p (wX _ g)) h
def AG: ∀l:Mem,AV.relL P ⟨w,D,bN m,E⟩ (l.map λp=>.buf p.1 (lj m p.1)) (l.map λp=>(E p.1).handle (lj m p.1))
 | []=>rfl
 | p::l=>⟨_,_,rfl,λb hb=>by
   have e:lj m p.1=b.len:=by
    unfold lj;have f:m.lookup p.1=some b:=hb;rw[f]
   exact⟨xG e,λ_=>rfl⟩,AG l⟩
def sA{m':Nat->Option Blk}{E E':Nat->Ent}: ∀{l:Mem},AV.relL P ⟨w,D,m',E'⟩ (l.map λp=>.buf p.1 (lj m p.1)) (l.map λp=>(E p.1).handle (lj m p.1))->
  ∀p∈l,∀b,m' p.1=some b->b.len=lj m p.1->F4 (E p.1) (E' p.1)
 | [],_,p,f,_,_,_=>by cases f
 | q::l,h,p,f,b,hb,i=>by
  obtain⟨u,us,e,g1,g2⟩:=h;simp only[zB,vF]at e;obtain⟨r,j⟩:=e;rcases zK.1 f with g | g
  .subst g;have:=(g1 b hb).2 i;exact Xi (r.trans this)
  .subst j;exact sA g2 p g b hb i
def pX{u:List PanicEntry}(e:S.gd=[])(f:∀b,S.D0 b->b<S.w0.heap.size){σ:Sig}(r:Jr σ): ∀(ds:List Deferred) (w:World) (D:Nat->Prop),
  aP {S with G:=[]} σ {tmps:=tmps,defers:=ds} w D E->(∀j y,aP {S with G:=[]} σ {tmps:=tmps,defers:=[]} j y E->R (.panicked u) j)->
  LeavesInM Fence.wide 0 S.P fn tmps R ds (.panicking u) w
 | [],w,D,h,i=>i w D h
 | d::ds,w,D,h,i=>by
  rcases h.df.2 d wB with⟨g,_⟩ | ⟨k,rfl,_⟩
  .have g:d∈S.gd:=g;rw[e]at g;cases g
  obtain⟨x,v⟩:=aP.shr (a:={tmps:=tmps,defers:=[]}) h r f (by rw[e];intro d hd;cases hd);exact⟨by simp,.inl ⟨k,_,rfl,run_takeDeferred x,pX e f r ds _ _ v i⟩⟩
def R2{rng:Bool}{s:St}(g:S.gd=[])(j:(sweep rng s).isSome=true)(e:S.nod=!rng)(u:∀b,S.D0 b->b<S.w0.heap.size)(h:aP S s.sig a w D E){z:List PanicEntry}(v:∀i,Chg S.O S.w0 i->R (.panicked z) i): LeavesInM Fence.wide 0 S.P fn a.tmps R a.defers (.panicking z) w:=by
 unfold sweep at j;split at j
 .split at j
  case isFalse=>cases j
  rename_i f;simp only[qC,qO]at f;have y:∀t,(s.tm.map lY).getD t .top=lY (s.tm.getD t .top):=λt=>by
   simp only[qA,qR];cases s.tm[t]? with
   | none=>rfl
   | some x=>rfl
  refine pX g u (σ:=(St.sig {s with tm:=s.tm.map lY})) (E:=E) ⟨λt=>?_,λA b hm=>?_,f.2⟩ a.defers w D ?_ (λi L G=>v i G.low)
  .show dZ ((s.tm.map lY).getD t .top)=true;rw[y];exact oY _
  .exact f.1 (A,b) (dc hm)
  .refine⟨h.sz,h.df,λt=>?_,h.bl,h.own,h.inj,h.low,h.dlt,h.dlo,h.dhi,λp f=>(by cases f),h.svr,h.pv⟩;show((s.tm.map lY).getD t .top).rel S.P _ _;rw[y];exact y4 (h.tm t)
 .rename_i r;have r:rng=false:=by simpa using r
  rw[r]at e;have hd:a.defers=[]:=(h.df.1.1 (by rw[e];rfl)).trans g;rw[hd];exact v w h.low
variable {args:List AV} {X:List PanicEntry->Prop} {c:Cfg} {r:jG}
def Lq{Z:Prop}(hK:ai c.P c.G c.K)(hI:bf c.P c.G c.KI)(hm:c.P.follows .mixedOrders=true)(hKP:bJ c.P c.G c.KP)
  (hu0:(m.isEmpty||((r.upd.all λp=>m.any λq=>q.1==p.1)&&(jq m&&jq r.upd&&r.ret.simple)))=true) (hlens:∀p∈Bq m r.upd,p)
  (w:World) (D:Nat->Prop) (E:Nat->Ent) (us:Lv) (hD:∀b,D b->b<w.heap.size) (hG:lM c.P ⟨w,D,bN m,E⟩ c.G) (hargs:AV.relL c.P ⟨w,D,bN m,E⟩ args us) (hH:Held c.P w D (bN m) E):
  ∃S:Base,S={P:=c.P,w0:=w,D0:=D,N:=args.length+(fn.ntmps-args.length),O:=bw (bN m) E,G:=c.G,sv:=m.map λp=>(E p.1).handle (lj m p.1),rd:=none,nod:=!c.rng}/\OkS c S/\(fP fn args m).tm.length=S.N/\aP S (fP fn args m).sig {tmps:=us.toArray++Array.replicate (fn.ntmps-us.toArray.size) undef,defers:=[]} w D E/\
   ∀s' a' w',Sim S s'.sig a' w'->Z->VQ c.P c.rng fn m r s'->LeavesInM Fence.wide 0 c.P fn a'.tmps (λe w'=>(Z/\∃v D' E',e=.returned v/\Left c.P (bN m) r.upd w D E w' D' E'/\r.ret.rel c.P ⟨w',D',upM (bN m) r.upd,E'⟩ v)\/∃ch,e=.panicked ch/\X ch/\Chg (bw (bN m) E) w w') a'.defers .returning w':=by
 have hu:(m.isEmpty||r.upd.all λp=>m.any λq=>q.1==p.1)=true:=by
  rw[yF]at hu0 ⊢;exact hu0.imp id λg=>(qC _ _▸g:_/\_).1
 have T:m≠[]->jq m=true/\jq r.upd=true/\r.ret.simple=true:=λhne=>by
  rw[yF]at hu0;rcases hu0 with g | g
  .exact(hne (wY.1 g)).elim
  .simp only[qC]at g;exact⟨g.2.1.1,g.2.1.2,g.2.2⟩
 have simB:∀{m2:Mem} {f:Nat} {b:Blk},jq m2=true->m2.lookup f=some b->b.simple=true:=λ{m2 f b} hs hl=>by
  have:=qO.1 hs (f,b) (dc hl);exact this
 have pm0:∀f i b,cA (bN m) E f i b->False:=λf i b g=>by
  obtain⟨_,_,_,_,_,_,g1,_⟩:=g;have g1':m.lookup f=some _:=g1;have hne:m≠[]:=λe=>by subst e;cases g1'
  have:=simB (T hne).1 g1';cases this
 have hlen:args.length=us.length:=AV.relL_length hargs;obtain⟨S,z⟩:∃S:Base,S={P:=c.P,w0:=w,D0:=D,N:=args.length+(fn.ntmps-args.length),O:=bw (bN m) E,G:=c.G,sv:=m.map λp=>(E p.1).handle (lj m p.1),rd:=none,nod:=!c.rng}:=⟨_,rfl⟩;have hSF:S.F=Fence.wide:=by rw[z];rfl
 have hSP:S.P=c.P:=by rw[z]
 have hstart:aP S (fP fn args m).sig {tmps:=us.toArray++Array.replicate (fn.ntmps-us.toArray.size) undef,defers:=[]} w D E:=by
  rw[z];refine⟨?_,⟨⟨λ_=>rfl,⟨[],rfl⟩,yV⟩,λd hd=>(by cases hd)⟩,λt=>?_,hH.bl,λf b hm hi=>⟨.inr ⟨f,b,hm,hi,rfl⟩,hH.own f b hm hi⟩,hH.inj,Chg.refl _ _,hD,λb hb=>hb,λb hb=>.inl hb,hG,AG m,fN.nil pm0⟩
  .show(us.toArray++Array.replicate (fn.ntmps-us.toArray.size) undef).size=args.length+(fn.ntmps-args.length);simp[hlen]
  .show((args++List.replicate (fn.ntmps-args.length) (AV.val undef)).getD t .top).rel c.P ⟨w,D,bN m,E⟩ _;rw[qA,qQ];by_cases ht:t<args.length
   .rw[vS ht,kU (by simpa using hlen▸ht)];obtain⟨u,g1,g2⟩:=AV.relL_get hargs (qB ht);rw[qB ht];simp only[kX,g1,qK];exact g2
   .rw[vH zoo,kQ (by simp;omega)];rw[wV,yU];split
    .rename_i h1;rw[if_pos (by simp;omega)];rfl
    .trivial
 have HO:OkS c S:=by
  rw[z];exact⟨rfl,rfl,hK,hI,hm,λe=>(e rfl).elim,λ_=>rfl,hKP⟩
 have hln:(fP fn args m).tm.length=S.N:=by rw[z];simp[fP]
 refine⟨S,z,HO,hln,hstart,λs' a' w' hs' hz hq=>?_⟩;unfold VQ at hq;split at hq
 case h_2=>exact hq.elim
 rename_i s1 hs1;split at hq
 case h_2=>exact hq.elim
 rename_i ns v hv;split at hq
 case h_2=>exact hq.elim
 rename_i ms hms;obtain⟨hns,hq⟩:=bR hq;obtain⟨hms2,_⟩:=bR hq;obtain⟨D',E',hd⟩:=hs';rw[<- hSP];refine W6 (by rw[z]) hs1 (by rw[z]) (by rw[z];exact hD) hd (λw2 D2 h2=>?_);rw[hSP];obtain⟨u,hu1,hu2⟩:=XC h2 (fn:=fn) (by rw[z];exact hv) hns;rw[hSP]at hu1 hu2;refine⟨u,hu1,?_⟩;obtain⟨S1,y⟩:∃S1:Base,S1={S with G:=[],N:=1}:=⟨_,rfl⟩
 have h3:aP S1 (St.sig {s1 with tm:=[v]}) {tmps:=#[u],defers:=[]} w2 D2 E':=by
  rw[y];refine⟨rfl,h2.df,λt=>?_,h2.bl,h2.own,h2.inj,h2.low,h2.dlt,h2.dlo,h2.dhi,h2.gl,h2.svr,h2.pv⟩;cases t with
  | zero=>show AV.rel S.P _ v u;rw[hSP];exact hu2
  | succ t=>trivial
 obtain⟨D3,E3,A,_,_,_⟩:=DJ h3 hms hms2;have hP1:S1.P=c.P:=by rw[y,z]
 have x:∀k,(aCo r.ret m r.upd).sig.m k=upM (bN m) r.upd k:=λk=>Np hu k
 have hm4:(aCo r.ret m r.upd).sig.m=upM (bN m) r.upd:=funext x;have hrel3:r.ret.rel c.P ⟨w2,D3,upM (bN m) r.upd,E3⟩ u:=by
  have:=A.tm 0;rw[hP1,hm4]at this;exact this
 have hpv:fN w.heap.size (bw (bN m) E) (upM (bN m) r.upd) E3 w2.heap.size D3:=by
  have:=A.pv;rw[y,z,hm4]at this;exact this
 have hchg:Chg (bw (bN m) E) w w2:=by
  have:=A.low;rw[y,z]at this;exact this
 by_cases V:m=[]
 ·
  subst V
  refine .inl ⟨hz,u,D3,E3,rfl,⟨hchg,λb hb=>A.dlo b (by rw[y,z];exact hb),λb hb=>?_,A.dlt,⟨λf b hb=>?_,λf b hb hi=>(A.own f b (by rw[x];exact hb) hi).2,λf nm' b b' hb h hi hi' e=>A.inj f nm' b b' (by rw[x];exact hb) (by rw[x];exact h) hi hi' e,⟨λf i b g=>⟨.inr trivial,(hpv.own f i b g).2⟩,hpv.ent,hpv.inj⟩⟩,λ_ _ _ h0=>(by cases h0),λ_ _ _ h0=>(by cases h0),λf b _ hb hi=>?_,λf i b g=>.inr (by
   rcases(hpv.own f i b g).1 with q | ⟨_,_,q,_⟩
   .exact q
   .cases q)⟩,hrel3⟩
  .have:=A.dhi b hb;rw[y,z]at this;rcases this with g | g | ⟨f,blk,g1,_⟩
   .exact .inl g
   .exact .inr (.inl g)
   .cases g1
  .have:=A.bl f b (by rw[x];exact hb);rw[hP1,hm4]at this;exact this
  .have:=(A.own f b (by rw[x];exact hb) hi).1;rw[y,z]at this;rcases this with g | ⟨nm2,blk,g1,_⟩
   .exact g
   .cases g1
 have hlensM:∀p∈ry m r.upd,p:=by
  have e:Bq m r.upd=ry m r.upd:=by
   unfold Bq;split
   .exact(V rfl).elim
   .rfl
  rw[<- e];exact hlens
 have hlen4:∀f b,upM (bN m) r.upd f=some b->∃b0,m.lookup f=some b0/\lj m f<=b.len:=λf b hb=>by
  rw[<- Np hu]at hb;have h:(IV m r.upd).lookup f=some b:=hb;rw[qz _ _ V]at h;cases h0:m.lookup f with
  | none=>rw[h0]at h;cases h
  | some b0=>
   rw[h0]at h;refine⟨b0,rfl,?_⟩;cases h1:r.upd.lookup f with
   | none=>
    rw[h1]at h;simp only[zU,Option.getD_none,wM]at h;subst h;unfold lj;rw[h0];exact qJ _
   | some b1=>
    rw[h1]at h;simp only[zU,qK,wM]at h;subst h;exact AA hlensM h1
 obtain⟨E4,hE4⟩:∃E4:Nat->Ent,E4=λf=>match upM (bN m) r.upd f with | some b=>if b.len=lj m f then E f else E3 f | none=>E3 f:=⟨_,rfl⟩
 have e4s:∀f b,upM (bN m) r.upd f=some b->b.len=lj m f->E4 f=E f:=λf b hb hl=>by rw[hE4];simp only[hb];exact if_pos hl
 have e4n:∀f b,upM (bN m) r.upd f=some b->b.len≠lj m f->E4 f=E3 f:=λf b hb hl=>by rw[hE4];simp only[hb];exact if_neg hl
 have j:∀f b,upM (bN m) r.upd f=some b->F4 (E3 f) (E4 f):=λf b hb=>by
  by_cases hb1:b.len=lj m f
  .rw[e4s f b hb hb1];obtain⟨b0,hb0,_⟩:=hlen4 f b hb;have hsv:=A.svr;have e1:S1.sv=m.map λp=>(E p.1).handle (lj m p.1):=by rw[y,z]
   rw[e1]at hsv;have:=sA hsv (f,b0) (dc hb0) b (by rw[x];exact hb) hb1;exact⟨this.1.symm,λe=>by obtain⟨q1,q2⟩:=this.2 (this.1.trans e);exact⟨q1.symm,q2.symm⟩⟩
  .rw[e4n f b hb hb1];exact⟨rfl,λ_=>⟨rfl,rfl⟩⟩
 have ownE:∀f b,upM (bN m) r.upd f=some b->(E4 f).isNil=false->(E4 f).b<w2.heap.size/\¬D3 (E4 f).b:=λf b hb hi=>by
  obtain⟨q1,q2⟩:=j f b hb;obtain⟨g1,g2,g3⟩:=A.own f b (by rw[x];exact hb) (q1.trans hi);rw[(q2 (q1.trans hi)).1]at g2 g3;exact⟨g2,g3⟩
 have simU:∀f b,upM (bN m) r.upd f=some b->b.simple=true:=λf b hb=>by
  rw[dQ]at hb;split at hb
  .rename_i b1 h1;cases hb;exact simB (T V).2.1 h1
  .exact simB (T V).1 hb
 have L:∀f i b,cA (upM (bN m) r.upd) E4 f i b->False:=λf i b g=>by
  obtain⟨_,_,_,_,_,_,g1,_⟩:=g;have:=simU f _ g1;cases this
 refine .inl ⟨hz,u,D3,E4,rfl,⟨hchg,λb hb=>A.dlo b (by rw[y,z];exact hb),λb hb=>?_,A.dlt,⟨λf b hb=>?_,ownE,λf nm' b b' hb h hi hi' e=>?_,fN.nil L⟩,λf b b' h0 h hl=>e4s f b' h (by rw[hl];unfold lj;rw[show m.lookup f=some b from h0]),λf b b' h0 h hi=>?_,λf b h0 hb=>?_,λf i b g=>(L f i b g).elim⟩,AV.rel_ent (s:=false) (λf b hb=>⟨j f b hb,λe=>by cases e⟩) (λ_=>(T V).2.2) hrel3⟩
 .have:=A.dhi b hb;rw[y,z]at this;rcases this with g | g | ⟨f,blk,g1,g2,g3⟩
  .exact .inl g
  .exact .inr (.inl g)
  .exact .inr (.inr ⟨f,blk,g1,g2,g3⟩)
 .have:=A.bl f b (by rw[x];exact hb);rw[hP1,hm4]at this;exact eJ.ent (s:=false) (λf b hb=>⟨j f b hb,λe=>by cases e⟩) ⟨j f b hb,λe=>by cases e⟩ (λ_=>simU f b hb) this
 .obtain⟨q1,q2⟩:=j f b hb;obtain⟨q3,q4⟩:=j nm' b' h;refine A.inj f nm' b b' (by rw[x];exact hb) (by rw[x];exact h) (q1.trans hi) (q3.trans hi') ?_;rw[(q2 (q1.trans hi)).1,(q4 (q3.trans hi')).1];exact e
 .obtain⟨q1,q2⟩:=j f b' h;have:=(A.own f b' (by rw[x];exact h) (q1.trans hi)).1;rw[y,z,(q2 (q1.trans hi)).1]at this;exact this.symm
 .obtain⟨b1,g1,_⟩:=hlen4 f b hb;have h0':m.lookup f=none:=h0;rw[g1]at h0';cases h0'
variable {A:Ann} {f:FuncId}
def UI{b:Code}{Qg:Exit->St->Prop}{Z:Prop}(hK:ai c.P c.G c.K)(hI:bf c.P c.G c.KI)(hm:c.P.follows .mixedOrders=true)(hKP:bJ c.P c.G c.KP)
  (hf:c.P.funcs[f]?=some fn) (hb:fn.body=some b) (V:(m.isEmpty||((r.upd.all λp=>m.any λq=>q.1==p.1)&&(jq m&&jq r.upd&&r.ret.simple)))=true) (u:∀p∈Bq m r.upd,p)
  (h:ev c A b (fP fn args m) Qg) (hQ:∀e s,Qg e s->((e=.normal\/e=.ret)/\Z/\VQ c.P c.rng fn m r s)\/∃g,e=.panic g/\(sweep c.rng s).isSome=true/\X g)
  (w:World) (D:Nat->Prop) (E:Nat->Ent) (us:Lv) (hD:∀b,D b->b<w.heap.size) (hG:lM c.P ⟨w,D,bN m,E⟩ c.G) (x:AV.relL c.P ⟨w,D,bN m,E⟩ args us) (hH:Held c.P w D (bN m) E):
  Calls c.P f us.toArray w λe w'=>(Z/\∃v D' E',e=.returned v/\Left c.P (bN m) r.upd w D E w' D' E'/\r.ret.rel c.P ⟨w',D',upM (bN m) r.upd,E'⟩ v)\/∃g,e=.panicked g/\X g/\Chg (bw (bN m) E) w w':=by
 obtain⟨S,y,HO,hln,i,key⟩:=Lq (fn:=fn) (X:=X) (Z:=Z) hK hI hm hKP V u w D E us hD hG x hH;have O:S.P=c.P:=by rw[y]
 refine(callsIn_wide (n:=0)).1 (uR hf hb ?_)
 suffices L:At S.P S.rd b (bodyPostM Fence.wide 0 c.P fn λe w'=>(Z/\∃v D' E',e=.returned v/\Left c.P (bN m) r.upd w D E w' D' E'/\r.ret.rel c.P ⟨w',D',upM (bN m) r.upd,E'⟩ v)\/∃g,e=.panicked g/\X g/\Chg (bw (bN m) E) w w')
   {tmps:=us.toArray++Array.replicate (fn.ntmps-us.toArray.size) undef,defers:=[]} w by
  rw[O,show S.rd=none by rw[y]]at L;exact L
 refine lX b S (fP fn args m) Qg _ HO h hln (λe s' hq hl T w' j=>?_) _ w ⟨D,E,i⟩;rcases hQ e s' hq with⟨he,hz,z⟩ | ⟨g,rfl,hsw,hx⟩
 .rcases he with rfl | rfl
  .exact key s' T w' j hz z
  .exact key s' T w' j hz z
 .obtain⟨D',E',hd⟩:=j;show LeavesInM Fence.wide 0 c.P fn T.tmps _ T.defers (.panicking g) w';rw[<- O];refine R2 (by rw[y]) hsw (by rw[y]) (by rw[y];exact hD) hd λw2 h2=>?_
  rw[y]at h2;exact .inr ⟨g,rfl,hx,h2⟩
def GU(O:ai c.P c.G c.K)(T:bf c.P c.G c.KI)(hm:c.P.follows .mixedOrders=true)(y:bJ c.P c.G c.KP)(h:evF c A f args m r): ah c.P c.G f args m r:=by
 intro u w D E us hD hG j V;unfold evF at h;split at h
 case h_2=>exact h.elim
 rename_i fn z;split at h
 case h_2=>exact h.elim
 rename_i b hb;obtain⟨v,h⟩:=h;obtain⟨i,h⟩:=bR (h u);refine(UI (X:=λ_=>False) (Z:=True) O T hm y z hb v i h (λe s x=>?_) w D E us hD hG j V).mono λe w' L=>?_
 .cases e<;>first
   | exact .inl ⟨.inl rfl,trivial,x⟩
   | exact .inl ⟨.inr rfl,trivial,x⟩
   | exact x.elim
 .rcases L with⟨_,g⟩ | ⟨_,_,g,_⟩
  .exact g
  .exact g.elim
def evM(c:Cfg)(A:Ann)(f:FuncId)(args:List AV)(m:Mem)(ret:AV)(upd:Mem)(q:zz): Prop:=match c.P.funcs[f]? with
 | some fn=>match fn.body with
  | some b=>(m.isEmpty||((upd.all λp=>m.any λq=>q.1==p.1)&&(jq m&&jq upd&&ret.simple)))=true/\(q.pre->all (Bq m upd) (ev c A b (fP fn args m) (λe s=>match e with
   | .normal=>q.ok=true/\VQ c.P c.rng fn m ⟨True,ret,upd⟩ s
   | .ret=>q.ok=true/\VQ c.P c.rng fn m ⟨True,ret,upd⟩ s
   | .panic ch=>q.ok=false/\(sweep c.rng s).isSome=true/\ch=chainOf q.pan
   | _=>False)))
  | none=>False
 | none=>False
abbrev evC(c:Cfg)(A:Ann)(f:FuncId)(args:List AV)(ret:AV)(q:zz): Prop:=evM c A f args [] ret [] q
def sE{ret:AV}{upd:Mem}{q:zz}(hK:ai c.P c.G c.K)(hI:bf c.P c.G c.KI)(hm:c.P.follows .mixedOrders=true)(L:bJ c.P c.G c.KP)(h:evM c A f args m ret upd q):
  ah c.P c.G f args m ⟨q.pre/\q.ok=true,ret,upd⟩/\dt c.P c.G f args m q:=by
 unfold evM at h;split at h
 case h_2=>exact h.elim
 rename_i fn hf;split at h
 case h_2=>exact h.elim
 rename_i b hb;obtain⟨x,h⟩:=h;have key:=λ(i:q.pre)=>by
  obtain⟨u,h⟩:=bR (h i);exact UI (m:=m) (r:=⟨True,ret,upd⟩) (X:=λch=>q.ok=false/\ch=chainOf q.pan) (Z:=q.ok=true) hK hI hm L hf hb x u h (λe s v=>by
   cases e<;>first
    | exact .inl ⟨.inl rfl,v⟩
    | exact .inl ⟨.inr rfl,v⟩
    | exact .inr ⟨_,rfl,v.2.1,v.1,v.2.2⟩
    | exact v.elim)
 refine⟨λ⟨i,y⟩ w D E us V T j O=>(key i w D E us V T j O).mono λe w' z=>?_,λi hk w D E us V T j O=>(key i w D E us V T j O).mono λe w' z=>?_⟩
 .rcases z with⟨_,g⟩ | ⟨_,_,⟨g,_⟩,_⟩
  .exact g
  .rw[y]at g;cases g
 .rcases z with⟨g,_⟩ | ⟨ch,g1,⟨_,g2⟩,g3⟩
  .rw[hk]at g;cases g
  .subst g2;exact⟨g1,g3⟩
def GX{ret:AV}{q:zz}(e:ai c.P c.G c.K)(g:bf c.P c.G c.KI)(hm:c.P.follows .mixedOrders=true)(b:bJ c.P c.G c.KP)(h:evC c A f args ret q):
  ah c.P c.G f args [] ⟨q.pre/\q.ok=true,ret,[]⟩/\dt c.P c.G f args [] q:=sE e g hm b h
def oL(e:ai c.P c.G c.K)(g:bf c.P c.G c.KI)(hm:c.P.follows .mixedOrders=true)(h:evF c A f args m r)(b:c.KP=λ_ _ _=>none:=by rfl): ah c.P c.G f args m r:=
 GU e g hm (λf args m r h=>by rw[b]at h;cases h) h
end Go.Eng
namespace Go.Eng
open Go.RowKit
def Zy: Code->Option (Code×Array Oper×Code)
 | .seq pre (.seq (.region _ ops false) rest)=>some (pre,ops,rest)
 | _=>none
def Zz: Code->Option (Array Oper×Code)
 | .seq (.region _ ops false) rest=>some (ops,rest)
 | _=>none
def guardOf: List Oper->Option (Tmp×FuncId×List Operand)
 | [⟨some t,.makeFunc (.func cf) first caps,_,_,_,none⟩,⟨none,.defer ⟨.value (.tmp t'),dargs,_⟩,_,_,_,none⟩]=>if first.isEmpty&&t==t'&&dargs.isEmpty then some (t,cf,caps.toList)else none
 | _=>none
def Ht: List Oper->Option (Tmp×Tmp)
 | [⟨some t3,.call ⟨.builtin .recover,rargs,_⟩,_,_,_,none⟩,⟨some t2,.assign (.tmp t),_,_,_,none⟩]=>if t==t3&&rargs.isEmpty then some (t3,t2)else none
 | _=>none
def Ak(G:List (Nat×AV))(t:Tmp)(cf:FuncId)(caps:List Operand)(s:St): St:={setSlot (some t) (.fn cf (caps.map (evT G s.sig.T))) s with sv:=caps.map (evT G s.sig.T)}
def YY(fc:Func)(t3 t2:Tmp)(rec:AV)(s:St): St:=setSlot (some t2) rec (setSlot (some t3) rec ⟨s.sv++List.replicate (fc.ntmps-s.sv.length) (.val undef),s.mem,s.nx,s.tm⟩)
def XP: List PanicEntry->Option AV
 | [⟨.iface t (.int k x),false,false⟩]=>some (.ifc t (.dat (.int k) x))
 | _=>none
def rc(c:Cfg)(Ac:Ann)(fn fc:Func)(crest:Code)(t3 t2:Tmp)(r:jG)(rec:AV)(s:St): Prop:=
 oW (some t3) (s.sv.length+(fc.ntmps-s.sv.length))=true/\oW (some t2) (s.sv.length+(fc.ntmps-s.sv.length))=true/\ev c Ac crest (YY fc t3 t2 rec s) (λe s3=>match e with
  | .normal=>VQ c.P c.rng fn [] r (Dm s3)
  | .ret=>VQ c.P c.rng fn [] r (Dm s3)
  | _=>False)
def aIJ(c:Cfg)(Ac:Ann)(fn fc:Func)(crest:Code)(t3 t2:Tmp)(r:jG): Exit->St->Prop
 | .normal,s=>rc c Ac fn fc crest t3 t2 r (.val .nilIface) s
 | .ret,s=>rc c Ac fn fc crest t3 t2 r (.val .nilIface) s
 | .panic ch,s=>match XP ch with
  | some v=>rc c Ac fn fc crest t3 t2 r v s
  | none=>False
 | _,_=>False
structure VO where
 fn:Func
 pre:Code
 rest:Code
 t:Tmp
 cf:FuncId
 caps:List Operand
 fc:Func
 crest:Code
 t3:Tmp
 t2:Tmp
def M1(P:Program)(f:FuncId): Option VO:=match P.funcs[f]? with
 | some fn=>match fn.body with
  | some b=>match Zy b with
   | some (pre,gops,rest)=>match guardOf gops.toList with
    | some (t,cf,caps)=>match P.funcs[cf]? with
     | some fc=>match fc.body with
      | some cb=>match Zz cb with
       | some (rops,crest)=>match Ht rops.toList with
        | some (t3,t2)=>if fc.results.toList.isEmpty then some ⟨fn,pre,rest,t,cf,caps,fc,crest,t3,t2⟩else none
        | none=>none
       | none=>none
      | none=>none
     | none=>none
    | none=>none
   | none=>none
  | none=>none
 | none=>none
def evG(c:Cfg)(A Ac:Ann)(f:FuncId)(args:List AV)(r:jG): Prop:=match M1 c.P f with
 | some g=>(c.rng=false/\goes c.P g.cf=true)/\(r.pre->ev c A g.pre (fP g.fn args []) (λe s=>match e with
   | .normal=>oW (some g.t) s.tm.length=true/\ev c A g.rest (Ak c.G g.t g.cf g.caps s) (aIJ c Ac g.fn g.fc g.crest g.t3 g.t2 r)
   | _=>False))
 | none=>False
structure aFI (P:Program) (f:FuncId) (g:VO):Prop where
 f:P.funcs[f]?=some g.fn
 b:∃gid gops,g.fn.body=some (.seq g.pre (.seq (.region gid gops false) g.rest))/\guardOf gops.toList=some (g.t,g.cf,g.caps)
 cf:P.funcs[g.cf]?=some g.fc
 cb:∃cid rops,g.fc.body=some (.seq (.region cid rops false) g.crest)/\Ht rops.toList=some (g.t3,g.t2)
 res:g.fc.results=#[]
variable {P:Program}
def HA{f:FuncId}{g:VO}(h:M1 P f=some g): aFI P f g:=by
 unfold M1 at h;split at h
 case h_2=>cases h
 rename_i fn A;split at h
 case h_2=>cases h
 rename_i b hb;split at h
 case h_2=>cases h
 rename_i pre x rest j;split at h
 case h_2=>cases h
 rename_i t cf caps z;split at h
 case h_2=>cases h
 rename_i fc r;split at h
 case h_2=>cases h
 rename_i cb u;split at h
 case h_2=>cases h
 rename_i v crest e;split at h
 case h_2=>cases h
 rename_i t3 t2 y;split at h
 case isFalse=>cases h
 rename_i i;cases h;refine⟨A,?_,r,?_,yQ (wY.1 i)⟩
 .unfold Zy at j;split at j
  .cases j;exact⟨_,_,hb,z⟩
  .cases j
 .unfold Zz at e;split at e
  .cases e;exact⟨_,_,u,y⟩
  .cases e
inductive aDa:FrameMode->Value->FrameMode->Prop where
 | ret:aDa .returning .nilIface .returning
 | pan (v:Value):aDa (.panicking [{v:=v,recovered:=false}]) v (.panicking [{v:=v,recovered:=true}])
def Vh{cf:FuncId}{fc:Func}{cid:Nat}{O:Array Oper}{crest:Code}{t3 t2:Tmp}(hf:P.funcs[cf]?=some fc)(hb:fc.body=some (.seq (.region cid O false) crest))(X:Ht O.toList=some (t3,t2))(hres:fc.results=#[])
  {args:Array Value} {u y:FrameMode} {j:Value} (hrec:aDa u j y) {w:World} {R:World->Prop} {a0:Act} (ha0:a0={tmps:=args++Array.replicate (fc.ntmps-args.size) undef,defers:=[]})
  (h:At P none crest (λe a w=>(e=.normal\/e=.ret)/\a.defers=[]/\R w) ((a0.put (some t3) j).put (some t2) ((a0.put (some t3) j).eval (.tmp t3))) w):
  CallsDIn Fence.wide 0 P cf args u w λe u' w'=>(∃v,e=.returned v)/\u'=y/\R w':=by
 refine⟨trivial,λc cs hu hroom=>?_⟩;obtain⟨b,hB⟩:∃b:Frame,b={ (default:Frame)with fn:=cf,kind:=.deferred,roundOf:=none}:=⟨_,rfl⟩;have hfn:b.fn=cf:=by rw[hB]
 have hk:b.kind=.deferred:=by rw[hB]
 have z:b.roundOf=none:=by rw[hB]
 have e0:Frame.enter P cf args .deferred=b.atR a0 [.code (.seq (.region cid O false) crest)]:=by rw[hB,ha0];simp[Frame.enter,Frame.atR,hf,hb]
 unfold Ht at X;split at X
 case h_2=>cases X
 rename_i t3' rargs at1 ty1 pos1 af1 i t ty2 pos2 af2 hl;split at X
 case isFalse=>cases X
 rename_i hc;simp only[qC,kK,qDb]at hc;obtain⟨rfl,rfl⟩:=hc;simp only[wM,qCd]at X;obtain⟨rfl,rfl⟩:=X;obtain⟨T,G⟩:∃T:Oper,T=⟨some t,.call ⟨.builtin .recover,#[],at1⟩,ty1,pos1,af1,none⟩:=⟨_,rfl⟩;obtain⟨L,A⟩:∃L:Oper,L=⟨some i,.assign (.tmp t),ty2,pos2,af2,none⟩:=⟨_,rfl⟩;have x:O=#[T,L]:=by
  apply yQ;rw[G,A];exact hl
 have w1n:∀g,Region.wanted T g=true:=λg=>by rw[G];rfl
 have w2n:∀g,Region.wanted L g=true:=λg=>by rw[A];rfl
 have x1:∀a:Act,(execOp a.eval T).run P w=.ok .recover w:=λa=>by
  rw[G];simp[execOp,resolve,invoke,builtin]
 have x2:∀a:Act,(execOp a.eval L).run P w=.ok (.value (a.eval (.tmp t))) w:=λa=>by rw[A];rfl
 have d1:T.dst=some t:=by rw[G]
 have d2:L.dst=some i:=by rw[A]
 have hw:wpOpsSIn Fence.wide 0 P O (λe a' cs' w'=>e=.normal/\a'=(a0.put (some t) j).put (some i) ((a0.put (some t) j).eval (.tmp t))/\cs'={c with mode:=y}::cs/\w'=w) (List.range O.size) a0 (c::cs) w:=by
  have hsz:O.size=2:=by rw[x];rfl
  rw[hsz];have h0:O[0]?=some T:=by rw[x];rfl
  have h1:O[1]?=some L:=by rw[x];rfl
  show wpOpsSIn _ _ _ _ _ [0,1] _ _ _;simp only[wpOpsSIn,h0,h1,w1n,w2n,kR,x1,x2,d1,d2];refine⟨λ_ _=>trivial,?_⟩;cases hrec with
  | ret=>
   have V:recoverD (c::cs)=none:=by simp[recoverD,hu]
   rw[V];refine⟨λ_ _=>trivial,trivial,rfl,?_,trivial⟩;rw[<- hu]
  | pan v=>
   have V:recoverD (c::cs)=some (j,{c with mode:=.panicking [{v:=j,recovered:=true}]}::cs):=by simp[recoverD,hu]
   rw[V];exact⟨λ_ _=>trivial,trivial,rfl,rfl,trivial⟩
 obtain⟨e1,a1,cs1,w1,_,⟨rfl,rfl,rfl,rfl⟩,harr⟩:=wp_opsSIn _ a0 (c::cs) w hw b [.code crest] hk z trivial (room_wide _);have hs1:StepsIn Any P (lone (Frame.enter P cf args .deferred) (c::cs) w1) (lone (b.atR ((a0.put (some t) j).put (some i) ((a0.put (some t) j).eval (.tmp t))) [.code crest]) ({c with mode:=y}::cs) w1):=by
  rw[e0];exact(ik stepR_seq).trans ((ik stepR_region).trans (toAny harr))
 obtain⟨e,a',w',⟨he,hd,hR⟩,r⟩:=h b [] ({c with mode:=y}::cs) z (by rw[hfn,hf];rfl);have done:∀f,StepsIn Any P (lone (b.atR ((a0.put (some t) j).put (some i) ((a0.put (some t) j).eval (.tmp t))) [.code crest]) ({c with mode:=y}::cs) w1) (lone {b.atR a' f with mode:=.returning} ({c with mode:=y}::cs) w')->
   ∃e u' w2 fr,((∃v,e=.returned v)/\u'=y/\R w2)/\ComesIn (Machine.fenced P Fence.wide) P (lone (Frame.enter P cf args .deferred) (c::cs) w1) (lone fr ({c with mode:=u' }::cs) w2) e/\fr.kind=.deferred/\fr.fn=cf/\fr.going P w2 e:=
  λf hs=>⟨.returned (.tuple #[]),y,w',{b.atR a' f with mode:=.returning},⟨⟨_,rfl⟩,rfl,hR⟩,XV (hs1.trans hs),hk,hfn,rfl,hd,fc,(by rw[show({b.atR a' f with mode:=.returning}:Frame).fn=cf from hfn];exact hf),by simp[results,hres]⟩
 rcases he with rfl | rfl
 .exact done [] (StepsIn.trans r (ik (stepR_end z)))
 .obtain⟨f,hs⟩:=r.1 z;exact done f hs
def aP.clo {S:Base} {σ:Sig} {a:Act} {w:World} {D:Nat->Prop} {E:Nat->Ent} (h:aP S σ a w D E) {N:Nat} {tm:Nat->AV} {tmps:Array Value} (j:tmps.size=N)
  (f:∀t,(tm t).rel S.P ⟨w,D,σ.m,E⟩ (tmps.getD t undef)) {sv:List AV} {vs:Lv} (r:AV.relL S.P ⟨w,D,σ.m,E⟩ sv vs):
  aP {P:=S.P,w0:=w,D0:=D,N:=N,O:=aJ σ.m E,G:=S.G,sv:=vs,rd:=none,nod:=true} ⟨tm,σ.m,sv⟩ {tmps:=tmps,defers:=[]} w D E:=
 ⟨j,⟨⟨λ_=>rfl,⟨[],rfl⟩,yV⟩,λd hd=>by cases hd⟩,f,h.bl,λe b hm hi=>⟨.inr (.inl ⟨e,b,hm,hi,rfl⟩),(h.own e b hm hi).2⟩,h.inj,Chg.refl _ _,h.dlt,λ_ g=>g,λ_ g=>.inl g,h.gl,r,
  ⟨λe i b g=>⟨.inr (.inr ⟨e,i,g⟩),(h.pv.own e i b g).2⟩,h.pv.ent,h.pv.inj⟩⟩
variable {args:List AV}
def aDS{n:Nat}{us:Lv}{C:Ctx}(h:AV.relL P C args us)(t:Nat):
  ((args++List.replicate (n-args.length) (AV.val undef)).getD t .top).rel P C ((us.toArray++Array.replicate (n-us.toArray.size) undef).getD t undef):=by
 have b:args.length=us.length:=AV.relL_length h;rw[qA,qQ];by_cases e:t<args.length
 .rw[vS e,kU (by simpa using b▸e)];obtain⟨u,g1,g2⟩:=AV.relL_get h (qB e);rw[qB e];simp only[kX,g1,qK];exact g2
 .rw[vH zoo,kQ (by simp;omega)];rw[wV,yU];split
  .rename_i f;rw[if_pos (by simp;omega)];rfl
  .trivial
def OH{c:Cfg}{Ac:Ann}{fn fc:Func}{cf:FuncId}{cid:Nat}{rops:Array Oper}{crest:Code}{t3 t2:Tmp}{r:jG}{S:Base}(HO:OkS c S)(hrng:c.rng=false)(hSs:S.sv=[])(hSr:S.rd=none)(hSn:S.nod=true)(hSg:S.gd=[])
  (hf:c.P.funcs[cf]?=some fc) (hb:fc.body=some (.seq (.region cid rops false) crest)) (hr:Ht rops.toList=some (t3,t2)) (hres:fc.results=#[]) (hgo:goes c.P cf=true) {POST:Ending->World->Prop}
  (key:∀s' a' w',Sim S s'.sig a' w'->True->VQ c.P c.rng fn [] r s'->LeavesInM Fence.wide 0 c.P fn a'.tmps POST a'.defers .returning w')
  {us:Lv} {d:Deferred} (hd:d={target:=.fn (.func cf) us.toArray,args:=#[]}) {u u2:FrameMode} {rv:Value} (hrec:aDa u rv u2) (hu2:settle u2=.returning) (hur:u≠.run) {rec:AV} {s:St} {a:Act} {w:World}
  (hs:Sim {S with gd:=[d],sv:=us} s.sig a w) (hl:s.tm.length=S.N) (hrv:∀C:Ctx,rec.rel c.P C rv) (h:rc c Ac fn fc crest t3 t2 r rec s):LeavesInM Fence.wide 0 c.P fn a.tmps POST [d] u w:=by
 obtain⟨h1,h2,h3⟩:=h;obtain⟨D,E,f⟩:=hs;have hP:=HO.P;obtain⟨y,b⟩:∃y:Base,y={P:=S.P,w0:=w,D0:=D,N:=s.sv.length+(fc.ntmps-s.sv.length),O:=aJ s.sig.m E,G:=S.G,sv:=a.tmps.toList,rd:=none,nod:=true}:=⟨_,rfl⟩;obtain⟨a0,ha0⟩:∃a0:Act,a0={tmps:=us.toArray++Array.replicate (fc.ntmps-us.toArray.size) undef,defers:=[]}:=⟨_,rfl⟩;have L:AV.relL S.P ⟨w,D,s.sig.m,E⟩ s.sv us:=f.svr
 have hlen:s.sv.length=us.length:=AV.relL_length L;have svs:AV.relL S.P ⟨w,D,s.sig.m,E⟩ s.tm a.tmps.toList:=by
  have hsz:a.tmps.size=S.N:=f.sz;refine AV.relL_mk (by rw[hl,vP,hsz]) λi av v hi hv=>?_
  have:=f.tm i;have e1:s.sig.T i=av:=by show s.tm.getD i .top=av;rw[qA,hi];rfl
  have e2:a.tmps.getD i undef=v:=by
   rw[qQ];simp only[yM]at hv;rw[hv];rfl
  rw[e1]at this;simpa only[e2]using this
 obtain⟨s0,A⟩:∃s0:St,s0=⟨s.sv++List.replicate (fc.ntmps-s.sv.length) (.val undef),s.mem,s.nx,s.tm⟩:=⟨_,rfl⟩;have hc0:aP y s0.sig a0 w D E:=by
  have hsz0:(us.toArray++Array.replicate (fc.ntmps-us.toArray.size) undef).size=s.sv.length+(fc.ntmps-s.sv.length):=by simp[hlen]
  have:=f.clo (N:=s.sv.length+(fc.ntmps-s.sv.length)) (tm:=s0.sig.T) (tmps:=us.toArray++Array.replicate (fc.ntmps-us.toArray.size) undef) hsz0 (λt=>by rw[A];exact aDS L t) svs;rw[b,ha0,A];rw[A]at this;exact this
 have X:s0.tm.length=y.N:=by rw[A,b];simp
 have hSP:y.P=S.P:=by rw[b]
 have hc1:aP y (setSlot (some t3) rec s0).sig (a0.put (some t3) rv) w D E:=hc0.slot X (by rw[X,b];exact h1) (by rw[hSP,<- hP];exact hrv _);have hl1:(setSlot (some t3) rec s0).tm.length=y.N:=by simp[setSlot,X]
 have hc2:aP y (YY fc t3 t2 rec s).sig ((a0.put (some t3) rv).put (some t2) ((a0.put (some t3) rv).eval (.tmp t3))) w D E:=by
  have h5:=hc1.tm t3;have e5:(setSlot (some t3) rec s0).sig.T t3=rec:=by
   show(s0.tm.set t3 rec).getD t3 .top=rec;have ht:t3<s0.tm.length:=by rw[X,b];simpa[oW]using h1
   rw[qA,qCb ht];rfl
  rw[e5]at h5;have:=hc1.slot (d:=some t2) (x:=rec) (v:=(a0.put (some t3) rv).tmps.getD t3 undef) hl1 (by rw[hl1,b];exact h2) h5;rw[A]at this;exact this
 have HOc:OkS c y:=by
  rw[b];exact⟨HO.P,HO.G,HO.K,HO.I,HO.m,λe=>(e rfl).elim,λ_=>by rw[hrng];rfl,HO.KP⟩
 have hat:=lX crest y (YY fc t3 t2 rec s) _ (λe a' w'=>(e=.normal\/e=.ret)/\a'.defers=[]/\LeavesInM Fence.wide 0 c.P fn a.tmps POST [] .returning w') HOc h3 (by show _=y.N;simp[YY,setSlot];rw[b]) (λe s3 V hl3 a3 w3 hs3=>by
  obtain⟨D3,E3,h5⟩:=hs3;have hdef:a3.defers=[]:=(h5.df.1.1 (by rw[b])).trans (by rw[b]);have z:∀j,aJ s.sig.m E j->S.w0.heap.size<=j\/S.O j:=λj g0=>(f.ownAll g0).1
  have hlow:Chg S.O S.w0 w3:=by
   have l1:Chg S.O S.w0 w:=f.low;have l2:Chg (aJ s.sig.m E) w w3:=by have:=h5.low;rw[b]at this;exact this
   refine l1.step l2.os l2.tape l2.output l2.size λq V hno=>l2.block q (qX V l1.size) λg=>?_
   rcases z q g with g | g
   .omega
   .exact hno g
  have hout:aP S (Dm s3).sig {tmps:=a.tmps,defers:=[]} w3 D3 E3:=
   h5.leave (S:=S) (a0:={tmps:=a.tmps,defers:=[]}) hSP (by rw[b]) (by rw[b]) f.sz (λj g=>by
    rw[b]at g;rcases g with g | g
    .exact .inl (wH (show S.w0.heap.size<=w.heap.size from f.low.size) g)
    .exact z j g) hlow (λj g=>h5.dlo j (by rw[b];exact f.dlo j g)) (λj g=>by
    have:=h5.dhi j g;rw[b]at this;rcases this with g | g | g
    .exact f.dhi j g
    .exact .inr (.inl (wH (show S.w0.heap.size<=w.heap.size from f.low.size) g))
    .exact(z j g).elim (λg=>.inr (.inl g)) (λg=>.inr (.inr g))) ⟨⟨λ_=>hSg.symm,⟨[],hSg.symm⟩,yV⟩,λd hd=>(by cases hd)⟩ hSs
  have fin:=λV=>key (Dm s3) {tmps:=a.tmps,defers:=[]} w3 ⟨D3,E3,hout⟩ trivial V
  cases e<;>first
   | exact⟨.inl rfl,hdef,fin V⟩
   | exact⟨.inr rfl,hdef,fin V⟩
   | exact V.elim) _ w ⟨D,E,hc2⟩
 rw[show y.P=c.P by rw[hSP,hP],show y.rd=none by rw[b]]at hat;have hcall:=Vh (args:=us.toArray) hf hb hr hres hrec ha0 hat;subst hd;refine⟨hur,.inr ⟨λh=>(by cases h),.func cf,us.toArray,cf,us.toArray,rfl,?_,λ_ _=>trivial,hcall.mono λe u' w' he=>?_⟩⟩
 .simp only[invoke,gX];exact lq hgo w us.toArray
 .obtain⟨⟨v,rfl⟩,rfl,V⟩:=he;show LeavesInM _ _ _ _ _ _ _ (settle u') w';rw[hu2];exact V
def M3{e:List PanicEntry}{v:AV}(h:XP e=some v): ∃b,e=[{v:=b,recovered:=false}]/\∀(P:Program) (C:Ctx),v.rel P C b:=by
 unfold XP at h;split at h
 .rename_i t k x;cases h;exact⟨_,rfl,λP C=>⟨_,rfl,rfl⟩⟩
 .cases h
def GV{c:Cfg}{A Ac:Ann}{f:FuncId}{r:jG}(hK:ai c.P c.G c.K)(hI:bf c.P c.G c.KI)(hm:c.P.follows .mixedOrders=true)(hKP:bJ c.P c.G c.KP)(h:evG c A Ac f args r): ah c.P c.G f args [] r:=by
 intro hpre w D E us hD hG hargs hH;unfold evG at h;split at h
 case h_2=>exact h.elim
 rename_i g hg;obtain⟨⟨hrng,hgo⟩,h⟩:=h;have h:=h hpre;obtain⟨hf,⟨gid,i,hb,V⟩,hcf,⟨cid,rops,hcb,hrec⟩,hres⟩:=HA hg;obtain⟨S,hS,HO,hln,hstart,key⟩:=Lq (m:=[]) (r:=r) (fn:=g.fn) (X:=λ_=>False) (Z:=True) hK hI hm hKP rfl (λ_ h=>by cases h) w D E us hD hG hargs hH;have hSP:S.P=c.P:=by rw[hS]
 have hSr:S.rd=none:=by rw[hS]
 have hSs:S.sv=[]:=by rw[hS];rfl
 have hSg:S.gd=[]:=by rw[hS]
 have hSn:S.nod=true:=by rw[hS];show(!c.rng)=true;rw[hrng];rfl
 suffices hfin:Calls c.P f us.toArray w (λe w'=>(True/\∃v D' E',e=.returned v/\Left c.P (bN []) r.upd w D E w' D' E'/\r.ret.rel c.P ⟨w',D',upM (bN []) r.upd,E'⟩ v)\/∃ch,e=.panicked ch/\False/\Chg (bw (bN []) E) w w')from
  hfin.mono λe w' he=>by
   rcases he with⟨_,g⟩ | ⟨_,_,g,_⟩
   .exact g
   .exact g.elim
 refine(callsIn_wide (n:=0)).1 (uR hf hb ?_)
 suffices hgo2:At S.P S.rd (.seq g.pre (.seq (.region gid i false) g.rest)) (bodyPostM Fence.wide 0 c.P g.fn (λe w'=>(True/\∃v D' E',e=.returned v/\Left c.P (bN []) r.upd w D E w' D' E'/\r.ret.rel c.P ⟨w',D',upM (bN []) r.upd,E'⟩ v)\/∃ch,e=.panicked ch/\False/\Chg (bw (bN []) E) w w'))
   {tmps:=us.toArray++Array.replicate (g.fn.ntmps-us.toArray.size) undef,defers:=[]} w by
  rw[hSP,hSr]at hgo2;exact hgo2
 refine zo (lX g.pre S (fP g.fn args []) _ _ HO h hln (λe s L hl O w1 hs=>?_) _ w ⟨D,E,hstart⟩);cases e<;>first | exact L.elim | skip
 obtain⟨hdt,hrest⟩:=L;obtain⟨D1,E1,hd1⟩:=hs;have hdef:O.defers=[]:=(hd1.df.1.1 hSn).trans hSg;unfold guardOf at V;split at V
 case h_2=>cases V
 rename_i t cf first caps ty1 pos1 af1 t' dargs at2 ty2 pos2 af2 hl0
 split at V
 case isFalse=>cases V
 rename_i hc;simp only[qC,kK,qDb]at hc;obtain⟨⟨rfl,rfl⟩,rfl⟩:=hc;simp only[wM,qCd]at V;obtain⟨e1,e2,e3⟩:=V;obtain⟨o1,ho1⟩:∃o1:Oper,o1=⟨some t,.makeFunc (.func cf) #[] caps,ty1,pos1,af1,none⟩:=⟨_,rfl⟩;obtain⟨o2,ho2⟩:∃o2:Oper,o2=⟨none,.defer ⟨.value (.tmp t),#[],at2⟩,ty2,pos2,af2,none⟩:=⟨_,rfl⟩;have hops:i=#[o1,o2]:=by
  apply yQ;rw[ho1,ho2];exact hl0
 have hcapv:AV.relL S.P ⟨w1,D1,s.sig.m,E1⟩ (g.caps.map (evT c.G s.sig.T)) (g.caps.map O.eval):=by
  refine AV.relL_mk (by simp) λj av u h1 h2=>?_
  simp only[qR,qCa]at h1 h2;obtain⟨x,hx,rfl⟩:=h1;obtain⟨x',hx',rfl⟩:=h2;rw[hx]at hx';cases hx';have:=fj hd1 x;rw[<- HO.G]at this;exact this
 obtain⟨fv,hfv⟩:∃fv:Value,fv=.func (.func cf) #[] (g.caps.map O.eval).toArray:=⟨_,rfl⟩;obtain⟨d,hd⟩:∃d:Deferred,d={target:=.fn (.func g.cf) (g.caps.map O.eval).toArray,args:=#[]}:=⟨_,rfl⟩;have ht:t<S.N:=by
  rw[e1];rw[<- hl];simpa[oW]using hdt
 have hsz1:O.tmps.size=S.N:=hd1.sz;have hev:(O.put (some t) fv).eval (.tmp t)=fv:=by
  show(O.tmps.setIfInBounds t fv).getD t undef=fv;simp[Array.getD,hsz1,ht]
 have x1:(execOp O.eval o1).run S.P w1=.ok (.value fv) w1:=by
  rw[ho1,hfv,<- e3,<- toList_map];simp[execOp,Instr.makeFunc]
 have x2:(execOp (O.put (some t) fv).eval o2).run S.P w1=.ok (.defer d) w1:=by
  rw[ho2,hd,<- e2];have:(O.put (some t) fv).eval (.tmp t)=.func (.func cf) #[] (g.caps.map O.eval).toArray:=by rw[hev,hfv]
  simp only[execOp,resolve,this,Deferred.ofValue];simp
 have hreg:At S.P S.rd (.region gid i false) (Exit.then (At S.P S.rd g.rest (bodyPostM Fence.wide 0 c.P g.fn λe w'=>(True/\∃v D' E',e=.returned v/\Left c.P (bN []) r.upd w D E w' D' E'/\r.ret.rel c.P ⟨w',D',upM (bN []) r.upd,E'⟩ v)\/∃ch,e=.panicked ch/\False/\Chg (bw (bN []) E) w w'))
   (bodyPostM Fence.wide 0 c.P g.fn λe w'=>(True/\∃v D' E',e=.returned v/\Left c.P (bN []) r.upd w D E w' D' E'/\r.ret.rel c.P ⟨w',D',upM (bN []) r.upd,E'⟩ v)\/∃ch,e=.panicked ch/\False/\Chg (bw (bN []) E) w w')) O w1:=by
  refine Zd (wpIn_region ?_);have hF:S.F=Fence.wide:=by unfold Base.F;rw[hSr]
  rw[hF];have hz:i.size=2:=by rw[hops];rfl
  rw[hz];have h0:i[0]?=some o1:=by rw[hops];rfl
  have h1:i[1]?=some o2:=by rw[hops];rfl
  show wpOpsIn _ _ _ _ _ [0,1] _ _;have w1n:∀g,Region.wanted o1 g=true:=λg=>by rw[ho1];rfl
  have w2n:∀g,Region.wanted o2 g=true:=λg=>by rw[ho2];rfl
  have d1:o1.dst=some t:=by rw[ho1]
  have d2:o2.dst=none:=by rw[ho2]
  simp only[wpOpsIn,h0,h1,w1n,w2n,kR,Oper.wpIn];refine⟨λ_ _=>trivial,?_⟩;rw[show Fence.wide.round=none from rfl,Oper.semAt_none,x1,Oper.uponIn_value,d1];refine⟨λ_ _=>trivial,?_⟩;rw[Oper.semAt_none,x2,Oper.uponIn_defer,d2];obtain⟨S2,z⟩:∃S2:Base,S2={S with gd:=[d],sv:=g.caps.map O.eval}:=⟨_,rfl⟩;have HO2:OkS c S2:=by
   rw[z];exact⟨HO.P,HO.G,HO.K,HO.I,HO.m,λe=>(e hSr).elim,λ_=>HO.nod hSr,HO.KP⟩
  have b:=hd1.slot (d:=some t) (v:=fv) (x:=.fn cf (g.caps.map (evT c.G s.sig.T))) hl (by rw[e1];exact hdt) ⟨_,hfv,hcapv⟩;have hd2:aP S2 (Ak c.G g.t g.cf g.caps s).sig { (O.put (some t) fv)with defers:=d::(O.put (some t) fv).defers} w1 D1 E1:=by
   have hde:(O.put (some t) fv).defers=[]:=hdef;rw[hde,<- e1,<- e2,z];refine⟨b.sz,⟨⟨λ_=>rfl,⟨[],rfl⟩,qAr _ _⟩,λq L=>.inl ⟨L,λk e=>?_⟩⟩,b.tm,b.bl,b.own,b.inj,b.low,b.dlt,b.dlo,b.dhi,b.gl,hcapv,b.pv⟩;rw[vG]at L;rw[L,hd]at e;cases e
  have hl2:(Ak c.G g.t g.cf g.caps s).tm.length=S2.N:=by rw[z];simp[Ak,setSlot,hl]
  have y:∀{u u2:FrameMode} {rv:Value} {rec:AV} (_:aDa u rv u2) (_:settle u2=.returning) (_:u≠.run) (_:∀C:Ctx,rec.rel c.P C rv) (s':St) (a':Act) (w':World),Sim S2 s'.sig a' w'->s'.tm.length=S2.N->rc c Ac g.fn g.fc g.crest g.t3 g.t2 r rec s'->
    LeavesInM Fence.wide 0 c.P g.fn a'.tmps _ a'.defers u w':=λh1 h2 h3 h4 s' a' w' hs' hl' L=>by
   have hdd:a'.defers=[d]:=by
    obtain⟨D5,E5,h5⟩:=hs';have:=h5.df.1.1 (by rw[z];exact hSn);rw[this,z]
   rw[hdd];exact OH HO hrng hSs hSr hSn hSg hcf hcb hrec hres hgo key hd h1 h2 h3 (by rw[<- z];exact hs') (by rw[hl',z]) h4 L
  have hat:=lX g.rest S2 (Ak c.G g.t g.cf g.caps s) _ (bodyPostM Fence.wide 0 c.P g.fn λe w'=>(True/\∃v D' E',e=.returned v/\Left c.P (bN []) r.upd w D E w' D' E'/\r.ret.rel c.P ⟨w',D',upM (bN []) r.upd,E'⟩ v)\/∃ch,e=.panicked ch/\False/\Chg (bw (bN []) E) w w') HO2 hrest hl2 (λe s' L hl' a' w' hs'=>by
   cases e with
   | normal=>exact y (rec:=.val .nilIface) .ret rfl (by simp) (λ_=>rfl) s' a' w' hs' hl' L
   | ret=>exact y (rec:=.val .nilIface) .ret rfl (by simp) (λ_=>rfl) s' a' w' hs' hl' L
   | panic ch=>
    simp only[aIJ]at L;split at L
    case h_2=>exact L.elim
    rename_i v hv;obtain⟨rv,rfl,hrv⟩:=M3 hv;exact y (.pan rv) rfl (by simp) (λC=>hrv c.P C) s' a' w' hs' hl' L
   | exit id=>exact L.elim
   | goto l=>exact L.elim
   | outgrown=>exact L.elim) _ w1 ⟨D1,E1,hd2⟩
  rw[show S2.P=S.P by rw[z],show S2.rd=S.rd by rw[z]]at hat;exact hat
 exact zo hreg
end Go.Eng
namespace Go.Eng
open Go.RowKit
def Cfg.norng (c:Cfg):Cfg:={c with rng:=false}
def Cfg.bare (c:Cfg) (Kz:Kt):Cfg:=⟨c.P,[],Kz,c.mb,λ_ _=>none,false,λ_ _ _=>none,λ_=>false⟩
def GF(c:Cfg)(s:St)(Q:St->Prop): Prop:=match sweep c.rng s with
 | some s1=>Q s1
 | none=>False
def aII(c:Cfg)(Kz:Kt)(Ac:Ann)(fn fc:Func)(crest:Code)(t3 t2:Tmp)(r:jG): Exit->St->Prop
 | .normal,s=>GF c s (rc (c.bare Kz) Ac fn fc crest t3 t2 r (.val .nilIface))
 | .ret,s=>GF c s (rc (c.bare Kz) Ac fn fc crest t3 t2 r (.val .nilIface))
 | .panic ch,s=>match XP ch with
  | some v=>GF c s (rc (c.bare Kz) Ac fn fc crest t3 t2 r v)
  | none=>False
 | _,_=>False
def evR(c:Cfg)(Kz:Kt)(A0 A Ac:Ann)(f:FuncId)(args:List AV)(r:jG): Prop:=match M1 c.P f with
 | some g=>(c.rng=true/\goes c.P g.cf=true)/\(r.pre->ev c.norng A0 g.pre (fP g.fn args []) (λe s=>match e with
   | .normal=>oW (some g.t) s.tm.length=true/\ev c A g.rest (Ak c.G g.t g.cf g.caps s) (aII c Kz Ac g.fn g.fc g.crest g.t3 g.t2 r)
   | _=>False))
 | none=>False
variable {E:Nat->Ent}
def R1{S:Base}{rng:Bool}{s f:St}(e:sweep rng s=some f){a:Act}{w:World}{D:Nat->Prop}(h:aP S s.sig a w D E)(r:rng=true): Jr f.sig/\aP S f.sig a w D E/\f.tm.length=s.tm.length:=by
 subst r;unfold sweep at e;simp only[kR]at e;split at e
 case isFalse=>cases e
 rename_i g;cases e;simp only[qC,qO]at g;have i:∀t,(s.tm.map lY).getD t .top=lY (s.tm.getD t .top):=λt=>by
  simp only[qA,qR];cases s.tm[t]? with
  | none=>rfl
  | some x=>rfl
 refine⟨⟨λt=>?_,λj b hm=>g.1 (j,b) (dc hm),g.2⟩,⟨h.sz,h.df,λt=>?_,h.bl,h.own,h.inj,h.low,h.dlt,h.dlo,h.dhi,h.gl,h.svr,h.pv⟩,by simp⟩
 .show dZ ((s.tm.map lY).getD t .top)=true;rw[i];exact oY _
 .show((s.tm.map lY).getD t .top).rel S.P _ _;rw[i];exact y4 (h.tm t)
def sX{S:Base}{fn:Func}{R:Ending->World->Prop}{u:FrameMode}{gd:List Deferred}(f:S.gd=gd)(i:∀d∈gd,∀k,d.target≠.collected k)(j:∀b,S.D0 b->b<S.w0.heap.size){σ:Sig}(A:Jr σ)(z:u≠.run){tmps:Array Value}: ∀(ds:List Deferred) (w:World) (D:Nat->Prop),
  aP {S with G:=[]} σ {tmps:=tmps,defers:=ds} w D E->(∀y D2,aP {S with G:=[]} σ {tmps:=tmps,defers:=gd} y D2 E->LeavesInM Fence.wide 0 S.P fn tmps R gd u y)->
  LeavesInM Fence.wide 0 S.P fn tmps R ds u w
 | [],w,D,h,r=>by
  have L:gd=[]:=by
   obtain⟨ms,e⟩:=h.df.1.2.1;have e:[]=ms++S.gd:=e;rw[f]at e;exact(qCc.1 e.symm).2
  have:=r w D (by rw[L];exact h);rw[L]at this;exact this
 | d::ds,w,D,h,r=>by
  rcases h.df.2 d wB with⟨g,_⟩ | ⟨k,rfl,_⟩
  .have g:d∈S.gd:=g;rw[f]at g;have e:d::ds=gd:=by
    obtain⟨⟨_,⟨ms,e⟩,v⟩,O⟩:=h.df;have e:d::ds=ms++gd:=by rw[<- f];exact e
    cases ms with
    | nil=>exact e
    | cons x ms=>
     exfalso;simp only[List.cons_append,vF]at e;obtain⟨rfl,X⟩:=e;have hm:d∈ds:=by rw[X];exact qI.2 (.inr g)
     exact(yY.1 v).1 d hm rfl
   rw[e]at h ⊢;exact r w D h
  obtain⟨V,T⟩:=aP.shr (a:={tmps:=tmps,defers:=[]}) h A j (by rw[f];exact i);exact⟨z,.inl ⟨k,_,rfl,run_takeDeferred V,sX f i j A z ds _ _ T r⟩⟩
def GR{c:Cfg}{Kz:Kt}{A A0 Ac:Ann}{f:FuncId}{args:List AV}{r:jG}(hKz:ai c.P [] Kz)(hK:ai c.P c.G c.K)(hI:bf c.P c.G c.KI)(hm:c.P.follows .mixedOrders=true)(hKP:bJ c.P c.G c.KP)(h:evR c Kz A0 A Ac f args r): ah c.P c.G f args [] r:=by
 intro hpre w D E us hD hG hargs hH;unfold evR at h;split at h
 case h_2=>exact h.elim
 rename_i g hg;obtain⟨⟨hrng,hgo⟩,h⟩:=h;have h:=h hpre;obtain⟨hf,⟨gid,L,hb,hgd⟩,hcf,⟨cid,rops,hcb,hrec⟩,hres⟩:=HA hg;obtain⟨Z,hZ,HOZ,hlnZ,b,key⟩:=Lq (c:=c.bare Kz) (m:=[]) (r:=r) (fn:=g.fn) (X:=λ_=>False) (Z:=True) hKz (λ_ _ _ h=>by cases h) hm (λ_ _ _ _ h=>by cases h) rfl (λ_ h=>by cases h) w D E us hD (λp hp=>by cases hp) hargs hH;obtain⟨S,hS⟩:∃S:Base,S={Z with G:=c.G}:=⟨_,rfl⟩
 have hZP:Z.P=c.P:=by rw[hZ];rfl
 have hZG:Z.G=[]:=by rw[hZ];rfl
 have hZr:Z.rd=none:=by rw[hZ]
 have hZs:Z.sv=[]:=by rw[hZ];rfl
 have hZg:Z.gd=[]:=by rw[hZ]
 have hZn:Z.nod=true:=by rw[hZ];rfl
 have hSP:S.P=c.P:=by rw[hS];exact hZP
 have HO:OkS c.norng S:=by
  rw[hS,hZ];exact⟨rfl,rfl,hK,hI,hm,λe=>(e rfl).elim,λ_=>rfl,hKP⟩
 have hln:(fP g.fn args []).tm.length=S.N:=by rw[hS];exact hlnZ
 have hstart:aP S (fP g.fn args []).sig {tmps:=us.toArray++Array.replicate (g.fn.ntmps-us.toArray.size) undef,defers:=[]} w D E:=by
  rw[hS];exact⟨b.sz,b.df,λx=>by rw[show({Z with G:=c.G}:Base).P=Z.P from rfl];exact b.tm x,b.bl,b.own,b.inj,b.low,b.dlt,b.dlo,b.dhi,by show lM Z.P _ c.G;rw[hZP];exact hG,b.svr,b.pv⟩
 have hSr:S.rd=none:=by rw[hS];exact hZr
 have hSg:S.gd=[]:=by rw[hS];exact hZg
 have hSn:S.nod=true:=by rw[hS];exact hZn
 suffices hfin:Calls c.P f us.toArray w (λe w'=>(True/\∃v D' E',e=.returned v/\Left c.P (bN []) r.upd w D E w' D' E'/\r.ret.rel c.P ⟨w',D',upM (bN []) r.upd,E'⟩ v)\/∃ch,e=.panicked ch/\False/\Chg (bw (bN []) E) w w')from
  hfin.mono λe w' he=>by
   rcases he with⟨_,g⟩ | ⟨_,_,g,_⟩
   .exact g
   .exact g.elim
 refine(callsIn_wide (n:=0)).1 (uR hf hb ?_)
 suffices hgo2:At S.P S.rd (.seq g.pre (.seq (.region gid L false) g.rest)) (bodyPostM Fence.wide 0 c.P g.fn (λe w'=>(True/\∃v D' E',e=.returned v/\Left c.P (bN []) r.upd w D E w' D' E'/\r.ret.rel c.P ⟨w',D',upM (bN []) r.upd,E'⟩ v)\/∃ch,e=.panicked ch/\False/\Chg (bw (bN []) E) w w'))
   {tmps:=us.toArray++Array.replicate (g.fn.ntmps-us.toArray.size) undef,defers:=[]} w by
  rw[hSP,hSr]at hgo2;exact hgo2
 refine zo (lX (c:=c.norng) g.pre S (fP g.fn args []) _ _ HO h hln (λe s y hl V w1 hs=>?_) _ w ⟨D,E,hstart⟩);cases e<;>first | exact y.elim | skip
 obtain⟨hdt,hrest⟩:=y;obtain⟨D1,E1,hd1⟩:=hs;have hdef:V.defers=[]:=(hd1.df.1.1 hSn).trans hSg;unfold guardOf at hgd;split at hgd
 case h_2=>cases hgd
 rename_i t cf first caps ty1 pos1 af1 t' dargs at2 ty2 pos2 af2 hl0
 split at hgd
 case isFalse=>cases hgd
 rename_i hc;simp only[qC,kK,qDb]at hc;obtain⟨⟨rfl,rfl⟩,rfl⟩:=hc;simp only[wM,qCd]at hgd;obtain⟨e1,e2,e3⟩:=hgd;obtain⟨o1,ho1⟩:∃o1:Oper,o1=⟨some t,.makeFunc (.func cf) #[] caps,ty1,pos1,af1,none⟩:=⟨_,rfl⟩;obtain⟨o2,ho2⟩:∃o2:Oper,o2=⟨none,.defer ⟨.value (.tmp t),#[],at2⟩,ty2,pos2,af2,none⟩:=⟨_,rfl⟩;have hops:L=#[o1,o2]:=by
  apply yQ;rw[ho1,ho2];exact hl0
 have hcapv:AV.relL S.P ⟨w1,D1,s.sig.m,E1⟩ (g.caps.map (evT c.G s.sig.T)) (g.caps.map V.eval):=by
  refine AV.relL_mk (by simp) λj av u h1 h2=>?_
  simp only[qR,qCa]at h1 h2;obtain⟨x,hx,rfl⟩:=h1;obtain⟨x',hx',rfl⟩:=h2;rw[hx]at hx';cases hx';have:=fj hd1 x;rw[<- HO.G]at this;exact this
 obtain⟨fv,hfv⟩:∃fv:Value,fv=.func (.func cf) #[] (g.caps.map V.eval).toArray:=⟨_,rfl⟩;obtain⟨d,hd⟩:∃d:Deferred,d={target:=.fn (.func g.cf) (g.caps.map V.eval).toArray,args:=#[]}:=⟨_,rfl⟩;have ht:t<S.N:=by
  rw[e1];rw[<- hl];simpa[oW]using hdt
 have hsz1:V.tmps.size=S.N:=hd1.sz;have hev:(V.put (some t) fv).eval (.tmp t)=fv:=by
  show(V.tmps.setIfInBounds t fv).getD t undef=fv;simp[Array.getD,hsz1,ht]
 have x1:(execOp V.eval o1).run S.P w1=.ok (.value fv) w1:=by
  rw[ho1,hfv,<- e3,<- toList_map];simp[execOp,Instr.makeFunc]
 have x2:(execOp (V.put (some t) fv).eval o2).run S.P w1=.ok (.defer d) w1:=by
  rw[ho2,hd,<- e2];have:(V.put (some t) fv).eval (.tmp t)=.func (.func cf) #[] (g.caps.map V.eval).toArray:=by rw[hev,hfv]
  simp only[execOp,resolve,this,Deferred.ofValue];simp
 have hreg:At S.P S.rd (.region gid L false) (Exit.then (At S.P S.rd g.rest (bodyPostM Fence.wide 0 c.P g.fn λe w'=>(True/\∃v D' E',e=.returned v/\Left c.P (bN []) r.upd w D E w' D' E'/\r.ret.rel c.P ⟨w',D',upM (bN []) r.upd,E'⟩ v)\/∃ch,e=.panicked ch/\False/\Chg (bw (bN []) E) w w'))
   (bodyPostM Fence.wide 0 c.P g.fn λe w'=>(True/\∃v D' E',e=.returned v/\Left c.P (bN []) r.upd w D E w' D' E'/\r.ret.rel c.P ⟨w',D',upM (bN []) r.upd,E'⟩ v)\/∃ch,e=.panicked ch/\False/\Chg (bw (bN []) E) w w')) V w1:=by
  refine Zd (wpIn_region ?_);have hF:S.F=Fence.wide:=by unfold Base.F;rw[hSr]
  rw[hF];have hz:L.size=2:=by rw[hops];rfl
  rw[hz];have h0:L[0]?=some o1:=by rw[hops];rfl
  have h1:L[1]?=some o2:=by rw[hops];rfl
  show wpOpsIn _ _ _ _ _ [0,1] _ _;have w1n:∀g,Region.wanted o1 g=true:=λg=>by rw[ho1];rfl
  have w2n:∀g,Region.wanted o2 g=true:=λg=>by rw[ho2];rfl
  have d1:o1.dst=some t:=by rw[ho1]
  have d2:o2.dst=none:=by rw[ho2]
  simp only[wpOpsIn,h0,h1,w1n,w2n,kR,Oper.wpIn];refine⟨λ_ _=>trivial,?_⟩;rw[show Fence.wide.round=none from rfl,Oper.semAt_none,x1,Oper.uponIn_value,d1];refine⟨λ_ _=>trivial,?_⟩;rw[Oper.semAt_none,x2,Oper.uponIn_defer,d2];obtain⟨S2,z⟩:∃S2:Base,S2={S with gd:=[d],sv:=g.caps.map V.eval,nod:=false}:=⟨_,rfl⟩;have HO2:OkS c S2:=by
   rw[z];exact⟨HO.P,HO.G,HO.K,HO.I,HO.m,λe=>(e hSr).elim,λ_=>by rw[hrng];rfl,HO.KP⟩
  have i:=hd1.slot (d:=some t) (v:=fv) (x:=.fn cf (g.caps.map (evT c.G s.sig.T))) hl (by rw[e1];exact hdt) ⟨_,hfv,hcapv⟩;have hd2:aP S2 (Ak c.G g.t g.cf g.caps s).sig { (V.put (some t) fv)with defers:=d::(V.put (some t) fv).defers} w1 D1 E1:=by
   have hde:(V.put (some t) fv).defers=[]:=hdef;rw[hde,<- e1,<- e2,z];refine⟨i.sz,⟨⟨λ_=>rfl,⟨[],rfl⟩,qAr _ _⟩,λq y=>.inl ⟨y,λk e=>?_⟩⟩,i.tm,i.bl,i.own,i.inj,i.low,i.dlt,i.dlo,i.dhi,i.gl,hcapv,i.pv⟩;rw[vG]at y;rw[y,hd]at e;cases e
  have hl2:(Ak c.G g.t g.cf g.caps s).tm.length=S2.N:=by rw[z];simp[Ak,setSlot,hl]
  have hdn:∀k,d.target≠.collected k:=λk e=>by rw[hd]at e;cases e
  have O:∀{u u2:FrameMode} {rv:Value} {rec:AV} (_:aDa u rv u2) (_:settle u2=.returning) (_:u≠.run) (_:∀C:Ctx,rec.rel c.P C rv) (s':St) (a':Act) (w':World),Sim S2 s'.sig a' w'->s'.tm.length=S2.N->GF c s' (rc (c.bare Kz) Ac g.fn g.fc g.crest g.t3 g.t2 r rec)->
    LeavesInM Fence.wide 0 c.P g.fn a'.tmps _ a'.defers u w':=λh1 h2 h3 h4 s' a' w' hs' hl' y=>by
   unfold GF at y;split at y
   case h_2=>exact y.elim
   rename_i s1 hsw;obtain⟨D5,E5,h5⟩:=hs';obtain⟨p1,p2,p3⟩:=R1 hsw h5 hrng;have h6:aP {S2 with G:=[]} s1.sig {tmps:=a'.tmps,defers:=a'.defers} w' D5 E5:=by
    exact⟨p2.sz,p2.df,p2.tm,p2.bl,p2.own,p2.inj,p2.low,p2.dlt,p2.dlo,p2.dhi,λp hp=>(by cases hp),p2.svr,p2.pv⟩
   rw[<- hSP,show S.P=S2.P by rw[z]];refine sX (S:=S2) (gd:=[d]) (by rw[z]) (λq y k=>by rw[vG]at y;rw[y];exact hdn k) (by rw[z,hS,hZ];exact hD) p1 h3 a'.defers w' D5 h6 λw2 D2 h7=>?_
   rw[show S2.P=c.P by rw[z];exact hSP];refine OH (c:=c.bare Kz) HOZ rfl hZs hZr hZn hZg hcf hcb hrec hres hgo key hd h1 h2 h3 (s:=s1) (a:={tmps:=a'.tmps,defers:=[d]}) ⟨D2,E5,?_⟩ (by rw[p3,hl',z,hS]) h4 y;have e8:({S2 with G:=[]}:Base)={Z with gd:=[d],sv:=(g.caps.map V.eval),nod:=false}:=by rw[z,hS];cases Z;simp only at hZG;subst hZG;rfl
   rw[e8]at h7;exact⟨h7.sz,⟨⟨λ_=>rfl,⟨[],rfl⟩,qAr _ _⟩,h7.df.2⟩,h7.tm,h7.bl,h7.own,h7.inj,h7.low,h7.dlt,h7.dlo,h7.dhi,h7.gl,h7.svr,h7.pv⟩
  have hat:=lX g.rest S2 (Ak c.G g.t g.cf g.caps s) _ (bodyPostM Fence.wide 0 c.P g.fn λe w'=>(True/\∃v D' E',e=.returned v/\Left c.P (bN []) r.upd w D E w' D' E'/\r.ret.rel c.P ⟨w',D',upM (bN []) r.upd,E'⟩ v)\/∃ch,e=.panicked ch/\False/\Chg (bw (bN []) E) w w') HO2 hrest hl2 (λe s' y hl' a' w' hs'=>by
   cases e with
   | normal=>exact O (rec:=.val .nilIface) .ret rfl (by simp) (λ_=>rfl) s' a' w' hs' hl' y
   | ret=>exact O (rec:=.val .nilIface) .ret rfl (by simp) (λ_=>rfl) s' a' w' hs' hl' y
   | panic ch=>
    simp only[aII]at y;split at y
    case h_2=>exact y.elim
    rename_i v hv;obtain⟨rv,rfl,hrv⟩:=M3 hv;exact O (.pan rv) rfl (by simp) (λC=>hrv c.P C) s' a' w' hs' hl' y
   | exit id=>exact y.elim
   | goto l=>exact y.elim
   | outgrown=>exact y.elim) _ w1 ⟨D1,E1,hd2⟩
  rw[show S2.P=S.P by rw[z],show S2.rd=S.rd by rw[z]]at hat;exact hat
 exact zo hreg
end Go.Eng
namespace Go.Eng
open Go.RowKit
def put(s:St)(l:List (Tmp×AV)): St:={s with tm:=l.foldl (λtm p=>tm.set p.1 p.2) s.tm}
def fu(s:St)(nm:Nat)(b:Blk): St:={s with mem:=wz s.mem nm b}
def az: Ann:=⟨λ_ _=>none,λ_ _=>none,λ_ _=>none⟩
def of_eq{p q:Prop}(h:q=p)(b:p): q:=h▸b
variable {P:Program}
def mS{w w':World}{D D':Nat->Prop}{as:List AV}{us:Lv}(e:AV.namesL as=[])(f:∀b,D b->D' b)(hw:∀b,D b->w'.heap[b]?=w.heap[b]?)
  {m:Nat->Option Blk} {E:Nat->Ent} (h:AV.relL P ⟨w,D,m,E⟩ as us):AV.relL P ⟨w',D',noM,noE⟩ as us:=
 AV.relL_mono (C:=⟨w,D,m,E⟩) (C':=⟨w',D',noM,noE⟩) ⟨f,hw⟩ (λg hm=>by rw[e]at hm;cases hm) h
def Left.pure {P:Program} {upd:Mem} {w w':World} {D D':Nat->Prop} {E E':Nat->Ent} (h:Left P (bN []) upd w D E w' D' E'):Below w.heap.size w w'/\∀b,D' b->D b\/iH w w' b:=by
 refine⟨⟨h.chg.os,h.chg.tape,h.chg.output,h.chg.size,λk e=>h.chg.block k e λ⟨i,f,g,_⟩=>(by cases g)⟩,λb hb=>?_⟩;rcases h.dhi b hb with g | g | ⟨_,_,g,_⟩
 .exact .inl g
 .exact .inr ⟨g,h.dlt b hb⟩
 .cases g
def ah.data {P:Program} {G:List (Nat×AV)} {f:FuncId} {args:List AV} {pre:Prop} {r:Ty} {y:r.den} (h:ah P G f args [] ⟨pre,.dat r y,[]⟩) (u:pre) {w:World} {D:Nat->Prop} {us:Lv} (A:∀b,D b->b<w.heap.size)
  (z:lM P ⟨w,D,noM,noE⟩ G) (x:AV.relL P ⟨w,D,noM,noE⟩ args us):Calls P f us.toArray w (LX w D r y):=by
 refine(h u w D noE us A z x (Held.none _ _ _ _)).mono λe w' ⟨v,D',E',j,i,g⟩=>?_
 obtain⟨g1,g2⟩:=i.pure;exact⟨v,j,g1,aw g2 (λ_ _=>rfl) g⟩
variable {caps:List AV} {G:List (Nat×AV)}
def lB{f:FuncId}{a b r:Ty}{pre:a.den->b.den->Prop}{g:a.den->b.den->r.den}(V:goes P f=true)(T:AV.namesL caps=[])
  (h:∀x y,ah P G f (.dat a x::.dat b y::caps) [] ⟨pre x y,.dat r (g x y),[]⟩) {C:Ctx} (hG:lM P C G) {v:Value} (L:(AV.fn f caps).rel P C v):(AV.clo2 a b r pre g).rel P C v:=by
 obtain⟨us,rfl,X⟩:=L;refine⟨f,us.toArray,rfl,V,λw' D' g1 g2 g3 x y u v O A z=>?_⟩;have i:AV.relL P ⟨w',D',noM,noE⟩ (.dat a x::.dat b y::caps) (u::v::us):=⟨u,_,rfl,A,v,_,rfl,z,mS T g1 g3 X⟩;have j:lM P ⟨w',D',noM,noE⟩ G:=hG.mono ⟨g1,g3⟩;have e:(#[u,v]++us.toArray)=(u::v::us).toArray:=by simp
 rw[e];exact(h x y).data O g2 j i
def lC{f:FuncId}{a r:Ty}{pre:a.den->Prop}{g:a.den->r.den}(L:goes P f=true)(A:AV.namesL caps=[])
  (h:∀x,ah P G f (.dat a x::caps) [] ⟨pre x,.dat r (g x),[]⟩) {C:Ctx} (T:lM P C G) {v:Value} (y:(AV.fn f caps).rel P C v):(AV.clo1 a r pre g).rel P C v:=by
 obtain⟨us,rfl,O⟩:=y;refine⟨f,us.toArray,rfl,L,λw' D' g1 g2 g3 x u z j=>?_⟩;have b:AV.relL P ⟨w',D',noM,noE⟩ (.dat a x::caps) (u::us):=⟨u,_,rfl,j,mS A g1 g3 O⟩;have i:lM P ⟨w',D',noM,noE⟩ G:=T.mono ⟨g1,g3⟩;have e:(#[u]++us.toArray)=(u::us).toArray:=by simp
 rw[e];exact(h x).data z g2 i b
def ah.args {P:Program} {G:List (Nat×AV)} {f:FuncId} {as bs:List AV} {m:Mem} {c:jG} (h:ah P G f bs m c) (b:∀(C:Ctx) us,lM P C G->AV.relL P C as us->AV.relL P C bs us):ah P G f as m c:=
 λi w D E us r e g j=>h i w D E us r e (b _ us e g) j
def ah.of_pre {P:Program} {G:List (Nat×AV)} {f:FuncId} {as:List AV} {m:Mem} {c:jG} (h:c.pre->ah P G f as m c):ah P G f as m c:=λb=>h b b
def ah.weaken {P:Program} {G:List (Nat×AV)} {f:FuncId} {as:List AV} {m:Mem} {p q:Prop} {r:AV} {u:Mem} (h:ah P G f as m ⟨q,r,u⟩) (b:p->q):ah P G f as m ⟨p,r,u⟩:=λe=>h (b e)
def ah.eqv {P:Program} {G:List (Nat×AV)} {f:FuncId} {as:List AV} {m:Mem} {p:Prop} {t:Ty} {x y:t.den} {u:Mem} (h:ah P G f as m ⟨p,.dat t x,u⟩) (e:p->x=y):ah P G f as m ⟨p,.dat t y,u⟩:=λb=>e b▸h b
mutual
def aIH(m:Mem)(nms:List Nat): AV->AV
 | .ptr nm g i c=>if nms.contains nm then match m.lookup nm with
  | some (.var [.dat t x])=>.ip t x
  | some (.var [v])=>if v.names.isEmpty then .ipv v else .top
  | some (.buf _ t xs [])=>.ia t xs
  | _=>.top
  else .ptr nm g i c
 | .buf nm n=>if nms.contains nm then match m.lookup nm with
  | some (.buf _ t xs [])=>.dat (.sl t) xs
  | some (.mat _ _ e xss [])=>.dat (.sl (.sl e)) xss
  | some (.buf _ (.sl e) xs [(i,.buf nm2 _)])=>match m.lookup nm2 with
   | some (.buf _ e' zs [])=>if h:e'=e then .dat (.sl (.sl e)) (Em (α:=List e.den) xs i (h▸zs))else .top
   | _=>.top
  | _=>.top
  else .buf nm n
 | .agg cs=>.agg (aHK m nms cs)
 | a=>if a.names.any nms.contains then .top else a
def aHK(m:Mem)(nms:List Nat): List AV->List AV
 | []=>[]
 | a::as=>aIH m nms a::aHK m nms as
end
def aJL(m:Mem)(nms:List Nat): Blk->Blk
 | .var cs=>.var (aHK m nms cs)
 | b=>b
def frz(nms:List Nat)(s:St): St:={s with tm:=s.tm.map (λa=>aIH s.mem nms (aDl a)),mem:=(s.mem.filter λp=>!nms.contains p.1).map λp=>(p.1,aJL s.mem nms p.2)}
def allNames(s:St): List Nat:=s.mem.map (·.1)
end Go.Eng
namespace Go.Eng
open Go.RowKit
structure Y where
 s:St
 k:Nat
 on:Bool
structure aH4 where
 α:Type
 inv:α->Prop
 st:α->Y
 μ:α->Nat
structure Jv where
 loop:Nat->Y->Option aH4
 pre:Nat->St->Option St
 yr:Nat->Bool
def leY(y y':Y): Prop:=leP y.s y'.s/\y.k=y'.k/\y.on=y'.on
def yieldOf(G:List (Nat×AV))(T:Nat->AV)(g:Bool)(o:Op): Option (Nat×List Prop×List AV):=match o with
 | .call ⟨.value f,args,_⟩=>match ug g (evT G T f),args.toList with
  | (.yld l,n1),[a]=>match ug g (evT G T a)with
   | (v,n2)=>some (l,n1++n2,[v])
  | (.yld l,n1),[a,b]=>match ug g (evT G T a),ug g (evT G T b)with
   | (v,n2),(w,n3)=>some (l,n1++(n2++n3),[v,w])
  | _,_=>none
 | _=>none
def Zf(t:Ty)(v:AV): Option t.den:=if aFY t=true then(match v with
  | .agg cs=>match cT t cs with
   | some (x,[])=>some x
   | _=>none
  | _=>none)else v.as t
def asY: (t:Ty)->List AV->Option t.den
 | .pair a b,[v,w]=>match Zf a v,Zf b w with
  | some x,some y=>some (x,y)
  | _,_=>none
 | .int k,[v]=>v.as (.int k)
 | .bool,[v]=>v.as .bool
 | .str,[v]=>v.as .str
 | .sl e,[v]=>v.as (.sl e)
 | _,_=>none
def Jk{P:Program}{C:Ctx}{t:Ty}{v:AV}{x:t.den}{u:Value}(h:Zf t v=some x)(b:v.rel P C u): (sQ t x).rel P C u:=by
 unfold Zf at h;unfold sQ;split at h
 .rename_i e;rw[if_pos e];split at h
  .rename_i cs;split at h
   .rename_i y r;cases h;obtain⟨us,rfl,j⟩:=b;obtain⟨f,z,rfl,i,g⟩:=cF r j;cases g;refine⟨f++[],rfl,?_⟩;rw[vY];exact cw i
   .cases h
  .cases h
 .rename_i e;rw[if_neg e];exact AV.as_rel h b
def Vy{P:Program}{C:Ctx}: ∀{t:Ty} {vs:List AV} {x:t.den} {us:Lv},asY t vs=some x->AV.relL P C vs us->AV.relL P C (Kv t x) us
 | .pair a b,[v,w],x,us,h,e=>by
  simp only[asY]at h;split at h
  .rename_i z y r j;cases h;obtain⟨u,f,rfl,g1,g2⟩:=e;obtain⟨i,g,rfl,g3,g4⟩:=g2;exact⟨u,_,rfl,Jk r g1,i,_,rfl,Jk j g3,g4⟩
  .cases h
 | .int _,[v],x,us,h,e | .bool,[v],x,us,h,e | .str,[v],x,us,h,e | .sl _,[v],x,us,h,e=>by
  obtain⟨u,f,rfl,g1,g2⟩:=e;exact⟨u,_,rfl,AV.as_rel h g1,g2⟩
 | .pair _ _,[],_,_,h,_ | .pair _ _,[_],_,_,h,_ | .pair _ _,_::_::_::_,_,_,h,_=>by simp[asY]at h
 | .int _,[],_,_,h,_ | .int _,_::_::_,_,_,h,_ | .bool,[],_,_,h,_ | .bool,_::_::_,_,_,h,_ | .str,[],_,_,h,_ | .str,_::_::_,_,_,h,_ | .sl _,[],_,_,h,_ | .sl _,_::_::_,_,_,h,_=>by simp[asY]at h
def uV{G:List (Nat×AV)}{T:Nat->AV}{g:Bool}{o:Op}{l:Nat}{ns:List Prop}{v:List AV}(h:yieldOf G T g o=some (l,ns,v)):
  ∃f args at_ i r,o=.call ⟨.value f,args,at_⟩/\ug g (evT G T f)=(.yld l,i)/\ns=i++r/\((∃a j,args.toList=[a]/\ug g (evT G T a)=(j,r)/\v=[j])\/∃a b j x z y,args.toList=[a,b]/\ug g (evT G T a)=(j,z)/\ug g (evT G T b)=(x,y)/\v=[j,x]/\r=z++y):=by
 unfold yieldOf at h;split at h
 case h_2=>cases h
 rename_i f args at_;split at h
 .rename_i A i a u e;cases h;exact⟨f,args,at_,i,_,rfl,u,rfl,.inl ⟨a,_,e,rfl,rfl⟩⟩
 .rename_i A i a b u e;cases h;exact⟨f,args,at_,i,_,rfl,u,rfl,.inr ⟨a,b,_,_,_,_,e,rfl,rfl,rfl,rfl⟩⟩
 .cases h
def aBj(c:Cfg)(it:jF)(l:Nat)(ops:Array Oper): List Oper->Y->(Y->Prop)->Prop
 | [],y,Q=>Q y
 | o::os,y,Q=>match QU y.s.sig.T ops o.guard with
  | some g=>match yieldOf c.G y.s.sig.T g o.op with
   | some (l',ns,v)=>if oW o.dst y.s.tm.length=true/\y.s.mem.isEmpty=true then match asY it.t v with
    | some x=>YR g (all ns (l'=l/\y.on=true/\m4 it.L y.k x/\∀b:Bool,aBj c it l ops os ⟨setSlot o.dst (.dat .bool b) y.s,y.k+1,b⟩ Q))
      (aBj c it l ops os ⟨setSlot o.dst (.grd g (.dat .bool false)) y.s,y.k,y.on⟩ Q)
    | none=>False
    else False
   | none=>match iJ c.P c.G c.K (c.mt o) ops y.s.nx y.s.sig o with
    | some r=>if iu r y.s.tm.length=true/\HT r y.s=true then all r.need (aBj c it l ops os ⟨cV r y.s,y.k,y.on⟩ Q)else False
    | none=>False
  | none=>False
def cQ(o:Oper): Bool:=match o.op with
 | .call ⟨.value (.tmp _),_,_⟩=>true
 | _=>false
def aIE(tbl:List Nat)(q n:Nat): Bool:=(List.range n).all λj=>if j<q then(tbl.getD q 0).testBit j else j==q||(tbl.getD j 0).testBit q
def aCq(c:Cfg)(it:jF)(l:Nat)(ops:Array Oper)(y:Y)(Q:Y->Prop): Prop:=
 match ops[ops.toList.findIdx cQ]?,ZC c ops (ops.toList.take (ops.toList.findIdx cQ)) y.s with
 | some o,some rs=>if aIE (jD [] ops.toList) (ops.toList.findIdx cQ) ops.size=true/\o.guard.isNone=true/\oW o.dst y.s.tm.length=true/\(gu rs y.s (ops.toList.findIdx cQ)).mem.isEmpty=true/\
    wm true (jD [] ops.toList) y.s (rs++List.replicate (ops.size-ops.toList.findIdx cQ) dflt)=true/\oq (jD [] ops.toList) ops.toList (rs++List.replicate (ops.size-ops.toList.findIdx cQ) dflt)=true then
   match yieldOf c.G (gu rs y.s (ops.toList.findIdx cQ)).sig.T true o.op with
   | some (l',ns,v)=>match asY it.t v with
    | some x=>all (rs.flatMap (·.need)) (all ns (l'=l/\y.on=true/\m4 it.L y.k x/\∀b:Bool,
      match ZC c ops (ops.toList.drop (ops.toList.findIdx cQ+1)) (setSlot o.dst (.dat .bool b) (gu rs y.s (ops.toList.findIdx cQ)))with
      | some rs2=>if wm true (jD [] ops.toList) (setSlot o.dst (.dat .bool b) (gu rs y.s (ops.toList.findIdx cQ))) (List.replicate (ops.toList.findIdx cQ+1) dflt++rs2)=true/\
         oq (jD [] ops.toList) ops.toList (List.replicate (ops.toList.findIdx cQ+1) dflt++rs2)=true then
        all (rs2.flatMap (·.need)) (Q ⟨gu rs2 (setSlot o.dst (.dat .bool b) (gu rs y.s (ops.toList.findIdx cQ))) rs2.length,y.k+1,b⟩)else False
      | none=>False))
    | none=>False
   | none=>False
  else False
 | _,_=>False
def evZ(c:Cfg)(rg:Array Oper->Bool->Y->(Y->Prop)->Prop)(A:Jv): Code->Y->(Exit->Y->Prop)->Prop
 | .skip,y,Q=>Q .normal y
 | .region id ops draw,y,Q=>match A.pre id y.s with
  | some s1=>match VS y.s s1 with
   | some ms=>all ms (if A.yr id=true then rg ops draw ⟨s1,y.k,y.on⟩ (Q .normal)else aC3 c ops draw s1 λs'=>Q .normal ⟨s',y.k,y.on⟩)
   | none=>False
  | none=>if A.yr id=true then rg ops draw y (Q .normal)else aC3 c ops draw y.s λs'=>Q .normal ⟨s',y.k,y.on⟩
 | .seq a b,y,Q=>evZ c rg A a y (λe y'=>match e with | .normal=>evZ c rg A b y' Q | e=>Q e y')
 | .cond t a b,y,Q=>match YQ (evT c.G y.s.sig.T t)with
  | some (ns,x)=>all ns (YR x (evZ c rg A a y Q) (evZ c rg A b y Q))
  | none=>False
 | .block id b,y,Q=>evZ c rg A b y (λe y'=>match e with | .exit id'=>if id'=id then Q .normal y' else Q (.exit id') y' | e=>Q e y')
 | .exit id,y,Q=>Q (.exit id) y
 | .ret,y,Q=>Q .ret y
 | .loop b,y,Q=>match fA b with
  | some id=>match A.loop id {y with s:=Ob b y.s} with
   | some sp=>(∃x,sp.inv x/\leY y (sp.st x))/\∀x,sp.inv x->evZ c rg A b (sp.st x) (λe y'=>match e with | .normal=>∃z,sp.inv z/\leY y' (sp.st z)/\sp.μ z<sp.μ x | e=>Q e y')
   | none=>False
  | none=>False
 | _,_,_=>False
def rgY(c:Cfg)(it:jF)(l:Nat)(ops:Array Oper)(draw:Bool)(y:Y)(Q:Y->Prop): Prop:=if draw=true then aCq c it l ops y Q else aBj c it l ops ops.toList y Q
def evY(c:Cfg)(it:jF)(l:Nat): Jv->Code->Y->(Exit->Y->Prop)->Prop:=evZ c (rgY c it l)
def aF2(it:jF): Exit->Y->Prop
 | .normal,y=>y.on=true->y.k=it.L.length
 | .ret,y=>y.on=true->y.k=it.L.length
 | _,_=>False
def sD(fn:Func)(l:Nat)(caps:List AV): Y:=⟨⟨(.yld l::caps)++List.replicate (fn.ntmps-(caps.length+1)) (.val undef),[],0,[]⟩,0,true⟩
def evI(c:Cfg)(A:Jv)(f:FuncId)(caps:List AV)(it:jF): Prop:=match c.P.funcs[f]? with
 | some fn=>match fn.body with
  | some b=>fn.results.toList.isEmpty=true/\(AV.namesL caps).isEmpty=true/\true=true/\c.rng=false/\∀l,it.pre->evY c it l A b (sD fn l caps) (aF2 it)
  | none=>False
 | none=>False
section
structure FrY where
 ro:Option Nat
 sv:Lv
 V:Nat->Prop
 Dv:Nat->Prop
 W:World
def Fr: Option Nat->Fence
 | none=>Fence.wide
 | some l=>Fence.wide.inRound l
def aCX(ro:Option Nat)(f:FuncId): (Fr ro).fn f:=by cases ro<;>trivial
def OT(ro:Option Nat): (Fr ro).depth=none:=by cases ro<;>rfl
def Zn(ro:Option Nat): (Fr ro).round=ro:=by cases ro<;>rfl
def aBF{ro:Option Nat}{P:Program}{l:Nat}{f:FuncId}{tmps:Array Value}{assign body:Code}{w:World}{R:Ending->World->Prop}(h:RoundIn Fence.wide 0 P l f tmps assign body w R): RoundIn (Fr ro) 0 P l f tmps assign body w R:=by
 cases ro with
 | none=>exact h
 | some k=>exact h
def Kept(fr:FrY)(w:World): Prop:=fr.W.heap.size<=w.heap.size/\∀b,fr.Dv b\/fr.V b->w.heap[b]?=fr.W.heap[b]?
variable {c:Cfg} {it:jF} {l N:Nat} {fr:FrY} {J:Nat->World->(Nat->Prop)->(Nat->Prop)->Prop} {JX:World->(Nat->Prop)->(Nat->Prop)->Prop} {JP:List PanicEntry->World->(Nat->Prop)->(Nat->Prop)->Prop}
def LY(fr:FrY)(J:Nat->World->(Nat->Prop)->(Nat->Prop)->Prop)(JX:World->(Nat->Prop)->(Nat->Prop)->Prop)(y:Y)(w:World)(D:Nat->Prop): Prop:=(y.on=true->J y.k w D fr.V)/\(y.on=false->JX w D fr.V)
structure OkY (c:Cfg) (N:Nat) (fr:FrY) (S:Base):Prop where
 P:S.P=c.P
 G:S.G=c.G
 N:S.N=N
 O:∀b,¬S.O b
 sv:S.sv=fr.sv
 rd:S.rd=fr.ro
 nod:S.nod=true
 gd:S.gd=[]
 kept:Kept fr S.w0
 lt:∀b,fr.Dv b\/fr.V b->b<S.w0.heap.size
 dv:∀b,fr.Dv b->S.D0 b
 nv:∀b,fr.V b->¬S.D0 b
def aCM(c:Cfg)(N:Nat)(fr:FrY)(J:Nat->World->(Nat->Prop)->(Nat->Prop)->Prop)(JX:World->(Nat->Prop)->(Nat->Prop)->Prop)(y:Y)(a:Act)(w:World): Prop:=
 ∃S,OkY c N fr S/\LY fr J JX y S.w0 S.D0/\Sim S y.s.sig a w
structure VZ (c:Cfg) (it:jF) (l N:Nat) (fr:FrY) (J:Nat->World->(Nat->Prop)->(Nat->Prop)->Prop) (JX:World->(Nat->Prop)->(Nat->Prop)->Prop) (JP:List PanicEntry->World->(Nat->Prop)->(Nat->Prop)->Prop):Prop where
 K:ai c.P c.G c.K
 I:bf c.P c.G c.KI
 KP:bJ c.P c.G c.KP
 m:c.P.follows .mixedOrders=true
 rng:fr.ro=none->c.rng=false
 rs:fr.ro≠none->N<=fr.sv.length
 j1:∀k w1 w2 D1 V,J k w1 D1 V->Below w1.heap.size w1 w2->∀X:Nat->Prop,J k w2 (λb=>D1 b\/(iH w1 w2 b/\¬X b)) (λb=>V b\/(iH w1 w2 b/\X b))
 j2:∀k w1 (D1 D2 V V2:Nat->Prop),J k w1 D1 V->(∀b,D2 b->D1 b)->(∀b,V2 b->V b)->J k w1 D2 V2
 x1:∀w1 w2 D1 V,JX w1 D1 V->Below w1.heap.size w1 w2->∀X:Nat->Prop,JX w2 (λb=>D1 b\/(iH w1 w2 b/\¬X b)) (λb=>V b\/(iH w1 w2 b/\X b))
 x2:∀w1 (D1 D2 V V2:Nat->Prop),JX w1 D1 V->(∀b,D2 b->D1 b)->(∀b,V2 b->V b)->JX w1 D2 V2
 yld:∀k y W D1 V vs,it.L[k]?=some y->J k W D1 V->(∀b,D1 b->b<W.heap.size)->AV.relL c.P ⟨W,D1,noM,noE⟩ (Kv it.t y) vs->YieldAt Fence.wide 0 c.P l vs.toArray W λe W' =>
   W.heap.size<=W'.heap.size/\(∀b,D1 b\/V b->W'.heap[b]?=W.heap[b]?)/\((e=.returned (.bool true)/\J (k+1) W' D1 V)\/(e=.returned (.bool false)/\JX W' D1 V)\/∃ch,e=.panicked ch/\JP ch W' D1 V)
def OkY.okS {S:Base} (h:OkY c N fr S) (H:VZ c it l N fr J JX JP):OkS c S:=
 ⟨h.P.symm,h.G.symm,by rw[h.P,h.G];exact H.K,by rw[h.P,h.G];exact H.I,by rw[h.P];exact H.m,λe=>by rw[h.sv,h.N];exact H.rs (by rw[<- h.rd];exact e),λe=>by rw[h.nod,H.rng (by rw[<- h.rd];exact e)];rfl,by rw[h.P,h.G];exact H.KP⟩
def OkY.F {S:Base} (h:OkY c N fr S):S.F=Fr fr.ro:=by
 unfold Base.F;rw[h.rd];cases fr.ro<;>rfl
def OkY.now {S:Base} (h:OkY c N fr S) {σ:Sig} {a:Act} {w:World} {D:Nat->Prop} {E:Nat->Ent} (hd:aP S σ a w D E):(∀b,fr.Dv b\/fr.V b->b<w.heap.size/\w.heap[b]?=fr.W.heap[b]?)/\(∀b,fr.Dv b->D b)/\(∀b,fr.V b->¬D b)/\fr.W.heap.size<=w.heap.size:=by
 refine⟨λb hb=>⟨qX (h.lt b hb) hd.low.size,(hd.low.block b (h.lt b hb) (h.O b)).trans (h.kept.2 b hb)⟩,λb hb=>hd.dlo b (h.dv b hb),λb hb g=>?_,wH h.kept.1 hd.low.size⟩;rcases hd.dhi b g with g | g | g
 .exact h.nv b hb g
 .have:=h.lt b (.inr hb);omega
 .exact h.O b g
def OkY.next {S:Base} (h:OkY c N fr S) {σ:Sig} {a:Act} {w w':World} {D:Nat->Prop} {E:Nat->Ent} (hd:aP S σ a w D E) (i:w.heap.size<=w'.heap.size) (r:∀b,D b\/fr.V b->w'.heap[b]?=w.heap[b]?):OkY c N fr {S with w0:=w',D0:=D,O:=λ_=>False}:=by
 obtain⟨f,e,j,n4⟩:=h.now hd;exact⟨h.P,h.G,h.N,λ_ g=>g,h.sv,h.rd,h.nod,h.gd,⟨wH n4 i,λb hb=>(r b (hb.imp (e b) id)).trans (f b hb).2⟩,λb hb=>qX (f b hb).1 i,e,j⟩
def LY.now {S:Base} (i:OkY c N fr S) (H:VZ c it l N fr J JX JP) {y:Y} (f:LY fr J JX y S.w0 S.D0) {σ:Sig} {a:Act} {w:World} {D:Nat->Prop} {E:Nat->Ent} (h:aP S σ a w D E):LY fr J JX y w D:=by
 have hb:Below S.w0.heap.size S.w0 w:=⟨h.low.os,h.low.tape,h.low.output,h.low.size,λk r=>h.low.block k r (i.O k)⟩;have j:∀b,D b->S.D0 b\/(iH S.w0 w b/\¬noV b):=λb hb=>by
  rcases h.dhi b hb with g | g | g
  .exact .inl g
  .exact .inr ⟨⟨g,h.dlt b hb⟩,id⟩
  .exact(i.O b g).elim
 exact⟨λe=>H.j2 _ _ _ _ _ _ (H.j1 _ _ _ _ _ (f.1 e) hb noV) j λ_=>.inl,λe=>H.x2 _ _ _ _ _ (H.x1 _ _ _ _ (f.2 e) hb noV) j λ_=>.inl⟩
def aP.behindYield {S:Base} {s:St} {a:Act} {w w':World} {D:Nat->Prop} {E:Nat->Ent} (h:aP S s.sig a w D E) (hm:s.mem=[]) (v:w.heap.size<=w'.heap.size) (x:∀b,D b->w'.heap[b]?=w.heap[b]?) (r:S.nod=true) (f:S.gd=[]):
  aP {S with w0:=w',D0:=D,O:=λ_=>False} s.sig a w' D E:=by
 have em:s.sig.m=λ_=>none:=by
  funext k
  show s.mem.lookup k=none;rw[hm];rfl
 have L:Later ⟨w,D,s.sig.m,E⟩ ⟨w',D,s.sig.m,E⟩:=⟨λ_ g=>g,x⟩;have e:∀k,oH ⟨w,D,s.sig.m,E⟩ ⟨w',D,s.sig.m,E⟩ k:=λk u j=>⟨u,j,rfl,qJ _,λ_=>rfl⟩
 have none:∀e b,s.sig.m e=some b->False:=λe b hb=>by rw[em]at hb;cases hb
 refine⟨h.sz,⟨⟨λ_=>h.df.1.1 r,h.df.1.2⟩,λd hd=>?_⟩,λt=>AV.rel_mono L (λk _=>e k) (h.tm t),λk b hb=>(none k b hb).elim,λk b hb=>(none k b hb).elim,λk k' b u hb=>(none k b hb).elim,Chg.refl _ _,
  λb hb=>qX (h.dlt b hb) v,λ_ g=>g,λ_ g=>.inl g,h.gl.mono L,AV.relL_mono L (λk _=>e k) h.svr,fN.nil λk i b g=>by obtain⟨_,_,_,_,_,_,g1,_⟩:=g;exact none k _ g1⟩
 rw[h.df.1.1 r,f]at hd;cases hd
def Ge(H:VZ c it l N fr J JX JP){y:Y}{S:Base}(X:OkY c N fr S)(hg:LY fr J JX y S.w0 S.D0){a:Act}{w:World}{D:Nat->Prop}{E:Nat->Ent}(hd:aP S y.s.sig a w D E)(hmem:y.s.mem=[]){o:Oper}{l':Nat}{ns:List Prop}{v:List AV}
  (hy:yieldOf c.G y.s.sig.T true o.op=some (l',ns,v)) {x:it.t.den} (hx:asY it.t v=some x) (z:∀q∈ns,q) (hll:l'=l) (hon:y.on=true) (hat:m4 it.L y.k x) {K:Act->World->Prop} {R:Exit->Act->World->Prop}
  (hP:∀ch a w D,a.defers=[]->JP ch w D fr.V->Kept fr w->R (.panic ch) a w)
  (hK:∀(b:Bool) (w':World) (s':St),LY fr J JX ⟨s',y.k+1,b⟩ w' D->OkY c N fr {S with w0:=w',D0:=D,O:=λ_=>False}->aP {S with w0:=w',D0:=D,O:=λ_=>False} y.s.sig a w' D E->K (a.put o.dst (.bool b)) w'):o.wpIn (Fr fr.ro) 0 c.P a w K R:=by
 obtain⟨f,args,at_,n1,n2,hop,hf,rfl,hav⟩:=uV hy;rw[hll]at hf;have hfv:=fj hd f;rw[X.G]at hfv;have hfv2:=od (g:=true) rfl (λq j=>z q (qI.2 (.inl (by rw[hf]at j;exact j)))) hfv;rw[hf]at hfv2;have hfv3:a.eval f=.func (.yield l) #[] #[]:=hfv2;have one:∀(av:Operand) (v:AV) (m:List Prop),ug true (evT c.G y.s.sig.T av)=(v,m)->(∀q∈m,q)->v.rel S.P ⟨w,D,y.s.sig.m,E⟩ (a.eval av):=λav v m e hm=>by
  have h1:=fj hd av;rw[X.G]at h1;have h2:=od (g:=true) rfl (λq j=>by rw[e]at j;exact hm q j) h1;rw[e]at h2;exact h2
 have A:AV.relL S.P ⟨w,D,y.s.sig.m,E⟩ (Kv it.t x) (args.toList.map a.eval):=by
  refine Vy hx ?_;rcases hav with⟨b,v1,i,e,rfl⟩ | ⟨b1,b2,v1,v2,m1,m2,i,e1,e2,rfl,rfl⟩
  .rw[i];exact⟨_,_,rfl,one b v1 n2 e λq j=>z q (qI.2 (.inr j)),rfl⟩
  .rw[i];exact⟨_,_,rfl,one b1 v1 m1 e1 λq j=>z q (qI.2 (.inr (qI.2 (.inl j)))),_,_,rfl,one b2 v2 m2 e2 λq j=>z q (qI.2 (.inr (qI.2 (.inr j)))),rfl⟩
 have hgn:=hg.now X H hd;have hcell:AV.relL c.P ⟨w,D,noM,noE⟩ (Kv it.t x) (args.toList.map a.eval):=by rw[<- X.P];exact mS (Bc _ _) (λ_ g=>g) (λ_ _=>rfl) A
 have hyl:=H.yld y.k x w D fr.V (args.toList.map a.eval) hat (hgn.1 hon) hd.dlt hcell;obtain⟨fn,tmps,assign,body,hrun,u⟩:=hyl;unfold Oper.wpIn;refine⟨λf _=>aCX _ f,?_⟩;have nodef:∀d,o.op≠.defer d:=λd e=>by rw[hop]at e;cases e
 rw[Oper.semAt_eq _ _ _ nodef];have hexec:(execOp a.eval o).run c.P w=.ok (.round l fn tmps assign body) w:=by
  obtain⟨dst,op,ty,pos,after,guard⟩:=o;simp only at hop;subst hop;have e1:args.map a.eval=(args.toList.map a.eval).toArray:=by
   apply yQ;rw[qBt]
  simp only[execOp,resolve,e1,hfv3,Deferred.ofValue,wQ,yK,vX,invoke,gX];simpa using hrun
 rw[hexec,Oper.uponIn_round];refine⟨λh=>(by rw[OT]at h;cases h),?_⟩;refine RoundIn.mono (aBF u) ?_;rintro e w' ⟨hsz,r,hres⟩;have hb:=hd.behindYield hmem hsz (λb hb=>r b (.inl hb)) X.nod X.gd;have hnx:=X.next hd hsz r
 rcases hres with⟨rfl,hj⟩ | ⟨rfl,hj⟩ | ⟨ch,rfl,hj⟩
 .exact hK true w' y.s ⟨λ_=>hj,λe=>(by cases e)⟩ hnx hb
 .exact hK false w' y.s ⟨λe=>(by cases e),λ_=>hj⟩ hnx hb
 .exact hP ch a w' D ((hd.df.1.1 X.nod).trans X.gd) hj hnx.kept
def DL(H:VZ c it l N fr J JX JP){ops:Array Oper}{Q:Y->Prop}{R:Exit->Act->World->Prop}(hR:∀y',Q y'->y'.s.tm.length=N->∀a w,aCM c N fr J JX y' a w->R .normal a w)(hP:∀ch a w D,a.defers=[]->JP ch w D fr.V->Kept fr w->R (.panic ch) a w):
  ∀(os:List Oper) (j:Nat) (y:Y),(∀i o,os[i]?=some o->ops[j+i]?=some o)->aBj c it l ops os y Q->y.s.tm.length=N->∀a w,aCM c N fr J JX y a w->wpOpsIn (Fr fr.ro) 0 c.P ops R (List.range' j os.length) a w
 | [],j,y,_,h,hl,a,w,hs=>by
  simp only[xI,qCg,wpOpsIn];simp only[aBj]at h;exact hR y h hl a w hs
 | o::os,j,y,X,h,hl,a,w,hs=>by
  have ho:ops[j]?=some o:=by simpa using X 0 o rfl
  have hos:∀i o',os[i]?=some o'->ops[j+1+i]?=some o':=λi o' hi=>by
   have:=X (i+1) o' (by simpa using hi);rw[show j+1+i=j+(i+1) by omega];exact this
  obtain⟨S,T,hg,D,E,hd⟩:=hs;have hlS:y.s.tm.length=S.N:=hl.trans T.N.symm;simp only[aBj]at h;split at h
  case h_2=>exact h.elim
  rename_i g hge;have hwant:=FB (o:=o) hd hge;rw[wS,qBn,wpOpsIn_cons];split at h
  ·
   rename_i l' ns v hy;split at h
   case isFalse=>exact h.elim
   rename_i hc;obtain⟨z,L⟩:=hc;have L:y.s.mem=[]:=wY.1 L;split at h
   case h_2=>exact h.elim
   rename_i x hx;unfold wpOpIn;rw[ho];simp only;rw[hwant];cases g with
   | false=>
    simp only[wE,xO];refine⟨λf _=>aCX _ f,DL H hR hP os (j+1) _ hos (h.2 rfl) (by simp[setSlot];split<;>simp[hl]) _ _ ⟨S,T,hg,D,E,?_⟩⟩;exact hd.slot hlS z ⟨λe=>(by cases e),λ_=>rfl⟩
   | true=>
    simp only[kR];obtain⟨hns,hll,hon,hat,u⟩:=bR (h.1 rfl);refine Ge H T hg hd L hy hx hns hll hon hat hP λb w' _ hgh hnx hb=>?_
    exact DL H hR hP os (j+1) _ hos (u b) (by simp[setSlot];split<;>simp[hl]) _ _ ⟨{S with w0:=w',D0:=D,O:=λ_=>False},hnx,hgh,D,E,hb.slot hlS z rfl⟩
  ·
   split at h
   case h_2=>exact h.elim
   rename_i r A;split at h
   case isFalse=>exact h.elim
   rename_i hok;obtain⟨hns,u⟩:=bR h;have z:∀d,o.dst=some d->d<S.N:=by
    intro d hdd;have e:r.dst=o.dst:=by
     unfold iJ at A;split at A
     .split at A
      .unfold KG at A;split at A
       .cases A;rfl
       .split at A
        .cases A;rfl
        .cases A
      .cases A
     .cases A
    have h2:=hok.1;unfold iu at h2;simp only[qC]at h2;have:=h2.1;rw[e,hdd]at this;rw[<- hlS];simpa using this
   have hK:ai S.P S.G c.K:=(T.okS H).K;have hr':iJ S.P S.G c.K (c.mt o) ops y.s.nx y.s.sig o=some r:=by rw[T.P,T.G];exact A
   have:=pC (Q:=R) hK ho ⟨D,E,hd⟩ z hr' hns (λk hk=>by
    have:=hok.2;unfold HT at this;rw[hk]at this;exact Me this)
   rw[T.F,T.P]at this;refine wpOpIn_mono (λa' w' h'=>DL H hR hP os (j+1) _ hos u (by rw[jC];exact hl) a' w' ⟨S,T,hg,?_⟩) this;show Sim S (cV r y.s).sig a' w';rw[iw hok.1];exact h'
def ve(rs b:List Rec)(s:St){j:Nat}(h:j<=rs.length): gu (rs++b) s j=gu rs s j:=by
 unfold gu;rw[xC h]
def uh(s:St): cV dflt s=s:=rfl
def GN(s:St): ∀n,gu (List.replicate n dflt) s n=s
 | 0=>rfl
 | n+1=>by
  have h:=mG (List.replicate (n+1) dflt) s n dflt (by simp);rw[h,uh];have e:List.replicate (n+1) dflt=List.replicate n dflt++[dflt]:=by rw[List.replicate_succ']
  rw[e,ve _ _ _ (by simp)];exact GN s n
def GQ(n:Nat)(rs:List Rec)(s:St)(j:Nat): gu (List.replicate n dflt++rs) s (n+j)=gu rs s j:=by
 have b:=GN s n;unfold gu at b ⊢;rw[qDg,qAe];simp only[wO,Nat.add_sub_cancel_left];rw[qN (by simp)];rw[qN (by simp)]at b;rw[b]
def Ha{rs:List Rec}{d d':Nat->Bool}{σ:Sig}{n:Nat}(h:∀i,i<n->d i=d' i\/rs[i]?=some dflt): fR (cj rs) d n σ=fR (cj rs) d' n σ:=by
 induction n with
 | zero=>rfl
 | succ n b=>
  have b:=b λi hi=>h i Z
  simp only[fR];rw[b];rcases h n Z with e | e
  .rw[e]
  .have:∀σ,cj rs n σ=σ:=λσ=>by
    unfold cj;rw[e];show(⟨upT σ.T none .top,upM σ.m [],σ.sv⟩:Sig)=σ;have g:upT σ.T none .top=σ.T:=by funext t;simp[upT]
    have f:upM σ.m []=σ.m:=by funext t;simp[upM]
    rw[g,f]
   split<;>split<;>simp[this]
def YE(H:VZ c it l N fr J JX JP){ops:Array Oper}{Q:Y->Prop}{R:Exit->Act->World->Prop}(hR:∀y',Q y'->y'.s.tm.length=N->∀a w,aCM c N fr J JX y' a w->R .normal a w)(hP:∀ch a w D,a.defers=[]->JP ch w D fr.V->Kept fr w->R (.panic ch) a w)
  {y:Y} (h:aCq c it l ops y Q) (hl:y.s.tm.length=N) {a:Act} {w:World} (hs:aCM c N fr J JX y a w) {id:Nat}:(Code.region id ops true).wpIn (Fr fr.ro) 0 c.P R a w:=by
 unfold aCq at h;split at h
 case h_2=>exact h.elim
 rename_i o rs ho hrs;obtain⟨q,hq⟩:∃q,q=ops.toList.findIdx cQ:=⟨_,rfl⟩;obtain⟨tbl,htbl⟩:∃tbl,tbl=jD [] ops.toList:=⟨_,rfl⟩;rw[<- hq]at ho hrs;rw[<- hq,<- htbl]at h;split at h
 case isFalse=>exact h.elim
 rename_i hc;obtain⟨n1,n2,n3,n4,n5,n6⟩:=hc;split at h
 case h_2=>exact h.elim
 rename_i l' ns v hy;split at h
 case h_2=>exact h.elim
 rename_i x hx;obtain⟨hrn,h⟩:=bR h;obtain⟨hns,hll,hon,hat,hcont⟩:=bR h;have X:q<ops.size:=(vT.1 ho).1;have hqs':q<ops.toList.length:=by simpa using X
 have hgd:o.guard=none:=by simpa using n2
 have nk:∀j,j<ops.size->(j<q->(tbl.getD q 0).testBit j=true)/\(q<j->(tbl.getD j 0).testBit q=true):=λj T=>by
  unfold aIE at n1;rw[qO]at n1;have:=n1 j (by simpa using T);refine⟨λg=>?_,λg=>?_⟩
  .rw[if_pos g]at this;exact this
  .rw[if_neg Z]at this;simp only[yF,kK]at this;rcases this with e | e
   .omega
   .exact e
 obtain⟨S,hS,hg,D,E,hd⟩:=hs;have hlS:y.s.tm.length=S.N:=hl.trans hS.N.symm;have HO:=hS.okS H;obtain⟨hlen,hatr⟩:=vq hrs;have hlen:rs.length=q:=by rw[hlen,qL];omega
 obtain⟨rsA,hA⟩:∃rsA,rsA=rs++List.replicate (ops.size-q) dflt:=⟨_,rfl⟩;rw[<- hA]at n5 n6;have lenA:rsA.length=ops.size:=by rw[hA,qF,wO,hlen];omega
 have Ht:∀(j:Nat) o r,ops[j]?=some o->j<q->rsA[j]?=some r->rs[j]?=some r/\iJ S.P S.G c.K (aC6 c.mb o) ops (gu rsA y.s j).nx (gu rsA y.s j).sig o=some r/\iu r y.s.tm.length=true:=λj o r ho T z=>by
  have hr':rs[j]?=some r:=by rw[hA,vS Z]at z;exact z
  have h2:=hatr j o r (by rw[vV,if_pos T];simpa using ho) hr';rw[HO.P,HO.G]at h2;rw[hA,ve _ _ _ Z];exact⟨hr',h2⟩
 have okA:∀(j:Nat) (r:Rec),rsA[j]?=some r->iu r y.s.tm.length=true:=λj r z=>by
  have T:j<ops.size:=by rw[<- lenA];exact(qG.1 z).1
  rcases zO j q with g | g
  .exact(Ht j _ r (zW T) g z).2.2
  .rw[hA,vH Z,wV]at z;split at z
   .cases z;rfl
   .cases z
 have dstOf:∀{r:Rec} {o:Oper} {nx:Nat} {σ:Sig} {mt:Bool},iJ S.P S.G c.K mt ops nx σ o=some r->iu r y.s.tm.length=true->∀d,o.dst=some d->d<S.N:=λ{r o nx σ mt} h1 h2 d hd=>by
  unfold iu at h2;simp only[qC]at h2;have h3:=h2.1;rw[(kA h1).1,hd]at h3;rw[<- hlS];simpa using h3
 rw[<- hS.F,<- hS.P];refine wpIn_region_any HO.m ?_;have hsA:Sim S y.s.sig a {w with drawn:=w.drawn+1}:=Sim.draw ⟨D,E,hd⟩;refine FG (mb:=c.mb) (rs:=rsA) (k:=0) (q:=q) HO.K lenA hlS (λj o r ho z hlv=>?_) okA n5 n6 (λh=>absurd X Z) (λ_ n listed a1 w1 hsz hqf hcnt hanc hdesc hrok hsim=>?_)
  ops.size (Array.replicate ops.size false) a _ (by simp) (wH (zQ _ _) (by simp)) (λi hi=>Z) (λ_=>?_) (λi j hij T hb hl=>?_) ?_
 .have T:j<ops.size:=(vT.1 ho).1;have hjq:j<q:=by
   rcases qCy j q with g | g | g
   .exact g
   .exact(hlv.2.1 g).elim
   .have:=(nk j T).2 g;rw[hlv.2.2]at this;cases this
  obtain⟨g0,g1,g2⟩:=Ht j o r ho hjq z;exact⟨g1,dstOf g1 g2,λp hp=>hrn p (xB.2 ⟨r,zV g0,hp⟩)⟩
 ·
  obtain⟨s1,hs1⟩:∃s1,s1=gu rs y.s q:=⟨_,rfl⟩;rw[<- hs1]at n4 hy hcont;have e1:fR (cj rsA) (λi=>listed.getD i false) ops.size y.s.sig=s1.sig:=by
   have e2:fR (cj rsA) (λi=>listed.getD i false) ops.size y.s.sig=fR (cj rsA) VH ops.size y.s.sig:=Ha λi hi=>by
    rcases zO i q with g | g
    .exact .inl (hanc i ((nk i hi).1 g))
    .exact .inr (by rw[hA,vH Z,wV,if_pos Z])
   rw[e2,nB okA ops.size (by rw[lenA];exact qJ _),hs1];have e3:gu rsA y.s ops.size=gu rs y.s q:=by
    have:∀m,q+m<=ops.size->gu rsA y.s (q+m)=gu rs y.s q:=by
     intro m;induction m with
     | zero=>intro _;rw[hA];exact ve _ _ _ Z
     | succ m ih=>
      intro hm;have z:rsA[q+m]?=some dflt:=by rw[hA,vH Z,wV,if_pos Z]
      rw[show q+(m+1)=(q+m)+1 by omega,mG _ _ _ _ z,uh];exact ih Z
    have:=this (ops.size-q) Z
    rwa [show q+(ops.size-q)=ops.size by omega]at this
   rw[e3]
  rw[e1]at hsim;obtain⟨D1,E1,hd1⟩:=(show Sim _ _ _ _ from hsim);have l1:s1.tm.length=S.N:=by rw[hs1,lJ];exact hlS
  unfold wpOpIn;rw[ho];simp only;rw[show Region.wanted o (yielded ops a1.tmps)=true by unfold Region.wanted;rw[hgd]];simp only[kR];rw[hS.F,hS.P];refine Ge (y:=⟨s1,y.k,y.on⟩) H hS hg hd1 (wY.1 n4) hy hx hns hll hon hat hP λb w' _ hgh hnx hb=>?_
  have hc2:=hcont b;split at hc2
  case h_2=>exact hc2.elim
  rename_i u hrs2;split at hc2
  case isFalse=>exact hc2.elim
  rename_i hk2;obtain⟨m1,m2⟩:=hk2;obtain⟨g1,g2⟩:=bR hc2;obtain⟨A,hs2⟩:∃A,A=setSlot o.dst (.dat .bool b) s1:=⟨_,rfl⟩;rw[<- hs2]at hrs2 m1 g2;obtain⟨f,hB⟩:∃f,f=List.replicate (q+1) dflt++u:=⟨_,rfl⟩;rw[<- hB]at m1 m2;obtain⟨S2,hS2⟩:∃S2:Base,S2={S with w0:=w',D0:=D1,O:=λ_=>False}:=⟨_,rfl⟩;have hO2:OkY c N fr S2:=by rw[hS2];exact hnx
  have HO2:=hO2.okS H;have l2:A.tm.length=S2.N:=by rw[hs2,hS2];simp[setSlot];split<;>simp[l1]
  have hd2:aP S2 A.sig (a1.put o.dst (.bool b)) w' D1 E1:=by
   rw[hs2,hS2];have n3':oW o.dst s1.tm.length=true:=by rw[l1,<- hlS];exact n3
   exact hb.slot (show s1.tm.length=S.N from l1) n3' rfl
  obtain⟨L,hatr2⟩:=vq hrs2;have L:u.length=ops.size-(q+1):=by rw[L,wJ];simp
  have lenB:f.length=ops.size:=by rw[hB,qF,wO,L];omega
  have recB:∀(j:Nat) o r,ops[j]?=some o->q<j->f[j]?=some r->u[j-(q+1)]?=some r/\iJ S2.P S2.G c.K (aC6 c.mb o) ops (gu f A j).nx (gu f A j).sig o=some r/\iu r A.tm.length=true:=λj o r ho T z=>by
   have hr':u[j-(q+1)]?=some r:=by rw[hB,vH (by simp;omega)]at z;simpa using z
   have h2:=hatr2 (j-(q+1)) o r (by rw[vJ,show q+1+(j-(q+1))=j by omega];simpa using ho) hr';rw[HO2.P,HO2.G]at h2;have e5:gu f A j=gu u A (j-(q+1)):=by
    have:=GQ (q+1) u A (j-(q+1));rw[show q+1+(j-(q+1))=j by omega]at this;rw[hB];exact this
   rw[e5];exact⟨hr',h2⟩
  have okB:∀(j:Nat) (r:Rec),f[j]?=some r->iu r A.tm.length=true:=λj r z=>by
   have T:j<ops.size:=by rw[<- lenB];exact(qG.1 z).1
   rcases zO q j with g | g
   .exact(recB j _ r (zW T) g z).2.2
   .rw[hB,vS (by simp;omega),wV]at z;split at z
    .cases z;rfl
    .cases z
  have eset:∀i,(listed.setIfInBounds q true).getD i false=if i=q then true else listed.getD i false:=by
   intro i;simp only[qQ,zS];by_cases e:q=i
   .subst e;simp[hsz,X]
   .rw[if_neg e,if_neg (λh=>e h.symm)]
  have lst:∀i,i<ops.size->(listed.setIfInBounds q true).getD i false=decide (i<=q):=λi hi=>by
   rw[eset];rcases qCy i q with g | g | g
   .rw[if_neg Z,hanc i ((nk i hi).1 g)];simp;omega
   .rw[if_pos g];simp;omega
   .rw[if_neg Z,hdesc i ((nk i hi).2 g) hi];simp;omega
  rw[<- hO2.F,<- hO2.P];refine FG (mb:=c.mb) (rs:=f) (k:=q+1) (q:=ops.size) HO2.K lenB l2 (λj o r ho z hlv=>?_) okB m1 m2 (λ_ a3 w3 h3=>?_) (λh=>absurd h Z)
   n (listed.setIfInBounds q true) _ _ (by simpa using hsz) ?_ (λi hi hil=>?_) (λh=>absurd h Z) (λi j hij T hb hl=>?_) ?_
  .obtain⟨q0,q1,q2⟩:=recB j o r ho (by have:=hlv.1;omega) z;refine⟨q1,λd hd=>?_,λp hp=>g1 p (xB.2 ⟨r,zV q0,hp⟩)⟩;unfold iu at q2;simp only[qC]at q2;have h3:=q2.1;rw[(kA q1).1,hd]at h3;rw[<- l2];simpa using h3
  .refine hR _ g2 ?_ a3 w3 ⟨S2,hO2,?_,?_⟩
   .rw[show(Y.mk (gu u A u.length) (y.k+1) b).s=gu u A u.length from rfl,lJ];exact l2.trans hO2.N
   .rw[hS2];exact hgh
   .have e6:gu f A f.length=gu u A u.length:=by
     have:=GQ (q+1) u A u.length;rw[hB,qF,wO];exact this
    rw[e6]at h3;exact h3
  .have hun:listed.getD q true=false:=by
    have:listed.getD q true=listed.getD q false:=by simp[Array.getD,hsz,X]
    rw[this];exact hqf
   have:=Md hsz X hun;omega
  .rw[lst i hil];simp;omega
  .rw[lst j T]at hl;rw[lst i Z];simp only[qE]at hl ⊢;omega
  .have e7:fR (cj f) (λi=>(listed.setIfInBounds q true).getD i false) ops.size A.sig=A.sig:=by
    have e8:fR (cj f) (λi=>(listed.setIfInBounds q true).getD i false) ops.size A.sig=fR (cj f) (λ_=>false) ops.size A.sig:=Ha λi hi=>by
     rcases zO q i with g | g
     .refine .inl ?_;rw[lst i hi];simp;omega
     .exact .inr (by rw[hB,vS (by simp;omega),wV,if_pos Z])
    rw[e8];have:∀n,fR (cj f) (λ_=>false) n A.sig=A.sig:=by
     intro n;induction n with
     | zero=>rfl
     | succ n ih=>simp only[fR,wE,xO];exact ih
    exact this _
   rw[e7];exact⟨D1,E1,hd2⟩
 .rw[qQ];simp[X]
 .rw[qQ]at hl;simp[T]at hl
 .have:∀n,fR (cj rsA) (λi=>(Array.replicate ops.size false).getD i false) n y.s.sig=y.s.sig:=by
   intro n;induction n with
   | zero=>rfl
   | succ n ih=>
    have:(Array.replicate ops.size false).getD n false=false:=by
     rw[qQ];cases h:(Array.replicate ops.size false)[n]? with
     | none=>rfl
     | some v=>rw[yU]at h;split at h<;>cases h;rfl
    simp only[fR,this,wE,xO];exact ih
  rw[this];exact hsA
def tY{rg:Array Oper->Bool->Y->(Y->Prop)->Prop}{F:Fence}{X:Y->Act->World->Prop}{PQ:List PanicEntry->Act->World->Prop}
  (HX:∀y a w,X y a w->∃S,OkS c S/\S.F=F/\S.N=N/\Sim S y.s.sig a w/\∀s' L w',Sim S s'.sig L w'->X ⟨s',y.k,y.on⟩ L w')
  (Hr:∀(id:Nat) (ops:Array Oper) (draw:Bool) (y:Y) (Q:Y->Prop) (R:Exit->Act->World->Prop),rg ops draw y Q->y.s.tm.length=N->(∀r,Q r->r.s.tm.length=N->∀a w,X r a w->R .normal a w)->(∀ch a w,PQ ch a w->R (.panic ch) a w)->∀a w,X y a w->(Code.region id ops draw).wpIn F 0 c.P R a w)
  {A:Jv}:∀(x:Code) (y:Y) (Q:Exit->Y->Prop) (R:Exit->Act->World->Prop),evZ c rg A x y Q->y.s.tm.length=N->
  (∀e r,Q e r->r.s.tm.length=N->∀a w,X r a w->R e a w)->(∀ch a w,PQ ch a w->R (.panic ch) a w)->∀a w,X y a w->x.wpIn F 0 c.P R a w
 | .skip,y,Q,R,h,V,u,hP,a,w,v=>by
  unfold evZ at h;exact wpIn_skip (u _ y h V a w v)
 | .region id ops draw,y,Q,R,h,V,u,hP,a,w,v=>by
  have key:∀y1:Y,y1.s.tm.length=N->X y1 a w->(if A.yr id=true then rg ops draw y1 (Q .normal)else aC3 c ops draw y1.s λs'=>Q .normal ⟨s',y1.k,y1.on⟩)->(Code.region id ops draw).wpIn F 0 c.P R a w:=by
   intro y1 hl1 hs1 h1;split at h1
   .exact Hr id ops draw y1 _ R h1 hl1 (λr hq j L w' f=>u .normal r hq j L w' f) hP a w hs1
   .obtain⟨S,HO,hF,hN,O,i⟩:=HX _ _ _ hs1;unfold aC3 at h1;split at h1
    .rename_i ns s' he;obtain⟨g1,g2⟩:=bR h1;have:=ZH (S:=S) HO.P HO.G HO.K HO.m he g1 (hl1.trans hN.symm) O (id:=id) (Q:=R) (λL w' f=>u .normal ⟨s',y1.k,y1.on⟩ g2 ((Td he).trans hl1) L w' (i s' L w' f));rw[hF,<- HO.P]at this;exact this
    .exact h1.elim
  unfold evZ at h;split at h
  .rename_i s1 _;split at h
   .rename_i ms hms;obtain⟨g1,g2⟩:=bR h;obtain⟨S,HO,hF,hN,O,i⟩:=HX _ _ _ v;exact key ⟨s1,y.k,y.on⟩ ((nJ hms).symm.trans V) (i s1 a w (MJ O hms g1)) g2
   .exact h.elim
  .exact key y V v h
 | .seq x z,y,Q,R,h,V,u,hP,a,w,v=>by
  unfold evZ at h;refine wpIn_seq (tY HX Hr x y _ (Exit.then (z.wpIn F 0 c.P R) R) h V (λe r hq j L w' f=>?_) (λch a w h1=>hP ch a w h1) a w v);cases e<;>first
   | exact tY HX Hr z r Q R hq j u hP L w' f
   | exact u _ r hq j L w' f
 | .cond t x z,y,Q,R,h,V,u,hP,a,w,v=>by
  unfold evZ at h;split at h
  case h_2=>exact h.elim
  rename_i ns b hc;obtain⟨g1,g2,g3⟩:=bR h;obtain⟨S,HO,hF,hN,⟨D,E,hs0⟩,i⟩:=HX _ _ _ v;have T:=fj hs0 t;rw[<- HO.G]at T;have hb:a.eval t=.bool b:=by
   unfold YQ at hc;split at hc
   .rename_i b' hv;cases hc;rw[hv]at T;simpa only[AV.rel,ag,vF,vU]using T
   .rename_i g b' hv;cases hc;rw[hv]at T;have hg:g=true:=g1 _ (by simp);simpa only[AV.rel,ag,vF,vU]using T.1 hg
   .cases hc
  exact wpIn_cond_split hb (λe=>tY HX Hr x y Q R (g2 e) V u hP a w v) (λe=>tY HX Hr z y Q R (g3 e) V u hP a w v)
 | .block id x,y,Q,R,h,V,u,hP,a,w,v=>by
  unfold evZ at h;refine wpIn_block (tY HX Hr x y _ (Exit.inBlock id R) h V (λe r hq j L w' f=>?_) (λch a w h1=>hP ch a w h1) a w v);cases e<;>first
   | exact u _ r hq j L w' f
   | (rename_i id'
      simp only[Exit.inBlock];simp only at hq;split at hq
      .rename_i e;rw[if_pos e];exact u _ r hq j L w' f
      .rename_i e;rw[if_neg e];exact u _ r hq j L w' f)
 | .exit id,y,Q,R,h,V,u,hP,a,w,v=>by unfold evZ at h;exact wpIn_exit (u _ y h V a w v)
 | .ret,y,Q,R,h,V,u,hP,a,w,v=>by unfold evZ at h;exact wpIn_ret (u _ y h V a w v)
 | .loop x,y,Q,R,h,V,u,hP,a,w,v=>by
  unfold evZ at h;split at h
  case h_2=>exact h.elim
  split at h
  case h_2=>exact h.elim
  rename_i sp _;obtain⟨⟨x0,i1,i2⟩,h2⟩:=h;have le:∀{y r:Y} {a:Act} {w:World},leY y r->X y a w->X r a w:=by
   rintro y ⟨s',k',on'⟩ a w ⟨l1,l2,l3⟩ hx;obtain⟨S,_,_,_,O,i⟩:=HX _ _ _ hx;have:=i s' a w (EL l1 O);rw[l2,l3]at this;exact this
  refine wpIn_loop_ghost (λn a w=>∃z,sp.inv z/\sp.μ z=n/\(sp.st z).s.tm.length=N/\X (sp.st z) a w) (sp.μ x0) ⟨x0,i1,rfl,(xg i2.1).symm.trans V,le i2 v⟩ ?_;rintro n a w ⟨z,j1,rfl,j2,j3⟩;refine tY HX Hr x (sp.st z) _ (Exit.then (λL w'=>∃n',n'<sp.μ z/\∃z,sp.inv z/\sp.μ z=n'/\(sp.st z).s.tm.length=N/\X (sp.st z) L w') R) (h2 z j1) j2 (λe r hq j L w' f=>?_) (λch a w h1=>hP ch a w h1) a w j3
  cases e<;>first
   | (obtain⟨z',k1,k2,k3⟩:=hq;exact⟨sp.μ z',k3,z',k1,rfl,(xg k2.1).symm.trans j,le k2 f⟩)
   | exact u _ r hq j L w' f
 | .rangeFunc _ _ _ _,_,_,_,h,_,_,_,_,_,_=>by unfold evZ at h;exact h.elim
 | .scope _,_,_,_,h,_,_,_,_,_,_=>by unfold evZ at h;exact h.elim
 | .label _,_,_,_,h,_,_,_,_,_,_=>by unfold evZ at h;exact h.elim
 | .goto _,_,_,_,h,_,_,_,_,_,_=>by unfold evZ at h;exact h.elim
 | .refuse _,_,_,_,h,_,_,_,_,_,_=>by unfold evZ at h;exact h.elim
def Z5(H:VZ c it l N fr J JX JP){A:Jv}(x:Code)(y:Y)(Q:Exit->Y->Prop)(R:Exit->Act->World->Prop)(h:evY c it l A x y Q)(v:y.s.tm.length=N)
  (G:∀e L,Q e L->L.s.tm.length=N->∀a w,aCM c N fr J JX L a w->R e a w) (T:∀f a w D,a.defers=[]->JP f w D fr.V->Kept fr w->R (.panic f) a w) (a:Act) (w:World) (r:aCM c N fr J JX y a w):x.wpIn (Fr fr.ro) 0 c.P R a w:=by
 refine tY (X:=aCM c N fr J JX) (PQ:=λf a w=>a.defers=[]/\∃D,JP f w D fr.V/\Kept fr w) (λy a w ⟨S,z,hg,g⟩=>⟨S,z.okS H,z.F,z.N,g,λs' a' w' O=>⟨S,z,hg,O⟩⟩)
  (λid ops draw y Q R u v G T a w r=>?_) x y Q R h v G (λf a w ⟨h1,D,h2,h3⟩=>T f a w D h1 h2 h3) a w r
 have j:∀f a w D,a.defers=[]->JP f w D fr.V->Kept fr w->R (.panic f) a w:=λf a w D h1 h2 h3=>T f a w ⟨h1,D,h2,h3⟩
 unfold rgY at u;split at u
 .rename_i b;subst b;exact YE H G j u v r
 .rename_i b;have b:draw=false:=by simpa using b
  subst b;refine wpIn_region ?_;have:=DL H (Q:=Q) (R:=R) G j ops.toList 0 y (λi o ho=>by simpa using ho) u v a w r;rw[qBm];simpa using this
end
def rX{c:Cfg}{A:Jv}{f:FuncId}{caps:List AV}{it:jF}(hK:ai c.P c.G c.K)(hI:bf c.P c.G c.KI)(hm:c.P.follows .mixedOrders=true)(h:evI c A f caps it)(hKP:c.KP=λ_ _ _=>none:=by rfl): mA c.P c.G f caps it:=by
 intro hpre l J JX JP w D us hD hG y j1 j2 _ x1 x2 _ _ hyld h0;unfold evI at h;split at h
 case h_2=>exact h.elim
 rename_i fn hf;split at h
 case h_2=>exact h.elim
 rename_i b hb;obtain⟨hres,hnm,hone,hrng,h⟩:=h;have h:=h l hpre;obtain⟨fr,x⟩:∃fr:FrY,fr={ro:=none,sv:=[],V:=noV,Dv:=noV,W:=w}:=⟨_,rfl⟩;have H:VZ c it l ((caps.length+1)+(fn.ntmps-(caps.length+1))) fr J JX JP:=⟨hK,hI,(λf args m r h=>by rw[hKP]at h;cases h),hm,λ_=>hrng,λg=>(by rw[x]at g;exact(g rfl).elim),j1,j2,x1,x2,hyld⟩;have j:caps.length=us.length:=AV.relL_length y
 have hargs:AV.relL c.P ⟨w,D,noM,noE⟩ (.yld l::caps) (.func (.yield l) #[] #[]::us):=⟨_,_,rfl,rfl,y⟩;have earr:#[Value.func (.yield l) #[] #[]]++us.toArray=(Value.func (.yield l) #[] #[]::us).toArray:=by simp
 rw[earr];obtain⟨S,hS⟩:∃S:Base,S={P:=c.P,w0:=w,D0:=D,N:=(caps.length+1)+(fn.ntmps-(caps.length+1)),O:=λ_=>False,G:=c.G,sv:=[],rd:=none,nod:=true}:=⟨_,rfl⟩;refine callsIn_of_wp_marks hf hb trivial ?_
 suffices X:b.wpIn (Fr fr.ro) 0 c.P (bodyPostM Fence.wide 0 c.P fn λe W'=>((∃v,e=.returned v)/\((∃z,J it.L.length W' z noV)\/∃z,JX W' z noV))\/∃ch,e=.panicked ch/\∃z V2,JP ch W' z V2) {tmps:=(Value.func (.yield l) #[] #[]::us).toArray++Array.replicate (fn.ntmps-(Value.func (.yield l) #[] #[]::us).toArray.size) undef,defers:=[]} w by
  rw[x]at X;exact X
 have T:aP S (sD fn l caps).s.sig {tmps:=(Value.func (.yield l) #[] #[]::us).toArray++Array.replicate (fn.ntmps-(Value.func (.yield l) #[] #[]::us).toArray.size) undef,defers:=[]} w D noE:=by
  rw[hS];refine⟨?_,⟨⟨λ_=>rfl,⟨[],rfl⟩,yV⟩,λd hd=>(by cases hd)⟩,λt=>?_,λnm b hm=>(by cases hm),λnm b hm=>(by cases hm),λnm nm' b b' hm=>(by cases hm),Chg.refl _ _,hD,λb hb=>hb,λb hb=>.inl hb,
   hG,rfl,fN.nil λk i b g=>(by obtain⟨_,_,_,_,_,_,g1,_⟩:=g;cases g1)⟩
  .simp[j]
  .show(((.yld l::caps)++List.replicate (fn.ntmps-(caps.length+1)) (AV.val undef)).getD t .top).rel c.P ⟨w,D,noM,noE⟩ _;rw[qA,qQ];by_cases ht:t<(AV.yld l::caps).length
   .rw[vS ht,kU (by simpa[j]using ht)];obtain⟨u,g1,g2⟩:=AV.relL_get hargs (qB ht);rw[qB ht];simp only[kX,g1,qK];exact g2
   .rw[vH Z,kQ (by simp[<- j]at ht ⊢;omega)];rw[wV,yU];split
    .rename_i h1;rw[if_pos (by simp[<- j]at h1 ⊢;omega)];rfl
    .trivial
 refine Z5 (N:=(caps.length+1)+(fn.ntmps-(caps.length+1))) H b (sD fn l caps) (aF2 it) _ h (by simp[sD];omega) (λe y' hq hl a' w' hs'=>?_) (λch a w D hd hj _=>?_) _ w ⟨S,by rw[hS,x];exact⟨rfl,rfl,rfl,λ_ g=>g,rfl,rfl,rfl,rfl,⟨qJ _,λ_ g=>g.elim (λg=>g.elim) λg=>g.elim⟩,λ_ g=>g.elim (λg=>g.elim) λg=>g.elim,λ_ g=>g.elim,λ_ g=>g.elim⟩,⟨λ_=>by rw[hS,x];exact h0,λe=>by cases e⟩,D,noE,T⟩
 have key:(y'.on=true->y'.k=it.L.length)->LeavesInM Fence.wide 0 c.P fn a'.tmps (λe W'=>((∃v,e=.returned v)/\((∃z,J it.L.length W' z noV)\/∃z,JX W' z noV))\/∃ch,e=.panicked ch/\∃z V2,JP ch W' z V2) a'.defers .returning w':=by
  intro hq;obtain⟨S',hS',hg,D',E',hd⟩:=hs';have hdef:a'.defers=[]:=(hd.df.1.1 hS'.nod).trans hS'.gd;rw[hdef];have hgn:=hg.now hS' H hd;have hr:fn.results=#[]:=by
   apply yQ;exact wY.1 hres
  refine⟨.tuple #[],by simp[results,hr],.inl ⟨⟨_,rfl⟩,?_⟩⟩;cases hon:y'.on with
  | true=>exact .inl ⟨D',by have:=hgn.1 hon;rw[x]at this;rw[<- hq hon];exact this⟩
  | false=>exact .inr ⟨D',by have:=hgn.2 hon;rw[x]at this;exact this⟩
 .cases e<;>first
   | exact key hq
   | exact hq.elim
 .show LeavesInM _ _ _ _ _ _ _ _ _;rw[hd];exact .inr ⟨ch,rfl,D,_,hj⟩
end Go.Eng
namespace Go.Eng
open Go.RowKit
structure tF where
 A:Ann
 AY:Jv
 lp:St->Option St
 kf:Nat->Nat
def aHj(c:Cfg)(it:jF)(l:Nat)(A:tF)(g:Operand)(ps:Array Tmp)(as b:Code)(s:St): Prop:=match evT c.G s.sig.T g,ps.toList with
 | .fn gf caps,[p]=>match c.KI gf caps with
  | some it2=>if Yu c.P gf&&(AV.namesL caps).isEmpty&&s.sv.isEmpty&&s.mem.isEmpty&&one1 it2.t&&decide (p<s.tm.length)then
    it2.pre/\A.kf 0=0/\A.kf it2.L.length=it.L.length/\
    (∀j y,m4 it2.L j y->ev c A.A as (vy p it2.t y s) (λe s1=>match e with
     | .normal=>s1.mem.isEmpty=true/\evY c it l A.AY b ⟨s1,A.kf j,true⟩ (λe y2=>match e with
      | .normal=>y2.on=true/\y2.k=A.kf (j+1)
      | .ret=>y2.on=true->y2.k=it.L.length
      | _=>False)
     | _=>False))
   else False
  | none=>False
 | _,_=>False
def XN{P:Program}{C:Ctx}{t:Ty}{x:t.den}{vs:Lv}(h:one1 t=true)(f:AV.relL P C (Kv t x) vs): ∃u,vs=[u]/\ag C.w C.D t x [u]:=by
 cases t with
 | pair a b=>simp[one1,aFY]at h
 | _=>
  obtain⟨u,us,e,g1,g2⟩:=f;cases g2;exact⟨u,e,g1⟩
def evN(c:Cfg)(it:jF)(l:Nat)(A:tF): Code->St->Prop
 | .seq a b,s=>ev c A.A a s (λe s'=>match e with | .normal=>evN c it l A b s' | _=>False)
 | .rangeFunc g ps as b,s=>match A.lp s with
  | some s1=>match VS s s1 with
   | some ms=>all ms (aHj c it l A g ps as b s1)
   | none=>False
  | none=>False
 | .block _ x,s=>evN c it l A x s
 | _,_=>False
def aHO(c:Cfg)(A:tF)(f:FuncId)(caps:List AV)(it:jF): Prop:=match c.P.funcs[f]? with
 | some fn=>match fn.body with
  | some b=>fn.results.toList.isEmpty=true/\(AV.namesL caps).isEmpty=true/\one1 it.t=true/\c.rng=false/\∀l,it.pre->evN c it l A b (sD fn l caps).s
  | none=>False
 | none=>False
def Chg.put {V:Nat->Prop} {w:World} {k:Nat} {o:Obj} (h:V k):Chg V w (w.putObj k o)/\(w.putObj k o).heap.size=w.heap.size:=
 ⟨⟨rfl,rfl,rfl,by simp,λq _ b=>World.putObj_heap_other λe=>b (e▸h)⟩,by simp⟩
variable {JX:World->(Nat->Prop)->(Nat->Prop)->Prop} {JP:List PanicEntry->World->(Nat->Prop)->(Nat->Prop)->Prop} {it:jF} {c:Cfg} {J:Nat->World->(Nat->Prop)->(Nat->Prop)->Prop}
def aBG{l:Nat}{A:tF}
  (H:∀(N:Nat) (fr:FrY),(fr.ro≠none->N<=fr.sv.length)->VZ c it l N fr J JX JP) (hKI:bf c.P c.G c.KI)
  (j3:∀k w1 w2 D1 V,J k w1 D1 V->Chg V w1 w2->w2.heap.size=w1.heap.size->J k w2 D1 V) (x3:∀w1 w2 D1 V,JX w1 D1 V->Chg V w1 w2->w2.heap.size=w1.heap.size->JX w2 D1 V)
  (p3:∀ch w1 w2 D1 V,JP ch w1 D1 V->Chg V w1 w2->w2.heap.size=w1.heap.size->JP ch w2 D1 V)
  {fn:Func} (hres:fn.results=#[]) {S:Base} (HO:OkS c S) (hSO:∀b,¬S.O b) (hSs:S.sv=[]) (hSr:S.rd=none) (hSg:S.gd=[]) (hSn:S.nod=true) {g:Operand} {ps:Array Tmp} {as b:Code} {s:St} (h:aHj c it l A g ps as b s) (hl:s.tm.length=S.N)
  {a:Act} {w:World} {D:Nat->Prop} {E:Nat->Ent} (hd:aP S s.sig a w D E) (hJ0:J 0 S.w0 S.D0 noV):
  At c.P none (.rangeFunc g ps as b) (bodyPostM Fence.wide 0 c.P fn λe W'=>((∃v,e=.returned v)/\((∃D2,J it.L.length W' D2 noV)\/∃D2,JX W' D2 noV))\/∃ch,e=.panicked ch/\∃D2 z,JP ch W' D2 z) a w:=by
 have H0:=H S.N {ro:=none,sv:=[],V:=noV,Dv:=noV,W:=w} (λe=>(e rfl).elim);have hP:S.P=c.P:=HO.P.symm;unfold aHj at h;split at h
 case h_2=>exact h.elim
 rename_i gf caps p hev hps;split at h
 case h_2=>exact h.elim
 rename_i it2 hki;split at h
 case isFalse=>exact h.elim
 rename_i hc;obtain⟨hpre,hk0,hkn,hround⟩:=h;simp only[qC,qE,wY]at hc;obtain⟨⟨⟨⟨⟨hgoes,hnm⟩,hsv⟩,hmem⟩,hone⟩,hp⟩:=hc;simp only[Yu,qC,qE]at hgoes;obtain⟨hgoes,hgf⟩:=hgoes;have hone1:=hone;have hdef:a.defers=[]:=(hd.df.1.1 hSn).trans hSg;have em:s.sig.m=λ_=>none:=by
  funext k
  show s.mem.lookup k=none;rw[hmem];rfl
 have noAll:∀(E:Nat->Ent) b,¬aJ s.sig.m E b:=λE b g=>by
  rw[em]at g;rcases g with⟨_,_,g,_⟩ | ⟨nm,i,g⟩
  .cases g
  .exact lN g
 have hgv:=fj hd g;rw[<- HO.G,hev]at hgv;obtain⟨cs,hga,hcaps⟩:=hgv;rw[hP]at hcaps;refine at_range λfn2 hfn2=>?_
 obtain⟨x,hl2⟩:∃x,x=w.heap.size+1:=⟨_,rfl⟩;obtain⟨rec,hrec⟩:∃rec:LoopState->Option Code->Loop,rec=λst pe=>{state:=st,pending:=pe,fn:=fn2,tmps:=a.tmps,params:=ps,assign:=as,body:=b,defers:=w.heap.size}:=⟨_,rfl⟩
 obtain⟨W1,hW1⟩:∃W1,(w.alloc (.deferred (some []))).alloc (.loop (rec .ready none))=W1:=⟨_,rfl⟩;have hsz1:W1.heap.size=w.heap.size+2:=by rw[<- hW1];simp
 have hL1:W1.heap[x]?=some (.loop (rec .ready none)):=by
  rw[<- hW1,hl2];have:=World.alloc_heap_new (w.alloc (.deferred (some []))) (.loop (rec .ready none));rwa [yE]at this
 have hK1:W1.heap[w.heap.size]?=some (.deferred (some [])):=by
  rw[<- hW1];exact(Below.heap_alloc _ _ _ (by simp)).trans (World.alloc_heap_new w _)
 have hb1:Below w.heap.size w W1:=by
  rw[<- hW1];exact((Below.refl _ w).alloc (qJ _) _).alloc (by simp) _
 refine⟨x,[{target:=.collected w.heap.size,args:=#[]}],W1,{target:=.fn (.func gf) cs.toArray,args:=#[.func (.yield x) #[] #[]]},W1,gf,
  #[.func (.yield x) #[] #[]]++cs.toArray,W1,?_,?_,?_,?_⟩
 .rw[<- hW1,hrec,hl2];exact run_enterLoop_outer _ _ _ _ _
 .simp only[resolve,hga];simp[go_sem]
 .have:=lq (P:=c.P) hgoes W1 (#[.func (.yield x) #[] #[]]++cs.toArray);simp only[invoke];exact this
 have hsz0:a.tmps.size=S.N:=hd.sz;have act0:a={tmps:=a.tmps,defers:=[]}:=by cases a;simp only at hdef;rw[hdef]
 rw[act0]at hd;have grow:∀{S:Base} {a:Act} {W W2:World} {σ:Sig} {D:Nat->Prop} {E:Nat->Ent},aP S σ a W D E->Below W.heap.size W W2->∀X:Nat->Prop,aP S σ a W2 (λb=>D b\/(iH W W2 b/\¬X b)) E:=λ{S a W W2 σ D E} h hb X=>
  h.world (D':=λb=>D b\/(iH W W2 b/\¬X b)) hb (λb=>⟨λg=>g.imp id λg=>⟨g.1,.inr g⟩,λg=>g.elim .inl (·.2)⟩) λb g=>by
   rcases g with g | g
   .exact qX (h.dlt b g) hb.size
   .exact g.1.2
 obtain⟨PV,hPV⟩:∃PV:(Nat->Prop)->Nat->Prop,PV=λz b=>b=w.heap.size\/b=x\/z b:=⟨_,rfl⟩
 obtain⟨Fm,hFm⟩:∃Fm:World->(Nat->Prop)->(Nat->Prop)->(Nat->Prop)->Prop,Fm=λW D r z=>(∀b,r b->D b)/\W.heap[w.heap.size]?=some (.deferred (some []))/\(∀b,z b->x<b/\b<W.heap.size)/\(∀b,PV z b->¬D b)/\x<W.heap.size:=⟨_,rfl⟩
 obtain⟨J2,hJ2⟩:∃J2:Nat->World->(Nat->Prop)->(Nat->Prop)->Prop,J2=λj W r z=>∃(w0:World) (D0 D:Nat->Prop) (E:Nat->Ent),aP {S with w0:=w0,D0:=D0,O:=noV} s.sig {tmps:=a.tmps,defers:=[]} W D E/\Fm W D r z/\
   W.heap[x]?=some (.loop (rec .ready none))/\J (A.kf j) W D (PV z):=⟨_,rfl⟩
 obtain⟨JX2,hJX2⟩:∃JX2:World->(Nat->Prop)->(Nat->Prop)->Prop,JX2=λW r z=>∃(D:Nat->Prop),(∀b,D b->b<W.heap.size)/\Fm W D r z/\
   W.heap[x]?=some (.loop (rec .done (some .ret)))/\(J it.L.length W D (PV z)\/JX W D (PV z)):=⟨_,rfl⟩
 obtain⟨JP2,hJP2⟩:∃JP2:List PanicEntry->World->(Nat->Prop)->(Nat->Prop)->Prop,JP2=λch W _ z=>W.heap[w.heap.size]?=some (.deferred (some []))/\w.heap.size<W.heap.size/\(∀b,z b->x<b)/\∃D0 V0,JP ch W D0 V0/\V0 w.heap.size/\∀b,z b->V0 b:=⟨_,rfl⟩
 have anew:∀{S2:Base} {W W2:World} {D:Nat->Prop} {E:Nat->Ent},S2.P=S.P->S2.G=S.G->S2.N=S.N->S2.sv=[]->S2.rd=none->S2.nod=true->S2.gd=[]->aP S2 s.sig {tmps:=a.tmps,defers:=[]} W D E->W.heap.size<=W2.heap.size->(∀b,D b->W2.heap[b]?=W.heap[b]?)->
   aP {S with w0:=W2,D0:=D,O:=noV} s.sig {tmps:=a.tmps,defers:=[]} W2 D E:=λ{S2 W W2 D E} e1 e2 e3 e4 e5 e6 e7 hh hs hk=>by
  have:=hh.behindYield hmem hs hk e6 e7;have e:({S2 with w0:=W2,D0:=D,O:=λ_=>False}:Base)={S with w0:=W2,D0:=D,O:=noV}:=by
   cases S2;cases S;simp only at e1 e2 e3 e4 e5 e6 e7 hSs hSr hSn hSg;subst e1 e2 e3 e4 e5 e6 e7 hSs hSr hSn hSg;rfl
  rw[<- e];exact this
 have incl:∀{z V3:Nat->Prop},(∀b,z b->V3 b)->∀b,PV z b->PV V3 b:=λ{z V3} h b g=>by
  rw[hPV]at g ⊢;rcases g with g | g | g
  .exact .inl g
  .exact .inr (.inl g)
  .exact .inr (.inr (h b g))
 have pvx:∀{W W2:World} {z X:Nat->Prop} {b:Nat},PV (λb=>z b\/(iH W W2 b/\X b)) b->PV z b\/(iH W W2 b/\X b):=λ{W W2 z X b} g=>by
  rw[hPV]at g ⊢;rcases g with g | g | g | g
  .exact .inl (.inl g)
  .exact .inl (.inr (.inl g))
  .exact .inl (.inr (.inr g))
  .exact .inr g
 have fmBelow:∀{W W2:World} {D r z:Nat->Prop},Fm W D r z->(∀b,D b->b<W.heap.size)->Below W.heap.size W W2->∀X:Nat->Prop,Fm W2 (λb=>D b\/(iH W W2 b/\¬X b)) (λb=>r b\/(iH W W2 b/\¬X b)) (λb=>z b\/(iH W W2 b/\X b)):=λ{W W2 D r z} hf hlt hb X=>by
  rw[hFm]at hf ⊢;obtain⟨f1,f2,f3,f4,f5⟩:=hf;refine⟨λb g=>g.imp (f1 b) id,(hb.block _ Z).trans f2,λb g=>?_,λb g g2=>?_,qX f5 hb.size⟩
  .rcases g with g | g
   .exact⟨(f3 b g).1,qX (f3 b g).2 hb.size⟩
   .exact⟨qX f5 g.1.1,g.1.2⟩
  .rcases pvx g with g | g
   .rcases g2 with g2 | g2
    .exact f4 b g g2
    .have h1:=g2.1.1;rw[hPV]at g;rcases g with g | g | g
     .omega
     .omega
     .have:=(f3 b g).2;omega
   .rcases g2 with g2 | g2
    .have:=hlt b g2;have:=g.1.1;omega
    .exact g2.2 g.2
 have fmSub:∀{W:World} {D r Dit2 z V3:Nat->Prop},Fm W D r z->(∀b,Dit2 b->r b)->(∀b,V3 b->z b)->Fm W D Dit2 V3:=λ{W D r Dit2 z V3} hf h1 h2=>by
  rw[hFm]at hf ⊢;obtain⟨f1,f2,f3,f4,f5⟩:=hf;exact⟨λb g=>f1 b (h1 b g),f2,λb g=>f3 b (h2 b g),λb g=>f4 b (incl h2 b g),f5⟩
 have fmChg:∀{W W2:World} {D r z:Nat->Prop},Fm W D r z->Chg z W W2->W2.heap.size=W.heap.size->Fm W2 D r z/\W2.heap[x]?=W.heap[x]?:=λ{W W2 D r z} hf hc hs=>by
  rw[hFm]at hf ⊢;obtain⟨f1,f2,f3,f4,f5⟩:=hf;exact⟨⟨f1,(hc.block _ Z λg=>(by have:=(f3 _ g).1;omega)).trans f2,λb g=>by rw[hs];exact f3 b g,f4,by rw[hs];exact f5⟩,hc.block _ f5 λg=>(by have:=(f3 _ g).1;omega)⟩
 have chgPV:∀{W W2:World} {z:Nat->Prop},Chg z W W2->Chg (PV z) W W2:=λ{W W2 z} hc=>⟨hc.os,hc.tape,hc.output,hc.size,λk hk hn=>hc.block k hk λg=>hn (by rw[hPV];exact .inr (.inr g))⟩
 have pvF:∀b,PV noV b->b=w.heap.size\/b=x:=λb g=>by
  rw[hPV]at g;rcases g with g | g | g
  .exact .inl g
  .exact .inr g
  .exact g.elim
 have hlow:Below S.w0.heap.size S.w0 W1:=by
  have h1:Below S.w0.heap.size S.w0 w:=⟨hd.low.os,hd.low.tape,hd.low.output,hd.low.size,λk hk=>hd.low.block k hk (hSO k)⟩;exact⟨hb1.os.trans h1.os,hb1.tape.trans h1.tape,hb1.output.trans h1.output,wH h1.size hb1.size,λk hk=>(hb1.block k (qX hk h1.size)).trans (h1.block k hk)⟩
 have hbase:S.w0.heap.size<=w.heap.size:=hd.low.size;have hJ1:J 0 W1 D (PV noV):=by
  refine H0.j2 _ _ _ _ _ _ (H0.j1 _ _ _ _ _ hJ0 hlow (PV noV)) (λb hb=>?_) (λb hb=>.inr ⟨?_,hb⟩)
  .rcases hd.dhi b hb with g | g | g
   .exact .inl g
   .have:=hd.dlt b hb;refine .inr ⟨⟨g,Z⟩,λg2=>?_⟩;rcases pvF b g2 with g2 | g2<;>omega
   .exact(hSO b g).elim
  .rcases pvF b hb with g | g
   .exact⟨Z,Z⟩
   .exact⟨Z,Z⟩
 have hd1:aP {S with w0:=W1,D0:=D,O:=noV} s.sig {tmps:=a.tmps,defers:=[]} W1 D E:=anew rfl rfl rfl hSs hSr hSn hSg hd Z λb hb=>hb1.block b (hd.dlt b hb)
 have hcaps1:AV.relL c.P ⟨W1,D,noM,noE⟩ caps cs:=
  AV.relL_mono (C:=⟨w,D,s.sig.m,E⟩) (C':=⟨W1,D,noM,noE⟩) ⟨λb g=>g,λb g=>hb1.block b (hd.dlt b g)⟩ (λk hk=>by rw[hnm]at hk;cases hk) hcaps
 have hG1:lM c.P ⟨W1,D,noM,noE⟩ c.G:=by
  have:=lM.mono (C:=⟨w,D,s.sig.m,E⟩) (C':=⟨W1,D,noM,noE⟩) ⟨λb g=>g,λb g=>hb1.block b (hd.dlt b g)⟩ hd.gl;rw[hP,<- HO.G]at this;exact this
 refine(hKI.at hgf hki hpre x J2 JX2 JP2 W1 D cs (λb g=>?_) hG1 hcaps1 ?_ ?_ ?_ ?_ ?_ ?_ ?_ ?_ ?_).mono ?_
 .have:=hd.dlt b g;omega
 .subst hJ2;rintro k W W2 r V ⟨w0,D0,D',E',q1,q2,q3,q5⟩ hb X;have hlt:x<W.heap.size:=(vT.1 q3).1;refine⟨w0,D0,_,E',grow q1 hb X,fmBelow q2 q1.dlt hb X,(hb.block _ hlt).trans q3,?_⟩;exact H0.j2 _ _ _ _ _ _ (H0.j1 _ _ _ _ _ q5 hb X) (λb g=>g) λb g=>pvx g
 .subst hJ2;rintro k W r Dit2 V z ⟨w0,D0,D',E',q1,q2,q3,q5⟩ hsub hsubV;exact⟨w0,D0,D',E',q1,fmSub q2 hsub hsubV,q3,H0.j2 _ _ _ _ _ _ q5 (λ_ g=>g) (incl hsubV)⟩
 .subst hJ2;rintro k W W2 r V ⟨w0,D0,D',E',q1,q2,q3,q5⟩ hc hsz;obtain⟨r1,r2⟩:=fmChg q2 hc hsz;have q2':=q2;rw[hFm]at q2';refine⟨W2,D',D',E',anew (S2:={S with w0:=w0,D0:=D0,O:=noV}) rfl rfl rfl hSs hSr hSn hSg q1 Z λb hb=>hc.block b (q1.dlt b hb) λg=>q2'.2.2.2.1 b (by rw[hPV];exact .inr (.inr g)) hb,r1,r2.trans q3,j3 _ _ _ _ _ q5 (chgPV hc) hsz⟩
 .subst hJX2;rintro W W2 r V ⟨D',q1,q2,q3,q4⟩ hb X;have hlt:x<W.heap.size:=(vT.1 q3).1;refine⟨_,λb g=>?_,fmBelow q2 q1 hb X,(hb.block _ hlt).trans q3,?_⟩
  .rcases g with g | g
   .exact qX (q1 b g) hb.size
   .exact g.1.2
  .rcases q4 with q4 | q4
   .exact .inl (H0.j2 _ _ _ _ _ _ (H0.j1 _ _ _ _ _ q4 hb X) (λb g=>g) λb g=>pvx g)
   .exact .inr (H0.x2 _ _ _ _ _ (H0.x1 _ _ _ _ q4 hb X) (λb g=>g) λb g=>pvx g)
 .subst hJX2;rintro W r Dit2 V z ⟨D',q1,q2,q3,q4⟩ hsub hsubV;exact⟨D',q1,fmSub q2 hsub hsubV,q3,q4.imp (λq=>H0.j2 _ _ _ _ _ _ q (λ_ g=>g) (incl hsubV)) λq=>H0.x2 _ _ _ _ _ q (λ_ g=>g) (incl hsubV)⟩
 .subst hJX2;rintro W W2 r V ⟨D',q1,q2,q3,q4⟩ hc hsz;obtain⟨r1,r2⟩:=fmChg q2 hc hsz;exact⟨D',λb g=>by rw[hsz];exact q1 b g,r1,r2.trans q3,q4.imp (λq=>j3 _ _ _ _ _ q (chgPV hc) hsz) λq=>x3 _ _ _ _ q (chgPV hc) hsz⟩
 .subst hJP2;rintro ch W W2 r V ⟨q1,q2,q3,D0,V0,q4,q5,q6⟩ hc hsz;refine⟨(hc.block _ q2 λg=>(by have:=q3 _ g;omega)).trans q1,by rw[hsz];exact q2,q3,D0,V0,p3 _ _ _ _ _ q4 ⟨hc.os,hc.tape,hc.output,hc.size,λk hk hn=>hc.block k hk λg=>hn (q6 k g)⟩ hsz,q5,q6⟩
 ·
  intro k y W r V vs hy hj hltd hu0;obtain⟨u,rfl,hu⟩:=XN hone1 hu0;rw[hJ2]at hj;obtain⟨w0,D0,D',E',q1,q2,q3,q5⟩:=hj;have q2':=q2;rw[hFm]at q2';obtain⟨f1,f2,f3,f4,f5⟩:=q2';have hpsz:ps.size=1:=by have:=yP List.length hps;simpa using this
  have hyl:=run_yield (P:=c.P) (args:=#[u]) q3 (by rw[hrec];simp[hpsz]);rw[hrec]at hyl;have htm:(ps.zip #[u]).foldl (λt (p,v)=>t.setIfInBounds p v) a.tmps=a.tmps.setIfInBounds p u:=by
   have e:ps=#[p]:=by apply yQ;exact hps
   rw[e];simp
  refine⟨fn2,_,as,b,hyl,?_⟩;rw[htm];refine MR hfn2 ?_;have hpN:p<S.N:=by rw[<- hl];exact hp
  have tms:∀t,((vy p it2.t y s).sig.T t).rel S.P ⟨W,D',s.sig.m,E'⟩ ((a.tmps.setIfInBounds p u).getD t undef):=by
   intro t;show((s.tm.set p (.dat it2.t y)).getD t .top).rel S.P _ _;by_cases e:t=p
   .subst e;have h1:(s.tm.set t (.dat it2.t y)).getD t .top=.dat it2.t y:=by
     rw[qA,qCb (by rw[hl];exact hpN)];rfl
    have h2:(a.tmps.setIfInBounds t u).getD t undef=u:=by simp[Array.getD,hsz0,hpN]
    rw[h1,h2];exact aw f1 (λ_ _=>rfl) hu
   .have h1:(s.tm.set p (.dat it2.t y)).getD t .top=s.tm.getD t .top:=by
     simp only[qA];rw[qBq (λh=>e h.symm)]
    have h2:(a.tmps.setIfInBounds p u).getD t undef=a.tmps.getD t undef:=by
     simp only[qQ,zS];rw[if_neg (λh=>e h.symm)]
    rw[h1,h2];exact q1.tm t
  have svs:AV.relL S.P ⟨W,D',s.sig.m,E'⟩ s.tm a.tmps.toList:=by
   refine AV.relL_mk (by rw[hl,vP,hsz0]) λi av v hi hv=>?_
   have:=q1.tm i;have e1:s.sig.T i=av:=by show s.tm.getD i .top=av;rw[qA,hi];rfl
   have e2:a.tmps.getD i undef=v:=by
    rw[qQ];simp only[yM]at hv;rw[hv];rfl
   rw[e1]at this;simpa only[e2]using this
  have hent:=q1.enter x (tm:=(vy p it2.t y s).sig.T) (tmps:=a.tmps.setIfInBounds p u) (by simpa using hsz0) tms svs;obtain⟨Sr,f⟩:∃Sr:Base,Sr={P:=S.P,w0:=W,D0:=D',N:=S.N,O:=aJ s.sig.m E',G:=S.G,sv:=a.tmps.toList,rd:=some x,nod:=true}:=⟨_,rfl⟩;have hent:aP Sr (vy p it2.t y s).sig {tmps:=a.tmps.setIfInBounds p u,defers:=[]} W D' E':=by rw[f];exact hent
  have hSrO:∀b,¬Sr.O b:=λb g=>by rw[f]at g;exact noAll _ _ g
  have hNpos:S.N<=a.tmps.toList.length:=by rw[vP,hsz0];omega
  have HOr:OkS c Sr:=by
   subst f;exact⟨HO.P,HO.G,HO.K,HO.I,HO.m,λ_=>hNpos,λh=>(by cases h),HO.KP⟩
  have hlr:(vy p it2.t y s).tm.length=Sr.N:=by
   subst f;show(s.tm.set p (.dat it2.t y)).length=S.N;rw[yG];exact hl
  have hrr:Sr.rd=some x:=by rw[f]
  have hPr:Sr.P=c.P:=by rw[f];exact hP
  rw[<- hrr,<- hPr];refine lX as Sr _ _ _ HOr (hround k y hy) hlr (λe s1 hq hl1 a1 w1 hs1=>?_) _ W ⟨D',E',hent⟩;cases e<;>first
   | exact hq.elim
   | skip
  obtain⟨hm1,hq⟩:=hq;have hm1:s1.mem=[]:=wY.1 hm1;obtain⟨D3,E3,h3⟩:=hs1;have noAll1:∀b,¬aJ s1.sig.m E3 b:=λb g=>by
   have em1:s1.sig.m=λ_=>none:=by
    funext k
    show s1.mem.lookup k=none;rw[hm1];rfl
   rw[em1]at g;rcases g with⟨_,_,g,_⟩ | ⟨nm,i,g⟩
   .cases g
   .exact lN g
  have same1:∀b,b<W.heap.size->w1.heap[b]?=W.heap[b]?:=λb hb=>by
   have:=h3.low.block b (by rw[f];exact hb) (hSrO b);rw[this,f]
  have szW1:W.heap.size<=w1.heap.size:=by have:=h3.low.size;rw[f]at this;exact this
  have bel1:Below W.heap.size W w1:=⟨by have:=h3.low.os;rw[f]at this;exact this,by have:=h3.low.tape;rw[f]at this;exact this,by have:=h3.low.output;rw[f]at this;exact this,szW1,same1⟩;have hdhi:∀b,D3 b->D' b\/W.heap.size<=b:=λb hb=>by
   have:=h3.dhi b hb;rw[f]at this;rcases this with g | g | g
   .exact .inl g
   .exact .inr g
   .exact(noAll _ _ g).elim
  have hl3:w1.heap[x]?=some (.loop (rec .ready none)):=(same1 _ f5).trans q3;have hlt3:x<w1.heap.size:=qX f5 szW1;have hdef3:a1.defers=[]:=(h3.df.1.1 (by rw[f])).trans (by rw[f]);have hbr:=run_beginRound (P:=c.P) hl3 (by rw[hrec]);rw[hPr];refine⟨_,hbr,?_⟩;have pvLt:∀b,PV V b->b<W.heap.size:=λb g=>by
   rw[hPV]at g;rcases g with g | g | g
   .omega
   .omega
   .exact(f3 b g).2
  have pvl2:PV V x:=by rw[hPV];exact .inr (.inl rfl)
  have pvmk:PV V w.heap.size:=by rw[hPV];exact .inl rfl
  have nl3:¬D3 x:=λg=>by
   rcases hdhi _ g with g | g
   .exact f4 _ pvl2 g
   .omega
  have h4:=h3.again (.loop {rec .ready none with state:=.busy}) (by rw[f]) hdef3 nl3 (noAll1 _);obtain⟨Wb,hWb⟩:∃Wb,Wb=w1.putObj x (.loop {rec .ready none with state:=.busy}):=⟨_,rfl⟩;obtain⟨Sq,hSq⟩:∃Sq:Base,Sq={Sr with w0:=Wb,D0:=D3,O:=aJ s1.sig.m E3}:=⟨_,rfl⟩;rw[show({rec .ready none with state:=.busy}:Loop)={rec .ready none with state:=.busy} from rfl,<- hWb]at h4;rw[<- hSq]at h4;rw[<- hWb]
  have szb:Wb.heap.size=w1.heap.size:=by rw[hWb];simp
  obtain⟨fr,hfr⟩:∃fr:FrY,fr={ro:=some x,sv:=a.tmps.toList,V:=PV V,Dv:=D',W:=Wb}:=⟨_,rfl⟩;have HF:=H S.N fr (λ_=>by rw[hfr];exact hNpos);have hOkq:OkY c S.N fr Sq:=by
   refine⟨by rw[hSq,f];exact hP,by rw[hSq,f];exact HO.G.symm,by rw[hSq,f],λb g=>by rw[hSq]at g;exact noAll1 _ g,by rw[hSq,f,hfr],by rw[hSq,f,hfr],by rw[hSq,f],by rw[hSq,f],?_,λb hb=>?_,λb hb=>?_,λb hb g=>?_⟩
   .rw[hfr,hSq];exact⟨qJ _,λ_ _=>rfl⟩
   .rw[hfr]at hb;rw[hSq];show b<Wb.heap.size;rw[szb];rcases hb with g | g
    .exact qX (q1.dlt b g) szW1
    .exact qX (pvLt b g) szW1
   .rw[hfr]at hb;rw[hSq];exact h3.dlo b (by rw[f];exact hb)
   .rw[hfr]at hb;rw[hSq]at g;rcases hdhi b g with g | g
    .exact f4 b hb g
    .have:=pvLt b hb;omega
  have hgq:LY fr J JX ⟨s1,A.kf k,true⟩ Sq.w0 Sq.D0:=by
   refine⟨λ_=>?_,λe=>by cases e⟩;rw[hfr,hSq];obtain⟨c1,c2⟩:=Chg.put (V:=PV V) (w:=w1) (o:=.loop {rec .ready none with state:=.busy}) pvl2;rw[<- hWb]at c1 c2;refine j3 _ _ _ _ _ (H0.j2 _ _ _ _ _ _ (H0.j1 _ _ _ _ _ q5 bel1 noV) (λb hb=>?_) λb hb=>.inl hb) c1 c2;rcases hdhi b hb with g | g
   .exact .inl g
   .exact .inr ⟨⟨g,h3.dlt b hb⟩,id⟩
  have notl:∀b,D' b->b≠x:=λb hb e=>f4 x pvl2 (by rw[<- e];exact hb)
  have keptW:∀{w2:World},Kept fr w2->(W.heap.size<=w2.heap.size)/\(∀b,r b\/V b->w2.heap[b]?=W.heap[b]?)/\w2.heap[x]?=some (.loop {rec .ready none with state:=.busy})/\w2.heap[w.heap.size]?=some (.deferred (some []))/\x<w2.heap.size/\∀b,D' b->w2.heap[b]?=W.heap[b]?:=by
   intro w2 hk;rw[hfr]at hk;obtain⟨k1,k2⟩:=hk;have k1:Wb.heap.size<=w2.heap.size:=k1;have k2:∀b,D' b\/PV V b->w2.heap[b]?=Wb.heap[b]?:=k2;have wb:∀b,b≠x->b<W.heap.size->Wb.heap[b]?=W.heap[b]?:=λb h1 h2=>by
    rw[hWb,World.putObj_heap_other h1];exact same1 b h2
   have hD:∀b,D' b->w2.heap[b]?=W.heap[b]?:=λb hb=>(k2 b (.inl hb)).trans (wb b (notl b hb) (q1.dlt b hb))
   refine⟨Z,λb hb=>?_,?_,?_,Z,hD⟩
   .rcases hb with hb | hb
    .exact hD b (f1 b hb)
    .exact(k2 b (.inr (by rw[hPV];exact .inr (.inr hb)))).trans (wb b (λe=>by have:=(f3 b hb).1;omega) (f3 b hb).2)
   .rw[k2 x (.inr pvl2),hWb];exact World.putObj_heap_same hlt3
   .exact((k2 _ (.inr pvmk)).trans (wb _ Z Z)).trans f2
  have fin:∀{w2:World} (jump:Option Code),Kept fr w2->(Instr.endRound x jump).run c.P w2=.ok (.bool jump.isNone) (w2.putObj x (.loop (rec (if jump.isNone then .ready else .done) jump))):=λ{w2} jump hk=>by
   have:=run_endRound (P:=c.P) jump (keptW hk).2.2.1;rw[hrec]at this ⊢;exact this
  have after:∀{w2:World} (o:Obj),Kept fr w2->W.heap.size<=(w2.putObj x o).heap.size/\(∀b,r b\/V b->(w2.putObj x o).heap[b]?=W.heap[b]?)/\Fm (w2.putObj x o) D' r V/\(w2.putObj x o).heap[x]?=some o/\∀b,D' b->(w2.putObj x o).heap[b]?=W.heap[b]?:=λ{w2} o hk=>by
   obtain⟨k1,k2,k3,k4,k5,k6⟩:=keptW hk;have hD:∀b,D' b->(w2.putObj x o).heap[b]?=W.heap[b]?:=λb hb=>by rw[World.putObj_heap_other (notl b hb)];exact k6 b hb
   refine⟨by simpa using k1,λb hb=>?_,?_,World.putObj_heap_same k5,hD⟩
   .rcases hb with g | g
    .exact hD b (f1 b g)
    .rw[World.putObj_heap_other (λe=>by have:=(f3 b g).1;omega)];exact k2 b (.inr g)
   .rw[hFm];exact⟨f1,by rw[World.putObj_heap_other Z];exact k4,λb g=>⟨(f3 b g).1,by have:=(f3 b g).2;simp;omega⟩,f4,by simpa using k5⟩
  have hsimq:Sim Sq s1.sig a1 Wb:=⟨D3,E3,h4⟩;have hlq:s1.tm.length=S.N:=by rw[hl1,f]
  have hbody:=Z5 (N:=S.N) HF b ⟨s1,A.kf k,true⟩ _ (ZF c.P x λe W'=>W.heap.size<=W'.heap.size/\(∀b,r b\/V b->W'.heap[b]?=W.heap[b]?)/\((e=.returned (.bool true)/\J2 (k+1) W' r V)\/(e=.returned (.bool false)/\JX2 W' r V)\/∃ch,e=.panicked ch/\JP2 ch W' r V)) hq hlq (λe y2 hq2 hl2' a2 w2 hs2=>?_) (λch a2 w2 D2 hdf hj hk=>?_) a1 Wb ⟨Sq,hOkq,hgq,hsimq⟩
  .have e1:fr.ro=some x:=by rw[hfr]
   rw[e1]at hbody;exact Vv (F:=Fr (some x)) (by rw[hrr];exact Zn _) (aCX _) (OT _) hbody
  .obtain⟨S5,ho5,hg5,D5,E5,h5⟩:=hs2;have hnow:=hg5.now ho5 HF h5;obtain⟨o1,o2,o3,o4⟩:=ho5.now h5;have hk:Kept fr w2:=⟨o4,λb hb=>(o1 b hb).2⟩;have sub5:∀b,D' b->D5 b:=λb hb=>o2 b (by rw[hfr];exact hb)
   have eV:fr.V=PV V:=by rw[hfr]
   cases e with
   | normal=>
    obtain⟨n1,n2⟩:=hq2;obtain⟨r1,r2,r3,r4,r5⟩:=after (.loop (rec .ready none)) hk;have hJ:=hnow.1 n1;rw[n2,eV]at hJ;obtain⟨c1,c2⟩:=Chg.put (V:=PV V) (w:=w2) (o:=.loop (rec .ready none)) pvl2;refine⟨_,_,fin none hk,r1,r2,.inl ⟨rfl,?_⟩⟩;rw[hJ2]
    exact⟨_,D',D',E',anew (S2:={S with w0:=w0,D0:=D0,O:=noV}) rfl rfl rfl hSs hSr hSn hSg q1 r1 r5,r3,r4,j3 _ _ _ _ _ (H0.j2 _ _ _ _ _ _ hJ sub5 λ_ g=>g) c1 c2⟩
   | ret=>
    obtain⟨r1,r2,r3,r4,r5⟩:=after (.loop (rec .done (some .ret))) hk;obtain⟨c1,c2⟩:=Chg.put (V:=PV V) (w:=w2) (o:=.loop (rec .done (some .ret))) pvl2;refine⟨_,_,fin (some .ret) hk,r1,r2,.inr (.inl ⟨rfl,?_⟩)⟩;rw[hJX2];refine⟨D',λb hb=>qX (q1.dlt b hb) r1,r3,r4,?_⟩;cases hon:y2.on with
    | true=>
     have hJ:=hnow.1 hon;rw[hq2 hon,eV]at hJ;exact .inl (j3 _ _ _ _ _ (H0.j2 _ _ _ _ _ _ hJ sub5 λ_ g=>g) c1 c2)
    | false=>
     have hJ:=hnow.2 hon;rw[eV]at hJ;exact .inr (x3 _ _ _ _ (H0.x2 _ _ _ _ _ hJ sub5 λ_ g=>g) c1 c2)
   | exit i=>exact hq2.elim
   | goto t=>exact hq2.elim
   | panic ch=>exact hq2.elim
   | outgrown=>exact hq2.elim
  .obtain⟨k1,k2,k3,k4,k5,k6⟩:=keptW hk;refine⟨hdf,k1,k2,.inr (.inr ⟨ch,rfl,?_⟩)⟩;rw[hJP2];have eV:fr.V=PV V:=by rw[hfr]
   rw[eV]at hj;exact⟨k4,Z,λb g=>(f3 b g).1,D2,PV V,hj,pvmk,λb g=>by rw[hPV];exact .inr (.inr g)⟩
 .rw[hJ2];refine⟨_,_,D,E,hd1,?_,hL1,by rw[hk0];exact hJ1⟩;rw[hFm];refine⟨λ_ g=>g,hK1,λ_ g=>g.elim,λb g hb=>?_,Z⟩;have:=hd.dlt b hb;rcases pvF b g with g | g<;>omega
 ·
  have runs:∀w3:World,(results fn a.tmps).run c.P w3=.ok (.tuple #[]) w3:=λw3=>by simp[results,hres]
  have marks:∀{w3:World} {m:FrameMode} {POST:Ending->World->Prop},w3.heap[w.heap.size]?=some (.deferred (some []))->m≠.run->LeavesInM Fence.wide 0 c.P fn a.tmps POST [] m (w3.putObj w.heap.size (.deferred none))->LeavesInM Fence.wide 0 c.P fn a.tmps POST ([{target:=.collected w.heap.size,args:=#[]}]++a.defers) m w3:=λ{w3 m POST} h1 hm h2=>by
   rw[hdef];exact⟨hm,.inl ⟨w.heap.size,_,rfl,run_takeDeferred h1,h2⟩⟩
  have pvm:PV noV w.heap.size:=by rw[hPV];exact .inl rfl
  have pvl:PV noV x:=by rw[hPV];exact .inr (.inl rfl)
  rintro e W2 (⟨⟨v,rfl⟩,hj⟩ | ⟨ch,rfl,D2,z,hj⟩)
  case inr=>
   rw[hJP2]at hj;obtain⟨q1,q2,q3,D0,V0,q4,q5,q6⟩:=hj;obtain⟨c1,c2⟩:=Chg.put (V:=V0) (w:=W2) (o:=.deferred none) q5;exact marks q1 (by simp) (.inr ⟨ch,rfl,D0,V0,p3 _ _ _ _ _ q4 c1 c2⟩)
  rcases hj with⟨D2,hj⟩ | ⟨D2,hj⟩
  .rw[hJ2]at hj;obtain⟨w0,D0,D',E',q1,q2,q3,q5⟩:=hj;rw[hFm]at q2;have hel:=run_endLoop (P:=c.P) q3 (by rw[hrec];simp);refine⟨none,_,(by rw[hrec]at hel;exact hel),?_⟩;refine marks (by rw[World.putObj_heap_other Z];exact q2.2.1) (by simp) ⟨_,runs _,.inl ⟨⟨_,rfl⟩,.inl ⟨D',?_⟩⟩⟩;rw[hkn]at q5
   exact H0.j2 _ _ _ _ _ _ (j3 _ _ _ _ _ (j3 _ _ _ _ _ q5 (Chg.put pvl).1 (Chg.put pvl).2) (Chg.put pvm).1 (Chg.put pvm).2) (λ_ g=>g) λ_ g=>g.elim
  .rw[hJX2]at hj;obtain⟨D',q1,q2,q3,q5⟩:=hj;rw[hFm]at q2;have hel:=run_endLoop (P:=c.P) q3 (by rw[hrec];simp);refine⟨some .ret,_,(by rw[hrec]at hel;exact hel),?_⟩;refine Vv (F:=Fence.wide) (n:=0) rfl (λ_=>trivial) rfl (wpIn_ret ?_);refine marks (by rw[World.putObj_heap_other Z];exact q2.2.1) (by simp) ⟨_,runs _,.inl ⟨⟨_,rfl⟩,?_⟩⟩;rcases q5 with q5 | q5
   .exact .inl ⟨D',H0.j2 _ _ _ _ _ _ (j3 _ _ _ _ _ (j3 _ _ _ _ _ q5 (Chg.put pvl).1 (Chg.put pvl).2) (Chg.put pvm).1 (Chg.put pvm).2) (λ_ g=>g) λ_ g=>g.elim⟩
   .exact .inr ⟨D',H0.x2 _ _ _ _ _ (x3 _ _ _ _ (x3 _ _ _ _ q5 (Chg.put pvl).1 (Chg.put pvl).2) (Chg.put pvm).1 (Chg.put pvm).2) (λ_ g=>g) λ_ g=>g.elim⟩
def UT{l:Nat}{A:tF}
  (H:∀(N:Nat) (fr:FrY),(fr.ro≠none->N<=fr.sv.length)->VZ c it l N fr J JX JP) (hKI:bf c.P c.G c.KI)
  (j3:∀k i j D1 V,J k i D1 V->Chg V i j->j.heap.size=i.heap.size->J k j D1 V) (x3:∀i j D1 V,JX i D1 V->Chg V i j->j.heap.size=i.heap.size->JX j D1 V)
  (p3:∀z i j D1 V,JP z i D1 V->Chg V i j->j.heap.size=i.heap.size->JP z j D1 V)
  {fn:Func} (u:fn.results=#[]) {S:Base} (HO:OkS c S) (hSO:∀b,¬S.O b) (hSs:S.sv=[]) (X:S.rd=none) (hSg:S.gd=[]) (hSn:S.nod=true) (hJ0:J 0 S.w0 S.D0 noV):
  ∀(x:Code) (s:St),evN c it l A x s->s.tm.length=S.N->∀a w,Sim S s.sig a w->
  At c.P none x (bodyPostM Fence.wide 0 c.P fn λe T=>((∃v,e=.returned v)/\((∃f,J it.L.length T f noV)\/∃f,JX T f noV))\/∃z,e=.panicked z/\∃f V2,JP z T f V2) a w
 | .seq x y,s,h,hl,a,w,hs=>by
  unfold evN at h;have hx:=lX (A:=A.A) x S s _ (Exit.then (At c.P none y (bodyPostM Fence.wide 0 c.P fn λe T=>((∃v,e=.returned v)/\((∃f,J it.L.length T f noV)\/∃f,JX T f noV))\/∃z,e=.panicked z/\∃f V2,JP z T f V2))
   (bodyPostM Fence.wide 0 c.P fn λe T=>((∃v,e=.returned v)/\((∃f,J it.L.length T f noV)\/∃f,JX T f noV))\/∃z,e=.panicked z/\∃f V2,JP z T f V2)) HO h hl (λe s' hq hl' a' w' hs'=>by
    cases e<;>first
     | exact UT H hKI j3 x3 p3 u HO hSO hSs X hSg hSn hJ0 y s' hq hl' a' w' hs'
     | exact hq.elim) a w hs
  rw[HO.P.symm,X]at hx;exact zo hx
 | .rangeFunc g ps as b,s,h,hl,a,w,hs=>by
  unfold evN at h;split at h
  case h_2=>exact h.elim
  rename_i s1 _;split at h
  case h_2=>exact h.elim
  rename_i ms hms;obtain⟨g1,g2⟩:=bR h;obtain⟨D,E,hd⟩:=MJ hs hms g1;exact aBG H hKI j3 x3 p3 u HO hSO hSs X hSg hSn g2 ((nJ hms).symm.trans hl) hd hJ0
 | .skip,_,h,_,_,_,_=>by unfold evN at h;exact h.elim
 | .region _ _ _,_,h,_,_,_,_=>by unfold evN at h;exact h.elim
 | .cond _ _ _,_,h,_,_,_,_=>by unfold evN at h;exact h.elim
 | .block id x,s,h,hl,a,w,hs=>by
  unfold evN at h;refine ON λb k cs hb hf=>?_
  obtain⟨e,a1,i,hq,r⟩:=UT H hKI j3 x3 p3 u HO hSO hSs X hSg hSn hJ0 x s h hl a w hs b k cs hb hf;refine⟨e,a1,i,?_,r⟩;cases e<;>first
   | exact hq
   | exact hq.elim
 | .exit _,_,h,_,_,_,_=>by unfold evN at h;exact h.elim
 | .ret,_,h,_,_,_,_=>by unfold evN at h;exact h.elim
 | .loop _,_,h,_,_,_,_=>by unfold evN at h;exact h.elim
 | .scope _,_,h,_,_,_,_=>by unfold evN at h;exact h.elim
 | .label _,_,h,_,_,_,_=>by unfold evN at h;exact h.elim
 | .goto _,_,h,_,_,_,_=>by unfold evN at h;exact h.elim
 | .refuse _,_,h,_,_,_,_=>by unfold evN at h;exact h.elim
def KY{A:tF}{f:FuncId}{caps:List AV}(hK:ai c.P c.G c.K)(hI:bf c.P c.G c.KI)(hm:c.P.follows .mixedOrders=true)(h:aHO c A f caps it)(hKP:c.KP=λ_ _ _=>none:=by rfl): mA c.P c.G f caps it:=by
 intro hpre l J JX JP w D us hD hG v j1 j2 j3 x1 x2 x3 p3 V h0;unfold aHO at h;split at h
 case h_2=>exact h.elim
 rename_i fn hf;split at h
 case h_2=>exact h.elim
 rename_i b hb;obtain⟨hres,hnm,hone,z,h⟩:=h;have h:=h l hpre;have L:bJ c.P c.G c.KP:=λf args m r h=>by rw[hKP]at h;cases h
 have H:∀(N:Nat) (fr:FrY),(fr.ro≠none->N<=fr.sv.length)->VZ c it l N fr J JX JP:=λN fr hrs=>⟨hK,hI,L,hm,λ_=>z,hrs,j1,j2,x1,x2,V⟩
 have j:caps.length=us.length:=AV.relL_length v;have T:AV.relL c.P ⟨w,D,noM,noE⟩ (.yld l::caps) (.func (.yield l) #[] #[]::us):=⟨_,_,rfl,rfl,v⟩;have earr:#[Value.func (.yield l) #[] #[]]++us.toArray=(Value.func (.yield l) #[] #[]::us).toArray:=by simp
 rw[earr];obtain⟨S,y⟩:∃S:Base,S={P:=c.P,w0:=w,D0:=D,N:=(caps.length+1)+(fn.ntmps-(caps.length+1)),O:=λ_=>False,G:=c.G,sv:=[],rd:=none,nod:=true}:=⟨_,rfl⟩;have x:aP S (sD fn l caps).s.sig {tmps:=(Value.func (.yield l) #[] #[]::us).toArray++Array.replicate (fn.ntmps-(Value.func (.yield l) #[] #[]::us).toArray.size) undef,defers:=[]} w D noE:=by
  rw[y];refine⟨?_,⟨⟨λ_=>rfl,⟨[],rfl⟩,yV⟩,λd hd=>(by cases hd)⟩,λt=>?_,λnm b hm=>(by cases hm),λnm b hm=>(by cases hm),λnm nm' b b' hm=>(by cases hm),Chg.refl _ _,hD,λb hb=>hb,λb hb=>.inl hb,
   hG,rfl,fN.nil λk i b g=>(by obtain⟨_,_,_,_,_,_,g1,_⟩:=g;cases g1)⟩
  .simp[j]
  .show(((.yld l::caps)++List.replicate (fn.ntmps-(caps.length+1)) (AV.val undef)).getD t .top).rel c.P ⟨w,D,noM,noE⟩ _;rw[qA,qQ];by_cases X:t<(AV.yld l::caps).length
   .rw[vS X,kU (by simpa[j]using X)];obtain⟨u,g1,g2⟩:=AV.relL_get T (qB X);rw[qB X];simp only[kX,g1,qK];exact g2
   .rw[vH Z,kQ (by simp[<- j]at X ⊢;omega)];rw[wV,yU];split
    .rename_i h1;rw[if_pos (by simp[<- j]at h1 ⊢;omega)];rfl
    .trivial
 have HO:OkS c S:=by
  rw[y];exact⟨rfl,rfl,hK,hI,hm,λe=>(e rfl).elim,λ_=>by rw[z];rfl,L⟩
 have hr:fn.results=#[]:=by
  apply yQ;exact wY.1 hres
 exact uR hf hb (UT H hI j3 x3 p3 hr HO (λb g=>by rw[y]at g;exact g) (by rw[y]) (by rw[y]) (by rw[y]) (by rw[y]) (by rw[y];exact h0) b (sD fn l caps).s h (by rw[y];simp[sD];omega) _ w ⟨D,noE,x⟩)
end Go.Eng
namespace Go.Eng
open Go.RowKit
def aFK(u:Nat->Value)(n:Nat): Lv:=(List.range n).map u
def Ba: Lv->List AV->List AV
 | u::us,a::as=>.pin u a::Ba us as
 | _,_=>[]
def sO: Lv->List AV->Option (List Prop)
 | [],_=>some []
 | u::us,.pin u' _::as=>match sO us as with
  | some q=>some ((u'=u)::q)
  | none=>none
 | _,_=>none
def mx: AV->AV
 | .yld l=>.yld l
 | a=>Pn a
def anew(us:Lv)(caps:List AV)(s:St): St:={s with tm:=(s.tm.take 1).map mx++Ba us caps++(s.tm.drop (caps.length+1)).map mx}
def bare(s:St): St:={s with tm:=s.tm.map mx}
def ZB(c:Cfg)(it:jF)(l:Nat)(us:Lv)(caps:List AV)(ops:Array Oper): List Oper->Y->(Y->Prop)->Prop
 | [],y,Q=>Q y
 | o::os,y,Q=>match QU y.s.sig.T ops o.guard with
  | some g=>match yieldOf c.G y.s.sig.T g o.op with
   | some (l',ns,v)=>if oW o.dst y.s.tm.length=true/\(y.s.mem.isEmpty&&y.s.sv.isEmpty)=true/\caps.length<y.s.tm.length then match asY it.t v,sO us (y.s.tm.drop 1)with
    | some x,some ps=>YR g (all (ns++ps) (l'=l/\y.on=true/\m4 it.L y.k x/\ZB c it l us caps ops os ⟨setSlot o.dst (.dat .bool true) (anew us caps y.s),y.k+1,true⟩ Q/\ZB c it l us caps ops os ⟨setSlot o.dst (.dat .bool false) (bare y.s),y.k+1,false⟩ Q))
      (ZB c it l us caps ops os ⟨setSlot o.dst (.grd g (.dat .bool false)) y.s,y.k,y.on⟩ Q)
    | _,_=>False
    else False
   | none=>match iJ c.P c.G c.K (c.mt o) ops y.s.nx y.s.sig o with
    | some r=>if iu r y.s.tm.length=true/\HT r y.s=true then all r.need (ZB c it l us caps ops os ⟨cV r y.s,y.k,y.on⟩ Q)else False
    | none=>False
  | none=>False
def rgL(c:Cfg)(it:jF)(l:Nat)(us:Lv)(caps:List AV)(ops:Array Oper)(draw:Bool)(y:Y)(Q:Y->Prop): Prop:=if draw=true then False else ZB c it l us caps ops ops.toList y Q
def GL(fn:Func)(l:Nat)(us:Lv)(caps:List AV): Y:=⟨⟨(.yld l::Ba us caps)++List.replicate (fn.ntmps-(caps.length+1)) (.val undef),[],0,[]⟩,0,true⟩
def evL(c:Cfg)(A:Jv)(f:FuncId)(caps:List AV)(it:jF): Prop:=match c.P.funcs[f]? with
 | some fn=>match fn.body with
  | some b=>fn.results.toList.isEmpty=true/\EZ it.t=true/\c.rng=false/\∀(l:Nat) (u:Nat->Value),it.pre->evZ c (rgL c it l (aFK u caps.length) caps) A b (GL fn l (aFK u caps.length) caps) (aF2 it)
  | none=>False
 | none=>False
def yi{P:Program}{C C':Ctx}{a:AV}{v:Value}(h:a.rel P C v): (mx a).rel P C' v:=by
 unfold mx;split
 .exact h
 .exact vk h
def js: ∀{us:Lv} {as:List AV},us.length=as.length->(Ba us as).length=as.length
 | [],[],_=>rfl
 | _::us,_::as,h=>by simp[Ba,js (us:=us) (as:=as) (by simpa using h)]
def Ks: ∀{us:Lv} {as:List AV} {i:Nat} {x:AV},(Ba us as)[i]?=some x->∃u a,us[i]?=some u/\as[i]?=some a/\x=.pin u a
 | [],_,_,_,h=>by simp[Ba]at h
 | _::_,[],_,_,h=>by simp[Ba]at h
 | u::us,a::as,0,x,h=>by simp[Ba]at h;exact⟨u,a,rfl,rfl,h.symm⟩
 | u::us,a::as,i+1,x,h=>by simp only[Ba,List.getElem?_cons_succ]at h ⊢;exact Ks h
def Hy: ∀{us:Lv} {as:List AV} {q:List Prop},sO us as=some q->(∀p∈q,p)->∀{i:Nat} {u:Value},us[i]?=some u->∃a,as[i]?=some (.pin u a)
 | [],_,_,_,_,i,u,h=>by simp at h
 | u'::us,[],q,h,_,_,_,_=>by simp[sO]at h
 | u'::us,x::as,q,h,f,i,u,hi=>by
  cases x<;>first
   | (simp[sO]at h;done)
   | skip
  rename_i g r;simp only[sO]at h;split at h
  .rename_i v b;cases h;have e:g=u':=f _ (wB ..);cases i with
   | zero=>simp at hi;subst hi e;exact⟨r,rfl⟩
   | succ i=>simpa using Hy b (λp j=>f p (wX _ j)) (by simpa using hi)
  .cases h
def Yz{t:Ty}(h:EZ t=true){w:World}{D:Nat->Prop}{x:t.den}{us:Lv}(b:ag w D t x us): ag w noV t x us:=by
 cases t<;>first | exact b | cases h
section
variable {c:Cfg} {it:jF} {l N:Nat} {us:Lv} {caps:List AV} {J:Nat->World->Prop} {JX:World->Prop} {JP:List PanicEntry->World->Prop}
structure aDd (c:Cfg) (it:jF) (l:Nat) (us:Lv) (caps:List AV) (J:Nat->World->Prop) (JX:World->Prop) (JP:List PanicEntry->World->Prop):Prop where
 K:ai c.P c.G c.K
 I:bf c.P c.G c.KI
 KP:bJ c.P c.G c.KP
 m:c.P.follows .mixedOrders=true
 rng:c.rng=false
 flat:EZ it.t=true
 len:us.length=caps.length
 jc:∀k w1,J k w1->∃D:Nat->Prop,(∀b,D b->b<w1.heap.size)/\lM c.P ⟨w1,D,noM,noE⟩ c.G/\AV.relL c.P ⟨w1,D,noM,noE⟩ caps us
 xc:∀w1,JX w1->∃D:Nat->Prop,(∀b,D b->b<w1.heap.size)/\lM c.P ⟨w1,D,noM,noE⟩ c.G
 j1:∀k w1 w2,J k w1->Below w1.heap.size w1 w2->J k w2
 x1:∀w1 w2,JX w1->Below w1.heap.size w1 w2->JX w2
 yld:∀k y W u,it.L[k]?=some y->J k W->ag W noV it.t y [u]->YieldAt Fence.wide 0 c.P l #[u] W λe W' =>
   W.heap.size<=W'.heap.size/\((e=.returned (.bool true)/\J (k+1) W')\/(e=.returned (.bool false)/\JX W')\/∃ch,e=.panicked ch/\JP ch W')
def rm(c:Cfg)(N:Nat)(w:World)(D:Nat->Prop): Base:={P:=c.P,w0:=w,D0:=D,N:=N,O:=λ_=>False,G:=c.G,sv:=[],rd:=none,nod:=true}
def Ju(J:Nat->World->Prop)(JX:World->Prop)(y:Y)(w:World): Prop:=(y.on=true->J y.k w)/\(y.on=false->JX w)
def aGa(c:Cfg)(N:Nat)(J:Nat->World->Prop)(JX:World->Prop)(y:Y)(a:Act)(w:World): Prop:=∃w0 D0,Ju J JX y w0/\Sim (rm c N w0 D0) y.s.sig a w
def aDd.okS (H:aDd c it l us caps J JX JP) (w:World) (D:Nat->Prop):OkS c (rm c N w D):=
 ⟨rfl,rfl,H.K,H.I,H.m,λe=>(e rfl).elim,λ_=>by rw[H.rng];rfl,H.KP⟩
def gM{w0:World}{D0:Nat->Prop}{σ:Sig}{a:Act}{w:World}{D:Nat->Prop}{E:Nat->Ent}(h:aP (rm c N w0 D0) σ a w D E): Below w0.heap.size w0 w:=
 ⟨h.low.os,h.low.tape,h.low.output,h.low.size,λk b=>h.low.block k b id⟩
def Ju.now (H:aDd c it l us caps J JX JP) {y:Y} {w0 w:World} (b:Ju J JX y w0) (hb:Below w0.heap.size w0 w):Ju J JX y w:=
 ⟨λe=>H.j1 _ _ _ (b.1 e) hb,λe=>H.x1 _ _ (b.2 e) hb⟩
def SA{tm:List AV}{a:Act}{w:World}{D:Nat->Prop}(e:a.tmps.size=N)(hd:a.defers=[])(v:∀b,D b->b<w.heap.size)(u:lM c.P ⟨w,D,noM,noE⟩ c.G)
  (r:∀t,(tm.getD t .top).rel c.P ⟨w,D,noM,noE⟩ (a.tmps.getD t undef)) (nx:Nat):aP (rm c N w D) (St.sig ⟨tm,[],nx,[]⟩) a w D noE:=
 ⟨e,⟨⟨λ_=>hd,⟨[],hd⟩,by rw[hd];exact yV⟩,λd h=>by rw[hd]at h;cases h⟩,r,λf b hm=>(by cases hm),λf b hm=>(by cases hm),λf j b x hm=>(by cases hm),Chg.refl _ _,v,λb hb=>hb,λb hb=>.inl hb,
  u,rfl,fN.nil λk i b g=>(by obtain⟨_,_,_,_,_,_,g1,_⟩:=g;cases g1)⟩
def getD_map{f:AV->AV}(b:f .top=.top)(l:List AV)(t:Nat): (l.map f).getD t .top=f (l.getD t .top):=by
 simp only[qA,qR];cases l[t]?<;>simp[b]
def Zi{P:Program}{C C':Ctx}{s:St}{tmps:Array Value}{q:List Prop}(L:us.length=caps.length)(G:caps.length<s.tm.length)(h:∀t,(s.tm.getD t .top).rel P C (tmps.getD t undef))
  (A:sO us (s.tm.drop 1)=some q) (z:∀p∈q,p) (O:AV.relL P C' caps us) (t:Nat):((anew us caps s).tm.getD t .top).rel P C' (tmps.getD t undef):=by
 have f:mx .top=.top:=rfl;have b:((s.tm.take 1).map mx).length=1:=by rw[qY,qL];omega
 have y:(Ba us caps).length=caps.length:=js L;show(((s.tm.take 1).map mx++Ba us caps++(s.tm.drop (caps.length+1)).map mx).getD t .top).rel P C' _;rcases zO t 1 with g | g
 .have e:((s.tm.take 1).map mx++Ba us caps++(s.tm.drop (caps.length+1)).map mx).getD t .top=mx (s.tm.getD t .top):=by
   rw[qA,wG,vS Z,<- qA,getD_map f]
   congr 1
   rw[qA,qA,vV,if_pos g]
  rw[e];exact yi (h t)
 rcases zO t (caps.length+1)with g2 | g2
 .have hi:t-1<(Ba us caps).length:=by omega
  obtain⟨u,av,x,X,V⟩:=Ks (qB hi);have e:((s.tm.take 1).map mx++Ba us caps++(s.tm.drop (caps.length+1)).map mx).getD t .top=.pin u av:=by
   rw[qA,wG,vH Z,b,vS hi,qB hi,V];rfl
  rw[e];obtain⟨ov,v⟩:=Hy A z x;rw[vJ,show 1+(t-1)=t by omega]at v;have r:=h t;rw[qA,v]at r;have j:tmps.getD t undef=u:=r.1;obtain⟨u',i,T⟩:=AV.relL_get O X;rw[x]at i;cases i;exact⟨j,by rw[j];exact T⟩
 .have e:((s.tm.take 1).map mx++Ba us caps++(s.tm.drop (caps.length+1)).map mx).getD t .top=mx (s.tm.getD t .top):=by
   rw[qA,wG,vH Z,b,vH Z,y,<- qA,getD_map f]
   congr 1
   rw[qA,qA,vJ,show caps.length+1+(t-1-caps.length)=t by omega]
  rw[e];exact yi (h t)
def Yy: ∀{t:Ty} {v w:AV} {x:t.den},EZ t=true->asY t [v,w]=some x->False
 | .pair _ _,_,_,_,h,_ | .str,_,_,_,h,_ | .sl _,_,_,_,h,_=>by cases h
 | .int _,_,_,_,_,h | .bool,_,_,_,_,h=>by simp[asY]at h
def UL{P:Program}{C:Ctx}{t:Ty}{x:t.den}{u:Value}(h:EZ t=true)(g:AV.relL P C (Kv t x) [u]): ag C.w C.D t x [u]:=by
 cases t with
 | pair a b=>cases h
 | _=>
  obtain⟨i,f,e,g1,_⟩:=g;cases e;exact g1
def OU(H:aDd c it l us caps J JX JP){y:Y}{w0:World}{D0:Nat->Prop}(hg:Ju J JX y w0){a:Act}{w:World}{D:Nat->Prop}{E:Nat->Ent}(hd:aP (rm c N w0 D0) y.s.sig a w D E)(r:y.s.mem=[])(hsv:y.s.sv=[])(hlt:caps.length<y.s.tm.length)
  (hl:y.s.tm.length=N) {o:Oper} (hdst:oW o.dst y.s.tm.length=true) {l':Nat} {ns ps:List Prop} {v:List AV} (hy:yieldOf c.G y.s.sig.T true o.op=some (l',ns,v)) {x:it.t.den} (hx:asY it.t v=some x) (hps:sO us (y.s.tm.drop 1)=some ps) (X:∀q∈ns++ps,q) (hll:l'=l) (hon:y.on=true) (hat:m4 it.L y.k x)
  {K:Act->World->Prop} {R:Exit->Act->World->Prop} (hP:∀ch a w,a.defers=[]->JP ch w->R (.panic ch) a w)
  (hK:∀(b:Bool) (s':St) (a':Act) (w':World),s'=setSlot o.dst (.dat .bool b) (if b=true then anew us caps y.s else bare y.s)->aGa c N J JX ⟨s',y.k+1,b⟩ a' w'->K a' w'):o.wpIn Fence.wide 0 c.P a w K R:=by
 obtain⟨f,args,at_,n1,n2,V,hf,rfl,hav⟩:=uV hy;obtain⟨av,v1,hargs,ea,rfl⟩:∃av v1,args.toList=[av]/\ug true (evT c.G y.s.sig.T av)=(v1,n2)/\v=[v1]:=by
  rcases hav with g | ⟨_,_,_,_,_,_,_,_,_,rfl,_⟩
  .exact g
  .exact(Yy H.flat hx).elim
 rw[hll]at hf;have hfv:=fj hd f;have hav0:=fj hd av;have u:=od (g:=true) rfl (λq hq=>X q (qI.2 (.inl (qI.2 (.inl (by have i:=hq;rw[show(rm c N w0 D0).G=c.G from rfl,hf]at i;exact i)))))) hfv;have A:=od (g:=true) rfl (λq hq=>X q (qI.2 (.inl (qI.2 (.inr (by have i:=hq;rw[show(rm c N w0 D0).G=c.G from rfl,ea]at i;exact i)))))) hav0;rw[show(rm c N w0 D0).G=c.G from rfl,hf]at u
 have hfv3:a.eval f=.func (.yield l) #[] #[]:=u;rw[show(rm c N w0 D0).G=c.G from rfl,ea]at A;have hcell:=Yz H.flat (UL H.flat (Vy hx (us:=[a.eval av]) ⟨_,_,rfl,A,rfl⟩));have hyl:=H.yld y.k x w (a.eval av) hat ((hg.now H (gM hd)).1 hon) hcell;obtain⟨fn,tmps,assign,body,hrun,j⟩:=hyl;unfold Oper.wpIn;refine⟨λf _=>trivial,?_⟩;have O:∀d,o.op≠.defer d:=λd e=>by rw[V]at e;cases e
 rw[Oper.semAt_eq _ _ _ O];have hexec:(execOp a.eval o).run c.P w=.ok (.round l fn tmps assign body) w:=by
  obtain⟨dst,op,ty,pos,after,guard⟩:=o;simp only at V;subst V;have e1:args.map a.eval=#[a.eval av]:=by
   apply yQ;rw[qBt,hargs];rfl
  simp only[execOp,resolve,e1,hfv3,Deferred.ofValue,wQ,yK,vX,invoke,gX];simpa using hrun
 rw[hexec,Oper.uponIn_round];refine⟨λh=>(by cases h),?_⟩;have z:a.defers=[]:=hd.df.1.1 rfl;have hsz:a.tmps.size=N:=hd.sz;have fin:∀(b:Bool) (tm:List AV) (w':World) (D':Nat->Prop),tm.length=N->(∀b,D' b->b<w'.heap.size)->lM c.P ⟨w',D',noM,noE⟩ c.G->(∀t,(tm.getD t .top).rel c.P ⟨w',D',noM,noE⟩ (a.tmps.getD t undef))->
   Sim (rm c N w' D') (setSlot o.dst (.dat .bool b) ⟨tm,[],y.s.nx,[]⟩).sig (a.put o.dst (.bool b)) w':=λb tm w' D' h1 h2 h3 h4=>
  ⟨D',noE,(SA hsz z h2 h3 h4 y.s.nx).slot (s:=⟨tm,[],y.s.nx,[]⟩) h1 (by rw[show(St.mk tm [] y.s.nx []).tm.length=y.s.tm.length from h1.trans hl.symm];exact hdst) rfl⟩
 refine RoundIn.mono j ?_;rintro e w' ⟨hsz',hres⟩;rcases hres with⟨rfl,hj⟩ | ⟨rfl,hj⟩ | ⟨ch,rfl,hj⟩
 .obtain⟨D',d1,d2,d3⟩:=H.jc _ _ hj;refine hK true _ _ w' rfl ⟨w',D',⟨λ_=>hj,λe=>(by cases e)⟩,?_⟩;have e:(if true=true then anew us caps y.s else bare y.s)=⟨(anew us caps y.s).tm,[],y.s.nx,[]⟩:=by rw[if_pos rfl];unfold anew;rw[r,hsv]
  rw[e];refine fin true _ w' D' ?_ d1 d2 λt=>Zi H.len hlt hd.tm hps (λp hp=>X p (qI.2 (.inr hp))) d3 t
  unfold anew;simp only[qF,qY,qL,wJ,js H.len];omega
 .obtain⟨D',d1,d2⟩:=H.xc _ hj;refine hK false _ _ w' rfl ⟨w',D',⟨λe=>(by cases e),λ_=>hj⟩,?_⟩;have e:(if false=true then anew us caps y.s else bare y.s)=⟨(bare y.s).tm,[],y.s.nx,[]⟩:=by rw[if_neg (by decide)];unfold bare;rw[r,hsv]
  rw[e];refine fin false _ w' D' (by unfold bare;simp[hl]) d1 d2 λt=>?_
  show((y.s.tm.map mx).getD t .top).rel _ _ _;rw[getD_map rfl];exact yi (hd.tm t)
 .exact hP ch a w' z hj
def vf(H:aDd c it l us caps J JX JP){ops:Array Oper}{Q:Y->Prop}{R:Exit->Act->World->Prop}(hR:∀y',Q y'->y'.s.tm.length=N->∀a w,aGa c N J JX y' a w->R .normal a w)(hP:∀ch a w,a.defers=[]->JP ch w->R (.panic ch) a w):
  ∀(os:List Oper) (j:Nat) (y:Y),(∀i o,os[i]?=some o->ops[j+i]?=some o)->ZB c it l us caps ops os y Q->y.s.tm.length=N->∀a w,aGa c N J JX y a w->wpOpsIn Fence.wide 0 c.P ops R (List.range' j os.length) a w
 | [],j,y,_,h,G,a,w,hs=>by
  simp only[xI,qCg,wpOpsIn];simp only[ZB]at h;exact hR y h G a w hs
 | o::os,j,y,A,h,G,a,w,hs=>by
  have ho:ops[j]?=some o:=by simpa using A 0 o rfl
  have z:∀i o',os[i]?=some o'->ops[j+1+i]?=some o':=λi o' hi=>by
   have:=A (i+1) o' (by simpa using hi);rw[show j+1+i=j+(i+1) by omega];exact this
  obtain⟨w0,D0,hg,D,E,hd⟩:=hs;simp only[ZB]at h;split at h
  case h_2=>exact h.elim
  rename_i g hge;have L:=FB (o:=o) hd hge;rw[wS,qBn,wpOpsIn_cons];split at h
  ·
   rename_i l' ns v hy;split at h
   case isFalse=>exact h.elim
   rename_i hc;obtain⟨u,V,hlt⟩:=hc;simp only[qC,wY]at V;split at h
   case h_2=>exact h.elim
   rename_i x ps hx hps;unfold wpOpIn;rw[ho];simp only;rw[L];cases g with
   | false=>
    simp only[wE,xO];refine⟨λf _=>trivial,vf H hR hP os (j+1) _ z (h.2 rfl) (by simp[setSlot];split<;>simp[G]) _ _ ⟨w0,D0,hg,D,E,?_⟩⟩;exact hd.slot G u ⟨λe=>(by cases e),λ_=>rfl⟩
   | true=>
    simp only[kR];obtain⟨T,hll,hon,hat,h1,h2⟩:=bR (h.1 rfl);refine OU H hg hd V.1 V.2 hlt G u hy hx hps T hll hon hat hP λb s' a' w' es hs'=>?_
    have ls:s'.tm.length=N:=by
     rw[es];cases b
     .rw[if_neg (by decide)];unfold setSlot bare;split<;>simp[G]
     .rw[if_pos rfl];have:(anew us caps y.s).tm.length=N:=by
       unfold anew;simp only[qF,qY,qL,wJ,js H.len];omega
      unfold setSlot;split<;>simp[this]
    cases b
    .subst es;exact vf H hR hP os (j+1) _ z h2 ls _ _ hs'
    .subst es;exact vf H hR hP os (j+1) _ z h1 ls _ _ hs'
  ·
   split at h
   case h_2=>exact h.elim
   rename_i r hr;split at h
   case isFalse=>exact h.elim
   rename_i O;obtain⟨T,X⟩:=bR h;have u:∀d,o.dst=some d->d<(rm c N w0 D0).N:=by
    intro d hdd;have h2:=O.1;unfold iu at h2;simp only[qC]at h2;have:=h2.1;rw[(kA hr).1,hdd]at this;rw[G]at this;exact vN this
   have:=pC (S:=rm c N w0 D0) (Q:=R) H.K ho ⟨D,E,hd⟩ u hr T (λk hk=>by
    have:=O.2;unfold HT at this;rw[hk]at this;exact Me this)
   refine wpOpIn_mono (λa' w' h'=>vf H hR hP os (j+1) _ z X (by rw[jC];exact G) a' w' ⟨w0,D0,hg,?_⟩) this;show Sim _ (cV r y.s).sig a' w';rw[iw O.1];exact h'
end
def KZ{c:Cfg}{A:Jv}{f:FuncId}{caps:List AV}{it:jF}(hK:ai c.P c.G c.K)(hI:bf c.P c.G c.KI)(hm:c.P.follows .mixedOrders=true)(h:evL c A f caps it)(hKP:c.KP=λ_ _ _=>none:=by rfl): Jt c.P c.G f caps it:=by
 intro hpre l J JX JP w us jc xc j1 x1 hyld h0;unfold evL at h;split at h
 case h_2=>exact h.elim
 rename_i fn hf;split at h
 case h_2=>exact h.elim
 rename_i b hb;obtain⟨hres,V,hrng,h⟩:=h;obtain⟨D,hD,hG,j⟩:=jc 0 w h0;have g:us.length=caps.length:=(AV.relL_length j).symm;obtain⟨u,hu⟩:∃u:Nat->Value,aFK u caps.length=us:=⟨λi=>us.getD i undef,by
  unfold aFK;apply qBr
  .simp[g]
  .intro i h1 h2;simp[qA,h2]⟩
 have h:=h l u hpre;rw[hu]at h;have H:aDd c it l us caps J JX JP:=⟨hK,hI,(λf args m r h=>by rw[hKP]at h;cases h),hm,hrng,V,g,jc,xc,j1,x1,hyld⟩;have earr:#[Value.func (.yield l) #[] #[]]++us.toArray=(Value.func (.yield l) #[] #[]::us).toArray:=by simp
 rw[earr];obtain⟨N,hN⟩:∃N,N=(caps.length+1)+(fn.ntmps-(caps.length+1)):=⟨_,rfl⟩;refine callsIn_of_wp_marks hf hb trivial ?_;have lp:(Ba us caps).length=caps.length:=js g;have hlS:(GL fn l us caps).s.tm.length=N:=by rw[hN];simp[GL,lp];omega
 have pinR:AV.relL c.P ⟨w,D,noM,noE⟩ (.yld l::Ba us caps) (Value.func (.yield l) #[] #[]::us):=by
  refine⟨_,_,rfl,rfl,AV.relL_mk (by rw[lp,g]) λi a v h1 h2=>?_⟩;obtain⟨u',a',g1,g2,rfl⟩:=Ks h1;rw[h2]at g1;cases g1;obtain⟨v',g3,g4⟩:=AV.relL_get j g2;rw[h2]at g3;cases g3;exact⟨rfl,g4⟩
 have x:aP (rm c N w D) (GL fn l us caps).s.sig {tmps:=(Value.func (.yield l) #[] #[]::us).toArray++Array.replicate (fn.ntmps-(Value.func (.yield l) #[] #[]::us).toArray.size) undef,defers:=[]} w D noE:=by
  refine SA (by rw[hN];simp[g]) rfl hD hG (λt=>?_) 0;show(((.yld l::Ba us caps)++List.replicate (fn.ntmps-(caps.length+1)) (AV.val undef)).getD t .top).rel c.P ⟨w,D,noM,noE⟩ _;rw[qA,qQ];by_cases ht:t<(AV.yld l::Ba us caps).length
  .rw[vS ht,kU (by simpa[g,lp]using ht)];obtain⟨u,g1,g2⟩:=AV.relL_get pinR (qB ht);rw[qB ht];simp only[kX,g1,qK];exact g2
  .rw[vH Z,kQ (by simp[g,lp]at ht ⊢;omega)];rw[wV,yU];split
   .rename_i h1;rw[if_pos (by simp[g,lp]at h1 ⊢;omega)];rfl
   .trivial
 refine tY (N:=N) (F:=Fence.wide) (X:=aGa c N J JX) (PQ:=λz a w=>a.defers=[]/\JP z w) (λy a w ⟨w0,D0,hg,hs⟩=>⟨rm c N w0 D0,H.okS w0 D0,rfl,rfl,hs,λs' a' w' O=>⟨w0,D0,hg,O⟩⟩)
  (λid ops draw y Q R hr hl hR hP a w hs=>?_) b (GL fn l us caps) (aF2 it) _ h hlS (λe y' hq hl a' w' O=>?_) (λz a w ⟨hd,hj⟩=>?_) _ w ⟨w,D,⟨λ_=>h0,λe=>by cases e⟩,D,noE,x⟩
 .unfold rgL at hr;split at hr
  .exact hr.elim
  .rename_i hdr;have hdr:draw=false:=by simpa using hdr
   subst hdr;refine wpIn_region ?_;have:=vf H hR (λz a w h1 h2=>hP z a w ⟨h1,h2⟩) ops.toList 0 y (λi o ho=>by simpa using ho) hr hl a w hs;rw[qBm];simpa using this
 .have key:(y'.on=true->y'.k=it.L.length)->LeavesInM Fence.wide 0 c.P fn a'.tmps (λe W'=>((∃v,e=.returned v)/\(J it.L.length W'\/JX W'))\/∃z,e=.panicked z/\JP z W') a'.defers .returning w':=by
   intro hq;obtain⟨w0,D0,hg,D',E',hd⟩:=O;have hdef:a'.defers=[]:=hd.df.1.1 rfl;rw[hdef];have hgn:=hg.now H (gM hd);have hr:fn.results=#[]:=by
    apply yQ;exact wY.1 hres
   refine⟨.tuple #[],by simp[results,hr],.inl ⟨⟨_,rfl⟩,?_⟩⟩;cases T:y'.on with
   | true=>exact .inl (by rw[<- hq T];exact hgn.1 T)
   | false=>exact .inr (hgn.2 T)
  cases e<;>first
   | exact key hq
   | exact hq.elim
 .show LeavesInM _ _ _ _ _ _ _ _ _;rw[hd];exact .inr ⟨z,rfl,hj⟩
end Go.Eng
namespace Go.Eng
def oE_{p q:Prop}(h:p)(e:q=p:=by kernel_rfl): q:=of_eq e h
def oE{p q:Prop}(h:p)(e:q=p:=by kernel_rfl): q:=of_eq e h
open Go.RowKit
def aEG(l:List Nat)(s:St): St:={s with tm:=(List.range s.tm.length).map λi=>if l.contains i then s.tm.getD i .top else .top}
def lvA(L:List (Nat×List Nat))(A:Ann): Ann:=⟨λid s=>match L.lookup id with
 | none=>A.loop id s
 | some l=>match A.loop id s with
  | some sp=>some {sp with st:=λx=>aEG l (sp.st x)}
  | none=>none,A.pre,A.cut⟩
inductive AK where
 | val (t:Ty)
 | row (t:Ty)
 | ptr (t:Ty)
 | arr (t:Ty)
 | fn (g:FuncId) (t:Ty)
 | fnp (g:FuncId) (t:Ty)
 | fn0 (g:FuncId)
 | fnp0 (g:FuncId)
 | bp (t:Ty)
 | mp (nm:Nat)
 | pv (nm:Nat) (a b:Ty)
 | pvf (a b:Ty)
 | pvb (a b:Ty)
 | fnb (g:FuncId) (t:Ty)
@[reducible] def AK.den:AK->Type
 | .val t=>t.den
 | .row t=>t.den
 | .ptr t=>t.den
 | .arr t=>List t.den
 | .fn _ t=>t.den
 | .fnp _ t=>t.den
 | .fn0 _=>PUnit
 | .fnp0 _=>PUnit
 | .bp t=>t.den
 | .mp _=>PUnit
 | .pv _ a b=>a.den×b.den
 | .pvf a b=>a.den×b.den
 | .pvb a b=>a.den×b.den
 | .fnb _ t=>t.den
def AK.av:(k:AK)->k.den->AV
 | .val t,x=>.dat t x
 | .row t,x=>.agg (cellsOf t x)
 | .ptr t,x=>.ip t x
 | .arr t,x=>.ia t x
 | .fn g t,x=>.fn g [.ip t x]
 | .fnp g t,x=>.ipv (.fn g [.ip t x])
 | .fn0 g,_=>.fn g []
 | .fnp0 g,_=>.ipv (.fn g [])
 | .bp t,x=>.ipv (.ip t x)
 | .mp nm,_=>.ptr nm 1 0 0
 | .pv nm a b,x=>.ips [.ip a x.1,.ip b x.2,.ptr nm 1 0 0]
 | .pvf a b,x=>.ips [.ip a x.1,.ip b x.2,.top]
 | .pvb a b,x=>.ipv (.ips [.ip a x.1,.ip b x.2,.top])
 | .fnb g t,x=>.fn g [.ipv (.ip t x)]
def VX(t:Ty): AV->Option t.den
 | .ip t' x=>if h:t'=t then some (h▸x)else none
 | _=>none
def aF9(g:FuncId)(t:Ty): AV->Option t.den
 | .fn g' [a]=>if g'=g then VX t a else none
 | _=>none
def aCI(g:FuncId)(t:Ty): AV->Option t.den
 | .fn g' [.ipv a]=>if g'=g then VX t a else none
 | _=>none
def aF7(a b:Ty): AV->Option (a.den×b.den)
 | .ips [x,y,.top]=>match VX a x,VX b y with
  | some x,some y=>some (x,y)
  | _,_=>none
 | _=>none
def aCH(nm:Nat)(a b:Ty): AV->Option (a.den×b.den)
 | .ips [x,y,.ptr nm' 1 0 0]=>if nm'=nm then match VX a x,VX b y with
  | some x,some y=>some (x,y)
  | _,_=>none
  else none
 | _=>none
def Zh(g:FuncId): AV->Option PUnit
 | .fn g' []=>if g'=g then some ⟨⟩else none
 | _=>none
def AK.of:(k:AK)->AV->Option k.den
 | .val t,a=>a.as t
 | .row t,a=>match a with
  | .agg cs=>match cT t cs with
   | some (x,[])=>some x
   | _=>none
  | _=>none
 | .ptr t,a=>VX t a
 | .arr t,a=>match a with
  | .ia t' x=>if h:t'=t then some (h▸x)else none
  | _=>none
 | .fn g t,a=>aF9 g t a
 | .fnp g t,a=>match a with
  | .ipv b=>aF9 g t b
  | _=>none
 | .fn0 g,a=>Zh g a
 | .fnp0 g,a=>match a with
  | .ipv b=>Zh g b
  | _=>none
 | .bp t,a=>match a with
  | .ipv b=>VX t b
  | _=>none
 | .mp nm,a=>match a with
  | .ptr nm' 1 0 0=>if nm'=nm then some ⟨⟩else none
  | _=>none
 | .pv nm a b,x=>aCH nm a b x
 | .pvf a b,x=>aF7 a b x
 | .pvb a b,x=>match x with
  | .ipv y=>aF7 a b y
  | _=>none
 | .fnb g t,a=>aCI g t a
variable {a:AV} {t:Ty}
def nu{x:t.den}(h:VX t a=some x): a=.ip t x:=by
 unfold VX at h;split at h
 .split at h
  .rename_i e;subst e;cases h;rfl
  .cases h
 .cases h
variable {g:FuncId}
def VC{x:t.den}(h:aF9 g t a=some x): a=.fn g [.ip t x]:=by
 unfold aF9 at h;split at h
 .split at h
  .rename_i e;subst e;rw[nu h]
  .cases h
 .cases h
def Zg{x:t.den}(h:aCI g t a=some x): a=.fn g [.ipv (.ip t x)]:=by
 unfold aCI at h;split at h
 .split at h
  .rename_i e;subst e;rw[nu h]
  .cases h
 .cases h
def VA{t s:Ty}{x:t.den×s.den}(h:aF7 t s a=some x): a=.ips [.ip t x.1,.ip s x.2,.top]:=by
 unfold aF7 at h;split at h
 .split at h
  .rename_i e b;cases h;rw[nu e,nu b]
  .cases h
 .cases h
def Ze{b:Nat}{t s:Ty}{x:t.den×s.den}(h:aCH b t s a=some x): a=.ips [.ip t x.1,.ip s x.2,.ptr b 1 0 0]:=by
 unfold aCH at h;split at h
 .split at h
  .rename_i e;subst e;split at h
   .rename_i g f;cases h;rw[nu g,nu f]
   .cases h
  .cases h
 .cases h
def OQ{x:PUnit}(h:Zh g a=some x): a=.fn g []:=by
 unfold Zh at h;split at h
 .split at h
  .rename_i e;subst e;rfl
  .cases h
 .cases h
def AK.of_rel {P:Program} {C:Ctx} {k:AK} {a:AV} {x:k.den} {v:Value} (h:k.of a=some x) (f:a.rel P C v):(k.av x).rel P C v:=by
 cases k with
 | val t=>exact AV.as_rel h f
 | row t=>
  simp only[AK.of]at h;split at h
  .split at h
   .rename_i y A;cases h;obtain⟨us,e,g⟩:=f;obtain⟨u,j,G,g1,g2⟩:=cF A g;have i:j=[]:=g2;subst i G;exact⟨u++[],e,by rw[vY];exact cw g1⟩
   .cases h
  .cases h
 | ptr t=>rw[nu h]at f;exact f
 | arr t=>
  simp only[AK.of]at h;split at h
  .split at h
   .rename_i e;subst e;cases h;exact f
   .cases h
  .cases h
 | fn g t=>rw[VC h]at f;exact f
 | fnp g t=>
  simp only[AK.of]at h;split at h
  .rw[VC h]at f;exact f
  .cases h
 | fn0 g=>rw[OQ h]at f;exact f
 | fnp0 g=>
  simp only[AK.of]at h;split at h
  .rw[OQ h]at f;exact f
  .cases h
 | bp t=>
  simp only[AK.of]at h;split at h
  .rw[nu h]at f;exact f
  .cases h
 | mp z=>
  simp only[AK.of]at h;split at h
  .split at h
   .rename_i e;subst e;exact f
   .cases h
  .cases h
 | pv z a b=>rw[Ze h]at f;exact f
 | pvf a b=>rw[VA h]at f;exact f
 | pvb a b=>
  simp only[AK.of]at h;split at h
  .rw[VA h]at f;exact f
  .cases h
 | fnb g t=>rw[Zg h]at f;exact f
@[reducible] def AKs:List AK->Type
 | []=>PUnit
 | k::r=>k.den×AKs r
def avK: (l:List AK)->AKs l->List AV
 | [],_=>[]
 | k::r,x=>k.av x.1::avK r x.2
def ofK: (l:List AK)->List AV->Option (AKs l)
 | [],[]=>some ⟨⟩
 | k::r,a::as=>match k.of a,ofK r as with
  | some x,some y=>some (x,y)
  | _,_=>none
 | _,_=>none
variable {P:Program}
def fS{C:Ctx}: ∀{l:List AK} {as:List AV} {x:AKs l} {us:Lv},ofK l as=some x->AV.relL P C as us->AV.relL P C (avK l x) us
 | [],[],_,_,_,f=>f
 | k::r,a::as,x,us,h,f=>by
  simp only[ofK]at h;split at h
  .rename_i y z i g;cases h;obtain⟨u,b,e,g1,g2⟩:=f;exact⟨u,b,e,AK.of_rel i g1,fS g g2⟩
  .cases h
 | [],_::_,_,_,h,_=>by simp[ofK]at h
 | _::_,[],_,_,h,_=>by simp[ofK]at h
noncomputable def al(l:List AK)(pre:AKs l->Prop)(ret:AKs l->AV)(args:List AV)(m:Mem): Option jG:=match m with
 | []=>match ofK l args with
  | some x=>some ⟨pre x,ret x,[]⟩
  | none=>none
 | _=>none
variable {G:List (Nat×AV)} {f:FuncId} {l:List AK}
def ae{pre:AKs l->Prop}{ret:AKs l->AV}(h:∀x,ah P G f (avK l x) [] ⟨pre x,ret x,[]⟩):
  ∀args m c,al l pre ret args m=some c->ah P G f args m c:=by
 intro args m c b;unfold al at b;split at b
 .split at b
  .rename_i x e;cases b;exact(h x).args λC us _ g=>fS e g
  .cases b
 .cases b
def kOr(f0:FuncId)(k:List AV->Mem->Option jG)(K:Kt): Kt:=λf args m=>if f=f0 then k args m else K f args m
def af{i:FuncId}{k:List AV->Mem->Option jG}{K:Kt}(b:∀args m c,k args m=some c->ah P G i args m c)(g:ai P G K): ai P G (kOr i k K):=by
 intro f args m c h;unfold kOr at h;split at h
 .rename_i e;subst e;exact b args m c h
 .exact g f args m c h
def IP(l:List AK)(pre:AKs l->Prop)(ret:AKs l->AV)(b:AKs l->Blk)(args:List AV)(m:Mem): Option jG:=match m with
 | []=>match ofK l args with
  | some x=>some ⟨pre x,ret x,[(0,b x)]⟩
  | none=>none
 | _=>none
def yy{pre:AKs l->Prop}{ret:AKs l->AV}{b:AKs l->Blk}(h:∀x,ah P G f (avK l x) [] ⟨pre x,ret x,[(0,b x)]⟩):
  ∀args m c,IP l pre ret b args m=some c->ah P G f args m c:=by
 intro args m c e;unfold IP at e;split at e
 .split at e
  .rename_i x g;cases e;exact(h x).args λC us _ i=>fS g i
  .cases e
 .cases e
def Ao(l:List AK)(q:AKs l->zz)(args:List AV)(m:Mem): Option zz:=match m with
 | []=>match ofK l args with
  | some x=>some (q x)
  | none=>none
 | _=>none
def pOr(f0:FuncId)(k:List AV->Mem->Option zz)(KP:KPt): KPt:=λf args m=>if f=f0 then k args m else KP f args m
def kg{q:AKs l->zz}(h:∀x,dt P G f (avK l x) [] (q x)): ∀args m r,Ao l q args m=some r->dt P G f args m r:=by
 intro args m r b;unfold Ao at b;split at b
 .split at b
  .rename_i x e;cases b;exact λi j w D E us y v g u=>h x i j w D E us y v (fS e g) u
  .cases b
 .cases b
def jt{i:FuncId}{k:List AV->Mem->Option zz}{KP:KPt}(b:∀args m r,k args m=some r->dt P G i args m r)(g:bJ P G KP): bJ P G (pOr i k KP):=by
 intro f args m r h;unfold pOr at h;split at h
 .rename_i e;subst e;exact b args m r h
 .exact g f args m r h
def noP: KPt:=λ_ _ _=>none
def sU: bJ P G noP:=λf args m r h=>by cases h
def asVar(nm:Nat)(t:Ty): Mem->Option t.den
 | [(nm',.var [.dat t' x])]=>if nm'=nm then if h:t'=t then some (h▸x)else none else none
 | _=>none
variable {m:Mem}
def OP{b:Nat}{x:t.den}(h:asVar b t m=some x): m=[(b,.var [.dat t x])]:=by
 unfold asVar at h;split at h
 .split at h
  .rename_i e;split at h
   .rename_i f;subst e f;cases h;rfl
   .cases h
  .cases h
 .cases h
def ZS(nm:Nat)(t:Ty)(l:List AK)(pre:AKs l->t.den->Prop)(ret:AKs l->t.den->AV)(upd:AKs l->t.den->t.den)(args:List AV)(m:Mem): Option jG:=match asVar nm t m,ofK l args with
 | some xs,some x=>some ⟨pre x xs,ret x xs,[(nm,.var [.dat t (upd x xs)])]⟩
 | _,_=>none
def rQ{e:Nat}{pre:AKs l->t.den->Prop}{ret:AKs l->t.den->AV}{upd:AKs l->t.den->t.den}
  (h:∀x xs,ah P G f (avK l x) [(e,.var [.dat t xs])] ⟨pre x xs,ret x xs,[(e,.var [.dat t (upd x xs)])]⟩):∀args m c,ZS e t l pre ret upd args m=some c->ah P G f args m c:=by
 intro args m c b;unfold ZS at b;split at b
 .rename_i xs x j i;cases b;rw[OP j];exact(h x xs).args λC us _ g=>fS i g
 .cases b
def aBZ(nm:Nat)(t:Ty)(l:List AK)(q:AKs l->t.den->zz)(args:List AV)(m:Mem): Option zz:=match asVar nm t m,ofK l args with
 | some xs,some x=>some (q x xs)
 | _,_=>none
def wA{e:Nat}{q:AKs l->t.den->zz}(h:∀x xs,dt P G f (avK l x) [(e,.var [.dat t xs])] (q x xs)): ∀args m r,aBZ e t l q args m=some r->dt P G f args m r:=by
 intro args m r b;unfold aBZ at b;split at b
 .rename_i xs x A z;cases b;rw[OP A];exact λi j w D E us y v g u=>h x xs i j w D E us y v (fS z g) u
 .cases b
variable {p:Prop} {args:List AV} {A:Ann} {c:Cfg}
def zF{r:jG}(g:ai c.P c.G c.K)(i:bf c.P c.G c.KI)(hm:c.P.follows .mixedOrders=true)(h:p)(b:c.KP=λ_ _ _=>none:=by rfl)(e:evF c A f args m r=p:=by kernel_rfl): ah c.P c.G f args m r:=oL g i hm (oE h e) b
def zM{ret:AV}{upd:Mem}{q:zz}(g:ai c.P c.G c.K)(i:bf c.P c.G c.KI)(hm:c.P.follows .mixedOrders=true)(b:bJ c.P c.G c.KP)(h:p)(e:evM c A f args m ret upd q=p:=by kernel_rfl): ah c.P c.G f args m ⟨q.pre/\q.ok=true,ret,upd⟩/\dt c.P c.G f args m q:=sE g i hm b (oE h e)
def zC{ret:AV}{q:zz}(g:ai c.P c.G c.K)(i:bf c.P c.G c.KI)(hm:c.P.follows .mixedOrders=true)(b:bJ c.P c.G c.KP)(h:p)(e:evC c A f args ret q=p:=by kernel_rfl): ah c.P c.G f args [] ⟨q.pre/\q.ok=true,ret,[]⟩/\dt c.P c.G f args [] q:=GX g i hm b (oE h e)
def zG{A Ac:Ann}{r:jG}(g:ai c.P c.G c.K)(i:bf c.P c.G c.KI)(hm:c.P.follows .mixedOrders=true)(b:bJ c.P c.G c.KP)(h:p)(e:evG c A Ac f args r=p:=by kernel_rfl): ah c.P c.G f args [] r:=GV g i hm b (oE h e)
variable {it:jF}
def zI{A:Jv}(g:ai c.P c.G c.K)(i:bf c.P c.G c.KI)(hm:c.P.follows .mixedOrders=true)(h:p)(b:c.KP=λ_ _ _=>none:=by rfl)(e:evI c A f args it=p:=by kernel_rfl): mA c.P c.G f args it:=rX g i hm (oE h e) b
def zN{A:tF}(g:ai c.P c.G c.K)(i:bf c.P c.G c.KI)(hm:c.P.follows .mixedOrders=true)(h:p)(b:c.KP=λ_ _ _=>none:=by rfl)(e:aHO c A f args it=p:=by kernel_rfl): mA c.P c.G f args it:=KY g i hm (oE h e) b
def zL{A:Jv}(g:ai c.P c.G c.K)(i:bf c.P c.G c.KI)(hm:c.P.follows .mixedOrders=true)(h:p)(b:c.KP=λ_ _ _=>none:=by rfl)(e:evL c A f args it=p:=by kernel_rfl): Jt c.P c.G f args it:=KZ g i hm (oE h e) b
def zR{i:Kt}{A A0 Ac:Ann}{r:jG}(b:ai c.P [] i)(j:ai c.P c.G c.K)(u:bf c.P c.G c.KI)(hm:c.P.follows .mixedOrders=true)(g:bJ c.P c.G c.KP)(h:p)(e:evR c i A0 A Ac f args r=p:=by kernel_rfl): ah c.P c.G f args [] r:=GR b j u hm g (oE h e)
abbrev EO(P:Program)(G:List (Nat×AV))(f:FuncId)(k:List AV->Mem->Option jG): Prop:=∀args m c,k args m=some c->ah P G f args m c
def T3{A:Type}(a:A): Prop:=a=a/\True
def L5{A B:Type}(a:A)(b:B)(r:Prop): Prop:=a=a/\b=b/\r
def T7{A B:Type}(a:A)(b:B): Prop:=a=a/\b=b/\True
def L7{A B C:Type}(a:A)(b:B)(c:C)(r:Prop): Prop:=a=a/\b=b/\c=c/\r
def z6{A B C:Type}(a:A)(b:B)(c:C): Prop:=a=a/\b=b/\c=c/\True
def Q3{A B C D:Type}(a:A)(b:B)(c:C)(d:D)(r:Prop): Prop:=a=a/\b=b/\c=c/\d=d/\r
def z8{A B C D:Type}(a:A)(b:B)(c:C)(d:D): Prop:=a=a/\b=b/\c=c/\d=d/\True
def T2{A B C D E:Type}(a:A)(b:B)(c:C)(d:D)(e:E)(r:Prop): Prop:=a=a/\b=b/\c=c/\d=d/\e=e/\r
def v6{A B C D E:Type}(a:A)(b:B)(c:C)(d:D)(e:E): Prop:=a=a/\b=b/\c=c/\d=d/\e=e/\True
def T6{A B C D E F:Type}(a:A)(b:B)(c:C)(d:D)(e:E)(f:F)(r:Prop): Prop:=a=a/\b=b/\c=c/\d=d/\e=e/\f=f/\r
def z7{A B C D E F:Type}(a:A)(b:B)(c:C)(d:D)(e:E)(f:F): Prop:=a=a/\b=b/\c=c/\d=d/\e=e/\f=f/\True
def T4{A B C D E F G:Type}(a:A)(b:B)(c:C)(d:D)(e:E)(f:F)(g:G)(r:Prop): Prop:=a=a/\b=b/\c=c/\d=d/\e=e/\f=f/\g=g/\r
def k8{A B C D E F G:Type}(a:A)(b:B)(c:C)(d:D)(e:E)(f:F)(g:G): Prop:=a=a/\b=b/\c=c/\d=d/\e=e/\f=f/\g=g/\True
def T5{A B C D E F G H:Type}(a:A)(b:B)(c:C)(d:D)(e:E)(f:F)(g:G)(h:H)(r:Prop): Prop:=a=a/\b=b/\c=c/\d=d/\e=e/\f=f/\g=g/\h=h/\r
def w7{A B C D E F G H:Type}(a:A)(b:B)(c:C)(d:D)(e:E)(f:F)(g:G)(h:H): Prop:=a=a/\b=b/\c=c/\d=d/\e=e/\f=f/\g=g/\h=h/\True
def L3{A B C D E F G H I:Type}(a:A)(b:B)(c:C)(d:D)(e:E)(f:F)(g:G)(h:H)(i:I)(r:Prop): Prop:=a=a/\b=b/\c=c/\d=d/\e=e/\f=f/\g=g/\h=h/\i=i/\r
def w6{A B C D E F G H I:Type}(a:A)(b:B)(c:C)(d:D)(e:E)(f:F)(g:G)(h:H)(i:I): Prop:=a=a/\b=b/\c=c/\d=d/\e=e/\f=f/\g=g/\h=h/\i=i/\True
def L4(x r:Prop): Prop:=(x->x->x)/\r
def Q2(x r:Prop): Prop:=(x->x->x)/\(x->x->x)/\r
def Q4(x r:Prop): Prop:=(x->x->x)/\(x->x->x)/\(x->x->x)/\r
attribute [simp] L4 Q2 Q4 L5 L7 Q3 T2 T6 T4 T5 L3 T3 T7 z6 z8 v6 z7 k8 w7 w6
theorem qc: ((∀{A:Type} (a:A),T3 a=True)/\(∀{A B:Type} (a:A) (b:B) (r:Prop),L5 a b r=r)/\(∀{A B:Type} (a:A) (b:B),T7 a b=True)/\(∀{A B C:Type} (a:A) (b:B) (c:C) (r:Prop),L7 a b c r=r)/\(∀{A B C:Type} (a:A) (b:B) (c:C),z6 a b c=True)/\(∀{A B C D:Type} (a:A) (b:B) (c:C) (d:D) (r:Prop),Q3 a b c d r=r)/\(∀{A B C D:Type} (a:A) (b:B) (c:C) (d:D),z8 a b c d=True)/\(∀{A B C D E:Type} (a:A) (b:B) (c:C) (d:D) (e:E) (r:Prop),T2 a b c d e r=r)/\(∀{A B C D E:Type} (a:A) (b:B) (c:C) (d:D) (e:E),v6 a b c d e=True)/\(∀{A B C D E F:Type} (a:A) (b:B) (c:C) (d:D) (e:E) (f:F) (r:Prop),T6 a b c d e f r=r)/\(∀{A B C D E F:Type} (a:A) (b:B) (c:C) (d:D) (e:E) (f:F),z7 a b c d e f=True)/\(∀{A B C D E F G:Type} (a:A) (b:B) (c:C) (d:D) (e:E) (f:F) (g:G) (r:Prop),T4 a b c d e f g r=r)/\(∀{A B C D E F G:Type} (a:A) (b:B) (c:C) (d:D) (e:E) (f:F) (g:G),k8 a b c d e f g=True)/\(∀{A B C D E F G H:Type} (a:A) (b:B) (c:C) (d:D) (e:E) (f:F) (g:G) (h:H) (r:Prop),T5 a b c d e f g h r=r)/\(∀{A B C D E F G H:Type} (a:A) (b:B) (c:C) (d:D) (e:E) (f:F) (g:G) (h:H),w7 a b c d e f g h=True)/\(∀{A B C D E F G H I:Type} (a:A) (b:B) (c:C) (d:D) (e:E) (f:F) (g:G) (h:H) (i:I) (r:Prop),L3 a b c d e f g h i r=r)/\(∀{A B C D E F G H I:Type} (a:A) (b:B) (c:C) (d:D) (e:E) (f:F) (g:G) (h:H) (i:I),w6 a b c d e f g h i=True)/\(∀x r:Prop,L4 x r=r)/\(∀x r:Prop,Q2 x r=r)/\(∀x r:Prop,Q4 x r=r))/\((∀x y,Ea x true y=(x||y))/\(∀x y,Ea x y false=(x&&y))/\(∀{b:Prop}(α:Type)[Nonempty α],(∀_:α,b)↔b)/\(∀{b:Prop}(α:Prop)[Nonempty α],(α->b)↔b)/\(∀b,(true&&b)=b)/\(∀b,(b&&true)=b)/\(∀b,(false||b)=b)/\(∀b,(b||false)=b)/\(∀p,(True/\p)=p)/\(∀p,(p/\True)=p)/\(∀{a:Prop},a->a↔True)/\(∀α:Prop,(α->True)=True)/\(∀α:Type,(α->True)=True)/\(∀b,((!b)=true)=(b=false))/\(∀a b,((a||b)=true)=(a=true\/b=true))/\(∀{x y},(x||y)=false↔x=false/\y=false)/\(∀b,((!b)=false)=(b=true))/\(∀a b,((a&&b)=true)=(a=true/\b=true))/\(∀{x y},(x&&y)=false↔x=true->y=false)/\(∀b,(!!b)=b)/\(∀{α:Type}{p:α->Prop}{b},(∃a,p a/\a=b)↔p b)/\(∀{α:Type}{p:α->Prop}{b},(∃a,p a/\b=a)↔p b)/\(∀{α:Type}{p:α->Prop}{b},(∃a,a=b/\p a)↔p b)/\∀{α:Type}{p:α->Prop}{b},(∃a,b=a/\p a)↔p b):=⟨by simp[L4,Q2,Q4,L5,L7,Q3,T2,T6,T4,T5,L3,T3,T7,z6,z8,v6,z7,k8,w7,w6],⟨λx _=>by cases x<;>rfl,λx _=>by cases x<;>rfl,λα _=>gB α,λα _=>gB α,by simp⟩⟩
theorem qd:(∀n:Nat,(n:Int).toNat=n)/\(∀n,0+n=n)/\(∀n,n*1=n)/\(∀n:Nat,Int.ofNat n=n)/\(∀{p:Prop}[Decidable p],(decide p=true)=p)/\(∀{p:Prop}{x:Decidable p},decide p=false↔¬p)/\(∀{α:Type}[BEq α][LawfulBEq α]{a b:α},(a==b)=true↔a=b)/\(∀{α:Type}[BEq α][LawfulBEq α]{a b:α},(a != b)=true↔a≠b)/\(∀{α:Type}[BEq α][LawfulBEq α]{a b:α},(a==b)=false↔a≠b)/\∀{α:Type}[BEq α][LawfulBEq α]{a b:α},(a != b)=false↔a=b:=by simp;exact⟨kK,qDc,qAp,bne_eq_false_iff_eq⟩
def Z9{p q:Prop}(h:q)(e:p=q:=by conv=>lhs;simp only[qc,Dh,Eu,Dj,qd,Dt,Ec,Dw,Dp,Ei,Ee,Ed,Ez,Df,Eo,Dl,Dn,Es,Dy,Dx,Di,Dq,Eh,Fh,Dc,Dz,Dk,Eb,Ej,Du,Ey,Ew,Em,Ef,Fg,Fj,Fe,Et,En,Ep,Fb]): p:=e▸h
def Z8(i:Nat)(α:Type)(inv:α->Prop)(st:St->α->St)(μ:α->Nat): Ann:=⟨λid s=>if id=i then some {α:=α,inv:=inv,st:=st s,μ:=μ} else none,λ_ _=>none,λ_ _=>none⟩
abbrev Z0:=Value.slice none 0 0
abbrev Q1:=(0:Int)
end Go.Eng
