/- PeH15b PeH16 PeH17 PeH17b PeH17c PeH18 PeH21 PeH21b PeH21c PeH22 PeSvT -/
import Derived.Test.YtlakcpmgefpfaaaGreatDoorECPromA
import Derived.Test.YtlakcpmgefpfaaaGreatDoorECPromB
import Derived.RecoverIn
import Derived.KernelRfl
set_option linter.unusedSimpArgs false
set_option linter.unusedVariables false
namespace Go.Eng
open Go.RowKit
structure OkS (c:Cfg) (S:Base):Prop where
 P:c.P=S.P
 G:c.G=S.G
 K:ak S.P S.G c.K
 I:bv S.P S.G c.KI
 m:S.P.follows .mixedOrders=true
 rd:S.rd≠none->S.N<=S.sv.length
 nod:S.rd=none->S.nod=!c.rng
 KP:bO S.P S.G c.KP
theorem aH.mark {S:Base} {σ:Sig} {a:Act} {w:World} {D:Nat->Prop} {E:Nat->Ent} (h:aH S σ a w D E) (hn:S.nod=false) {k:Nat} (hk:S.w0.heap.size<=k) (hD:D k) (hw:w.heap[k]?=some (.deferred (some []))) (hne:∀d∈a.defers,d.target≠.collected k):
  aH S σ {a with defers:={target:=.collected k,args:=#[]}::a.defers} w D E:=
 ⟨h.sz,⟨⟨λe=>(by rw[hn]at e;cases e),⟨_::h.df.1.2.1.choose,yA (_::·) h.df.1.2.1.choose_spec⟩,List.Pairwise.cons (λd hd=>(hne d hd).symm) h.df.1.2.2⟩,λd hd=>by
  rcases zJ.1 hd with e | e
  .exact .inr ⟨k,e,hk,hD,hw⟩
  .exact h.df.2 d e⟩,h.tm,h.bl,h.own,h.inj,h.low,h.dlt,h.dlo,h.dhi,h.gl,h.svr,h.pv⟩
theorem U6{S:Base}{x:Code}{R:Exit->Act->World->Prop}{a:Act}{w:World}(h:x.wpIn S.F 0 S.P R a w): At S.P S.rd x R a w:=PI S.F_round S.F_fn S.F_depth h
def aDj(c:Cfg)(A:Ann)(x:Code): Prop:=∀(S:Base) (s:St) (Q:Exit->St->Prop) (R:Exit->Act->World->Prop),OkS c S->
  ev c A x s Q->s.tm.length=S.N->(∀e s',Q e s'->s'.tm.length=S.N->∀a w,Sim S s'.sig a w->R e a w)->∀a w,Sim S s.sig a w->At S.P S.rd x R a w
mutual
theorem BO{S:Base}{s:St}{a:Act}{w:World}{D:Nat->Prop}{E:Nat->Ent}(h:aH S s.sig a w D E): ∀{x:AV} {v:Value},x.rel S.P ⟨w,D,s.sig.m,E⟩ v->(Ua s.mem x).rel S.P ⟨w,oH s.sig.m E D,noM,noE⟩ v:=λ{x v} hx=>by
 have L:Later ⟨w,D,s.sig.m,E⟩ ⟨w,oH s.sig.m E D,noM,noE⟩:=⟨λ_ g=>.inl g,λ_ _=>rfl⟩;have forg:∀{y:AV} {u:Value},y.rel S.P ⟨w,D,s.sig.m,E⟩ u->(jH y).rel S.P ⟨w,oH s.sig.m E D,noM,noE⟩ u:=λ{y u} hy=>
  AV.rel_mono L (λnm hn=>by rw[fk]at hn;cases hn) (AV.rel_forg hy)
 unfold Ua;split
 .rename_i nm;split
  .rename_i cs hm;obtain⟨_,q⟩:=hx _ hm;obtain⟨_,q2,q3⟩:=q rfl;obtain⟨_,us,el,r1,r2⟩:=h.bl nm _ hm;refine⟨(E nm).b,0,us.toList,?_,.inr ⟨nm,_,hm,q2,rfl⟩,λj u hj=>?_,?_⟩
   .rw[q3];show Value.pointer (some ⟨(E nm).b,0*_+0,none⟩)=_;rw[yR]
   .have r1':w.heap[(E nm).b]?=some (.cells us el (0,0)):=r1;show w.cell? ⟨(E nm).b,0+j,none⟩=some u;rw[qDq w _ _ us el (0,0) r1',wY];simpa using hj
   .exact AV.relL_mono L (λnm hn=>by rw[dM]at hn;cases hn) (AV.relL_forg r2)
  .trivial
 .rename_i y;obtain⟨b,off,u,h1,h2,h3,h5⟩:=hx;exact⟨b,off,u,h1,.inl h2,h3,BO h h5⟩
 .exact forg hx
end
theorem BN{S:Base}{s:St}{a:Act}{w:World}{D:Nat->Prop}{E:Nat->Ent}(h:aH S s.sig a w D E): ∀{xs:List AV} {vs:Lv},AV.relL S.P ⟨w,D,s.sig.m,E⟩ xs vs->AV.relL S.P ⟨w,oH s.sig.m E D,noM,noE⟩ (FB s.mem xs) vs
 | [],_,hx=>hx
 | _::_,_,⟨u,us,e,h1,h2⟩=>⟨u,us,e,BO h h1,BN h h2⟩
theorem Jz{G:List (Nat×AV)}{g:Operand}{gf:FuncId}{s:St}{l:List AV}(h:HK G g gf s=some l): ∃caps,evT G s.sig.T g=.fn gf caps/\FB s.mem caps=l:=by
 unfold HK at h;split at h
 .rename_i gf' caps e;split at h
  .rename_i e2;subst e2;cases h;exact⟨caps,e,rfl⟩
  .cases h
 .cases h
theorem Jy{G:List (Nat×AV)}{g:Operand}{gf:FuncId}{caps:List AV}{m:Mem}{α:Type}{inv:α->Prop}{st:α->St}{t:Ty}{X:Prop}(h:N6 G g gf caps m inv st t X):
  X/\(AV.namesL caps≠[]->zc t=true/\∀x,inv x->HK G g gf (st x)=some (FB m caps)):=by
 unfold N6 at h;split at h
 .rename_i e;exact⟨h,λg=>(g (wO.1 e)).elim⟩
 .exact⟨h.2.2,λ_=>⟨h.1,h.2.1⟩⟩
theorem NB{P:Program}{w:World}{D:Nat->Prop}{t:Ty}{y:t.den}{u:Value}(h:zc t=true)(hr:ah w D t y [u]): AV.relL P ⟨w,D,noM,noE⟩ (EL t y) [u]:=by
 cases t with
 | pair a b=>cases h
 | _=>exact⟨u,[],rfl,hr,rfl⟩
theorem TC{t:Ty}{y:t.den}{n:Nat}(h:TA t n=true): (EL t y).length=n:=by
 cases t with
 | pair a b=>simp only[TA,xH]at h;subst h;rfl
 | _=>simp only[TA,qC,xH]at h;rw[h.1];rfl
theorem vD(t:Ty)(y:t.den): AV.namesL (EL t y)=[]:=by
 have one:∀(t:Ty) (x:t.den),(qq t x).names=[]:=λt x=>by
  unfold qq;split
  .exact ie t x
  .rfl
 cases t with
 | pair a b=>show(qq a y.1).names++((qq b y.2).names++[])=[];rw[one,one];rfl
 | _=>rfl
theorem CU: ∀(ps:List Tmp) (vs tm:List AV),(CV ps vs tm).length=tm.length
 | [],_,_=>by unfold CV;rfl
 | _::_,[],_=>rfl
 | p::ps,v::vs,tm=>by
  show(CV ps vs (tm.set p v)).length=_;rw[CU ps vs,yD]
theorem CS{P:Program}{C:Ctx}: ∀{ps:List Tmp} {vs tm:List AV} {us:Lv} {tmps:Array Value},ps.length=vs.length->AV.relL P C vs us->tm.length=tmps.size->(∀p∈ps,p<tm.length)->(∀t,(tm.getD t .top).rel P C (tmps.getD t undef))->
  ∀t,((CV ps vs tm).getD t .top).rel P C (((ps.zip us).foldl (λt (p,v)=>t.setIfInBounds p v) tmps).getD t undef)
 | [],[],_,_,_,_,hr,_,_,h=>by
  cases hr;exact h
 | p::ps,v::vs,tm,us,tmps,hl,hr,hs,hp,h=>by
  obtain⟨u,us',rfl,h1,h2⟩:=hr;show ∀t,((CV ps vs (tm.set p v)).getD t .top).rel P C (((ps.zip us').foldl (λt (p,v)=>t.setIfInBounds p v) (tmps.setIfInBounds p u)).getD t undef);have hpt:=hp p (by simp);refine CS (by simpa using hl) h2 (by simpa using hs) (λq hq=>by rw[yD];exact hp q (by simp[hq])) λt=>?_
  by_cases e:t=p
  .subst e;have e1:(tm.set t v).getD t .top=v:=by rw[qA,qBy hpt];rfl
   have e2:(tmps.setIfInBounds t u).getD t undef=u:=by simp[Array.getD,<- hs,hpt]
   rw[e1,e2];exact h1
  .have e1:(tm.set p v).getD t .top=tm.getD t .top:=by
    simp only[qA];rw[qBc (λh=>e h.symm)]
   have e2:(tmps.setIfInBounds p u).getD t undef=tmps.getD t undef:=by
    simp only[qK,zB];rw[if_neg (λh=>e h.symm)]
   rw[e1,e2];exact h t
 | [],_::_,_,_,_,hl,_,_,_,_=>by cases hl
 | _::_,[],_,_,_,hl,_,_,_,_=>by cases hl
theorem Ug{c:Cfg}{G:List (Nat×AV)}{P:Program}(hI:bv P G c.KI){m:Mem}{gf:FuncId}{caps:List AV}{it:jr}(hgf:gf<uN)(hki:aEF c m gf caps=some it)
  (hpre:it.pre) (l:Nat) (J:Nat->World->(Nat->Prop)->(Nat->Prop)->Prop) (JX:World->(Nat->Prop)->(Nat->Prop)->Prop) (JP:List PanicEntry->World->(Nat->Prop)->(Nat->Prop)->Prop) (w:World) (D:Nat->Prop) (us:Lv)
  (hD:∀b,D b->b<w.heap.size) (hG:jX P ⟨w,D,noM,noE⟩ G) (hcaps:AV.namesL caps=[]->AV.relL P ⟨w,D,noM,noE⟩ caps us)
  (hlent:AV.namesL caps≠[]->(∀k w1 D1 V,J k w1 D1 V->∃D:Nat->Prop,(∀b,D b->b<w1.heap.size)/\jX P ⟨w1,D,noM,noE⟩ G/\AV.relL P ⟨w1,D,noM,noE⟩ (FB m caps) us)/\zc it.t=true/\∀w1 D1 V,JX w1 D1 V->∃D:Nat->Prop,(∀b,D b->b<w1.heap.size)/\jX P ⟨w1,D,noM,noE⟩ G)
  (c1:∀k w1 w2 D1 V,J k w1 D1 V->Below w1.heap.size w1 w2->∀X:Nat->Prop,J k w2 (λb=>D1 b\/(gk w1 w2 b/\¬X b)) (λb=>V b\/(gk w1 w2 b/\X b)))
  (c2:∀k w1 (D1 D2 V V2:Nat->Prop),J k w1 D1 V->(∀b,D2 b->D1 b)->(∀b,V2 b->V b)->J k w1 D2 V2)
  (c3:∀k w1 w2 D1 V,J k w1 D1 V->Chg V w1 w2->w2.heap.size=w1.heap.size->J k w2 D1 V)
  (x1:∀w1 w2 D1 V,JX w1 D1 V->Below w1.heap.size w1 w2->∀X:Nat->Prop,JX w2 (λb=>D1 b\/(gk w1 w2 b/\¬X b)) (λb=>V b\/(gk w1 w2 b/\X b)))
  (x2:∀w1 (D1 D2 V V2:Nat->Prop),JX w1 D1 V->(∀b,D2 b->D1 b)->(∀b,V2 b->V b)->JX w1 D2 V2)
  (x3:∀w1 w2 D1 V,JX w1 D1 V->Chg V w1 w2->w2.heap.size=w1.heap.size->JX w2 D1 V)
  (p3:∀ch w1 w2 D1 V,JP ch w1 D1 V->Chg V w1 w2->w2.heap.size=w1.heap.size->JP ch w2 D1 V)
  (hy:∀k y W D1 V vs,it.L[k]?=some y->J k W D1 V->(∀b,D1 b->b<W.heap.size)->AV.relL P ⟨W,D1,noM,noE⟩ (EL it.t y) vs->YieldAt Fence.wide 0 P l vs.toArray W λe W' =>
   W.heap.size<=W'.heap.size/\(∀b,D1 b\/V b->W'.heap[b]?=W.heap[b]?)/\((e=.returned (.bool true)/\J (k+1) W' D1 V)\/(e=.returned (.bool false)/\JX W' D1 V)\/∃ch,e=.panicked ch/\JP ch W' D1 V))
  (h0:J 0 w D noV):
  CallsIn Fence.wide 0 P gf (#[.func (.yield l) #[] #[]]++us.toArray) w λe W'=>((∃v,e=.returned v)/\((∃D2,J it.L.length W' D2 noV)\/∃D2,JX W' D2 noV))\/∃ch,e=.panicked ch/\∃D2 V2,JP ch W' D2 V2:=by
 unfold aEF at hki;split at hki
 .rename_i e;exact hI.at hgf hki hpre l J JX JP w D us hD hG (hcaps (wO.1 e)) c1 c2 c3 x1 x2 x3 p3 hy h0
 .rename_i e;obtain⟨l1,lf,l2⟩:=hlent λg=>e (wO.2 g)
  refine(hI.lent hki hpre l (λk W=>J k W noV noV) (λW=>JX W noV noV) (λch W=>JP ch W noV noV) w us (λk w1 h=>l1 k w1 _ _ h) (λw1 h=>l2 w1 _ _ h)
   (λk w1 w2 h hb=>c2 _ _ _ _ _ _ (c1 k w1 w2 _ _ h hb noV) (λ_ g=>g.elim) λ_ g=>g.elim) (λw1 w2 h hb=>x2 _ _ _ _ _ (x1 w1 w2 _ _ h hb noV) (λ_ g=>g.elim) λ_ g=>g.elim)
   (λk y W u h1 h2 h3=>?_) (c2 _ _ _ _ _ _ h0 (λ_ g=>g.elim) λ_ g=>g)).mono ?_
  .obtain⟨fn,tmps,as,body,g1,g2⟩:=hy k y W noV noV [u] h1 h2 (λ_ g=>g.elim) (NB lf h3);exact⟨fn,tmps,as,body,g1,g2.mono λe W' g=>⟨g.1,g.2.2⟩⟩
  .rintro e W' (⟨g1,g2⟩ | ⟨ch,g1,g2⟩)
   .exact .inl ⟨g1,g2.imp (λg=>⟨_,g⟩) λg=>⟨_,g⟩⟩
   .exact .inr ⟨ch,g1,_,_,g2⟩
theorem aBB{c:Cfg}{A:Ann}{g:Operand}{ps:Array Tmp}{as b:Code}(iha:aDj c A as)(ihb:aDj c A b): aDj c A (.rangeFunc g ps as b):=by
 intro S s Q R H h hl hR a w hs;unfold ev at h;split at h
 case h_2=>exact h.elim
 rename_i gf caps rid hev hid;obtain⟨pl,hps⟩:∃pl,ps.toList=pl:=⟨_,rfl⟩;rw[hps]at h;split at h
 case h_2=>exact h.elim
 rename_i it sp hki hsp;split at h
 case isFalse=>exact h.elim
 rename_i hc;obtain⟨⟨hpre,⟨x0,i1,i2,i3⟩,hround,hdone⟩,hlo⟩:=Jy h;simp only[Up,qC,qE]at hc;obtain⟨⟨⟨⟨⟨hgoes,hgf⟩,hsv⟩,hrng⟩,hone⟩,hp⟩:=hc;have hp:∀p∈pl,p<s.tm.length:=λp g=>wF (qM.1 hp p g)
 obtain⟨D,E,hd⟩:=hs;have hrd:S.rd=none:=by
  cases hr:S.rd with
  | none=>rfl
  | some l=>
   have h1:=H.rd (by rw[hr];simp);have h2:=AV.relL_length hd.svr;have e:s.sig.sv=s.sv:=rfl;rw[e]at h2;omega
 have hnod:S.nod=false:=by rw[H.nod hrd,hrng];rfl
 have hgv:=dN hd g;rw[<- H.G,hev]at hgv;obtain⟨cs,hga,hcaps⟩:=hgv;unfold leP at i3;split at i3
 case h_2=>exact i3.elim
 rename_i ns0 hle0;have hlen0:=mD hle0;obtain⟨D1,E1,hd1,up1,dn1,bl1⟩:=xo hd hle0 (bL i3).1;obtain⟨dk,hdk⟩:∃dk,dk=w.heap.size:=⟨_,rfl⟩;rw[hrd];refine at_range λfn hfn=>?_
 obtain⟨rec,hrec⟩:∃rec:LoopState->Option Code->Loop,rec=λst pe=>{state:=st,pending:=pe,fn,tmps:=a.tmps,params:=ps,assign:=as,body:=b,defers:=w.heap.size}:=⟨_,rfl⟩
 obtain⟨W1,hW1⟩:∃W1,(w.alloc (.deferred (some []))).alloc (.loop (rec .ready none))=W1:=⟨_,rfl⟩;have hsz1:W1.heap.size=w.heap.size+2:=by rw[<- hW1];simp
 have hL1:W1.heap[w.heap.size+1]?=some (.loop (rec .ready none)):=by
  rw[<- hW1];have:=World.alloc_heap_new (w.alloc (.deferred (some []))) (.loop (rec .ready none));rwa [zO]at this
 have hK1:W1.heap[w.heap.size]?=some (.deferred (some [])):=by
  rw[<- hW1];exact(Below.heap_alloc _ _ _ (by simp)).trans (World.alloc_heap_new w _)
 have hb1:Below w.heap.size w W1:=by
  rw[<- hW1];exact((Below.refl _ w).alloc (qJ _) _).alloc (by simp) _
 have hbase:S.w0.heap.size<=w.heap.size:=hd1.low.size;have hne1:∀d∈a.defers,d.target≠.collected w.heap.size:=λd hd e=>by
  rcases hd1.df.2 d hd with⟨_,g⟩ | ⟨k,g1,_,g3,_⟩
  .exact g _ e
  rw[g1]at e;injection e with e
  have:=hd1.dlt k g3;omega
 have hd2:aH S (sp.st x0).sig {a with defers:={target:=.collected w.heap.size,args:=#[]}::a.defers} W1 (λb=>D1 b\/b=w.heap.size) E1:=by
  refine(hd1.world (D':=λb=>D1 b\/b=w.heap.size) hb1 (λb=>⟨λg=>?_,λg=>?_⟩) (λb g=>?_)).mark hnod hbase (.inr rfl) hK1 hne1
  .rcases g with g | g
   .exact .inl g
   .exact .inr ⟨⟨by omega,by omega⟩,.inr g⟩
  .rcases g with g | ⟨_,g⟩
   .exact .inl g
   .exact g
  .rcases g with g | g
   .have:=hd1.dlt b g;omega
   .omega
 refine⟨w.heap.size+1,[{target:=.collected w.heap.size,args:=#[]}],W1,{target:=.fn (.func gf) cs.toArray,args:=#[.func (.yield (w.heap.size+1)) #[] #[]]},W1,gf,
  #[.func (.yield (w.heap.size+1)) #[] #[]]++cs.toArray,W1,?_,?_,?_,?_⟩
 .rw[<- hW1,hrec];exact run_enterLoop_outer _ _ _ _ _
 .simp only[resolve,hga];simp[go_sem]
 .have:=jG (P:=S.P) (by rw[<- H.P];exact hgoes) W1 (#[.func (.yield (w.heap.size+1)) #[] #[]]++cs.toArray);simp only[invoke];exact this
 have hcaps1:AV.namesL caps=[]->AV.relL S.P ⟨W1,(λb=>D1 b\/b=w.heap.size),noM,noE⟩ caps cs:=λhnm=>
  AV.relL_mono (C:=⟨w,D,s.sig.m,E⟩) (C':=⟨W1,(λb=>D1 b\/b=w.heap.size),noM,noE⟩) ⟨λb g=>.inl (up1 b g),λb g=>hb1.block b (hd.dlt b g)⟩ (λk hk=>by rw[hnm]at hk;cases hk) hcaps
 have hl2:∀b,D1 b\/b=w.heap.size->b≠w.heap.size+1:=λb g e=>by
  rcases g with g | g
  .have:=hd1.dlt b g;omega
  .omega
 have he2:¬aG (sp.st x0).sig.m E1 (w.heap.size+1):=λg0=>by
  have:=(hd1.ownAll g0).2.1;omega
 have hsz0:a.tmps.size=S.N:=hd.sz;obtain⟨J,hJ⟩:∃J:Nat->World->(Nat->Prop)->(Nat->Prop)->Prop,J=λk W Dit V=>∃x D E,sp.inv x/\sp.μ x=k/\
   aH S (sp.st x).sig {a with defers:={target:=.collected w.heap.size,args:=#[]}::a.defers} W D E/\(∀b,Dit b->D b)/\
   W.heap[w.heap.size+1]?=some (.loop (rec .ready none))/\¬D (w.heap.size+1)/\¬aG (sp.st x).sig.m E (w.heap.size+1)/\(sp.st x).tm.length=S.N/\(∀b,V b->w.heap.size+1<b/\b<W.heap.size/\¬D b/\¬aG (sp.st x).sig.m E b):=⟨_,rfl⟩
 obtain⟨JX,hJX⟩:∃JX:World->(Nat->Prop)->(Nat->Prop)->Prop,JX=λW Dit V=>∃cc s2 D E,((cc=Code.ret/\Q .ret s2)\/∃i,cc=Code.exit i/\Q (.exit i) s2)/\s2.tm.length=S.N/\
   aH S s2.sig {a with defers:={target:=.collected w.heap.size,args:=#[]}::a.defers} W D E/\(∀b,Dit b->D b)/\
   W.heap[w.heap.size+1]?=some (.loop (rec .done (some cc)))/\¬D (w.heap.size+1)/\¬aG s2.sig.m E (w.heap.size+1)/\(∀b,V b->w.heap.size+1<b/\b<W.heap.size/\¬D b/\¬aG s2.sig.m E b):=⟨_,rfl⟩
 obtain⟨JP,hJP⟩:∃JP:List PanicEntry->World->(Nat->Prop)->(Nat->Prop)->Prop,JP=λch W _ V=>∃s2 D E,Q (.panic ch) s2/\s2.tm.length=S.N/\
   aH S s2.sig {a with defers:={target:=.collected w.heap.size,args:=#[]}::a.defers} W D E/\(∀b,V b->w.heap.size+1<b/\b<W.heap.size/\¬D b/\¬aG s2.sig.m E b):=⟨_,rfl⟩
 have grow:∀{W W2:World} {σ:Sig} {D:Nat->Prop} {E:Nat->Ent},aH S σ {a with defers:={target:=.collected w.heap.size,args:=#[]}::a.defers} W D E->Below W.heap.size W W2->∀X:Nat->Prop,
   aH S σ {a with defers:={target:=.collected w.heap.size,args:=#[]}::a.defers} W2 (λb=>D b\/(gk W W2 b/\¬X b)) E:=λ{W W2 σ D E} h hb X=>
  h.world (D':=λb=>D b\/(gk W W2 b/\¬X b)) hb (λb=>⟨λg=>g.imp id λg=>⟨g.1,.inr g⟩,λg=>g.elim .inl (·.2)⟩) λb g=>by
   rcases g with g | g
   .exact qN (h.dlt b g) hb.size
   .exact g.1.2
 have notAll:∀{W:World} {σ:Sig} {D:Nat->Prop} {E:Nat->Ent},aH S σ {a with defers:={target:=.collected w.heap.size,args:=#[]}::a.defers} W D E->∀b,W.heap.size<=b->¬aG σ.m E b:=λh b hb g=>by
  have:=(h.ownAll g).2.1;omega
 have hbase0:S.w0.heap.size<=w.heap.size:=hbase;refine(Ug H.I hgf hki hpre (w.heap.size+1) J JX JP W1 (λb=>D1 b\/b=w.heap.size) cs (λb g=>?_) ?_ hcaps1 (λhnm=>⟨?_,(hlo hnm).1,?_⟩) ?_ ?_ ?_ ?_ ?_ ?_ ?_ ?_ ?_).mono ?_
 .rcases g with g | g
  .have:=hd1.dlt b g;omega
  .omega
 .exact jX.mono (C:=⟨w,D,s.sig.m,E⟩) (C':=⟨W1,(λb=>D1 b\/b=w.heap.size),noM,noE⟩) ⟨λb g=>.inl (up1 b g),λb g=>hb1.block b (hd.dlt b g)⟩ hd.gl
 .subst hJ;rintro k W Dit V ⟨x,D',E',j1,j2,j3,_⟩;obtain⟨capx,q1,q2⟩:=Jz ((hlo hnm).2 x j1);have hv:=dN j3 g;rw[<- H.G,q1]at hv;obtain⟨cs',g1,g2⟩:=hv;have g1':a.eval g=.func (.func gf) #[] cs'.toArray:=g1;rw[hga]at g1';have e:cs=cs':=by
   have:=(Value.func.injEq ..▸g1':_/\_/\_).2.2;simpa using yA Array.toList this
  subst e;refine⟨oH (sp.st x).sig.m E' D',λb hb=>?_,jX.mono (C:=⟨W,D',(sp.st x).sig.m,E'⟩) (C':=⟨W,oH (sp.st x).sig.m E' D',noM,noE⟩) ⟨λ_ g=>.inl g,λ_ _=>rfl⟩ j3.gl,q2▸BN j3 g2⟩;rcases hb with hb | ⟨nm,blk,b1,b2,rfl⟩
  .exact j3.dlt b hb
  .exact(j3.own nm blk b1 b2).2.1
 .subst hJX;rintro W Dit V ⟨cc,s2,D',E',j1,j2,j3,_⟩;exact⟨D',j3.dlt,jX.mono (C:=⟨W,D',s2.sig.m,E'⟩) (C':=⟨W,D',noM,noE⟩) ⟨λ_ g=>g,λ_ _=>rfl⟩ j3.gl⟩
 .subst hJ;rintro k W W2 Dit V ⟨x,D',E',j1,j2,j3,j4,j5,j6,j7,j8,j9⟩ hb X;have hlt:w.heap.size+1<W.heap.size:=(vK.1 j5).1;refine⟨x,_,E',j1,j2,grow j3 hb X,λb g=>g.imp (j4 b) (λg=>g),(hb.block _ hlt).trans j5,λg=>?_,j7,j8,λb g=>?_⟩
  .rcases g with g | g
   .exact j6 g
   .have:=g.1.1;omega
  .rcases g with g | ⟨g,gx⟩
   .obtain⟨v1,v2,v3,v4⟩:=j9 b g;refine⟨v1,qN v2 hb.size,λg2=>?_,v4⟩;rcases g2 with g2 | g2
    .exact v3 g2
    .have:=g2.1.1;omega
   .refine⟨qN hlt g.1,g.2,λg2=>?_,notAll j3 b g.1⟩;rcases g2 with g2 | g2
    .have:=j3.dlt b g2;have:=g.1;omega
    .exact g2.2 gx
 .subst hJ;rintro k W Dit Dit2 V V2 ⟨x,D',E',j1,j2,j3,j4,j5,j6,j7,j8,j9⟩ hsub hsubV;exact⟨x,D',E',j1,j2,j3,λb g=>j4 b (hsub b g),j5,j6,j7,j8,λb g=>j9 b (hsubV b g)⟩
 .subst hJ;rintro k W W2 Dit V ⟨x,D',E',j1,j2,j3,j4,j5,j6,j7,j8,j9⟩ hc hsz;have hlt:w.heap.size+1<W.heap.size:=(vK.1 j5).1;refine⟨x,D',E',j1,j2,j3.lay hc hsz λb g=>?_,j4,(hc.block _ hlt λg=>?_).trans j5,j6,j7,j8,λb g=>?_⟩
  .obtain⟨v1,v2,v3,v4⟩:=j9 b g;exact⟨by omega,v3,v4⟩
  .have:=(j9 _ g).1;omega
  .rw[hsz];exact j9 b g
 .subst hJX;rintro W W2 Dit V ⟨cc,s2,D',E',j1,j2,j3,j4,j5,j6,j7,j9⟩ hb X;have hlt:w.heap.size+1<W.heap.size:=(vK.1 j5).1;refine⟨cc,s2,_,E',j1,j2,grow j3 hb X,λb g=>g.imp (j4 b) (λg=>g),(hb.block _ hlt).trans j5,λg=>?_,j7,λb g=>?_⟩
  .rcases g with g | g
   .exact j6 g
   .have:=g.1.1;omega
  .rcases g with g | ⟨g,gx⟩
   .obtain⟨v1,v2,v3,v4⟩:=j9 b g;refine⟨v1,qN v2 hb.size,λg2=>?_,v4⟩;rcases g2 with g2 | g2
    .exact v3 g2
    .have:=g2.1.1;omega
   .refine⟨qN hlt g.1,g.2,λg2=>?_,notAll j3 b g.1⟩;rcases g2 with g2 | g2
    .have:=j3.dlt b g2;have:=g.1;omega
    .exact g2.2 gx
 .subst hJX;rintro W Dit Dit2 V V2 ⟨cc,s2,D',E',j1,j2,j3,j4,j5,j6,j7,j9⟩ hsub hsubV;exact⟨cc,s2,D',E',j1,j2,j3,λb g=>j4 b (hsub b g),j5,j6,j7,λb g=>j9 b (hsubV b g)⟩
 .subst hJX;rintro W W2 Dit V ⟨cc,s2,D',E',j1,j2,j3,j4,j5,j6,j7,j9⟩ hc hsz;have hlt:w.heap.size+1<W.heap.size:=(vK.1 j5).1;refine⟨cc,s2,D',E',j1,j2,j3.lay hc hsz λb g=>?_,j4,(hc.block _ hlt λg=>?_).trans j5,j6,j7,λb g=>?_⟩
  .obtain⟨v1,v2,v3,v4⟩:=j9 b g;exact⟨by omega,v3,v4⟩
  .have:=(j9 _ g).1;omega
  .rw[hsz];exact j9 b g
 .subst hJP;rintro ch W W2 Dit V ⟨s2,D',E',j1,j2,j3,j9⟩ hc hsz;refine⟨s2,D',E',j1,j2,j3.lay hc hsz λb g=>?_,λb g=>?_⟩
  .obtain⟨v1,v2,v3,v4⟩:=j9 b g;exact⟨by omega,v3,v4⟩
  .rw[hsz];exact j9 b g
 ·
  intro k y W Dit V vs hy hj hltd hu;rw[hJ]at hj;obtain⟨x,D',E',j1,j2,j3,j4,j5,j6,j7,j8,j9⟩:=hj;have hlt:w.heap.size+1<W.heap.size:=(vK.1 j5).1;have hpl:pl.length=(EL it.t y).length:=(TC hone).symm;have hvl:vs.length=pl.length:=by rw[hpl];exact(AV.relL_length hu).symm
  have hpsz:ps.size=vs.toArray.size:=by
   have e:ps.size=pl.length:=by rw[<- hps,vI]
   rw[e,gI,hvl]
  have hyl:=run_yield (P:=S.P) (args:=vs.toArray) j5 (by rw[hrec];simpa using hpsz.symm);rw[hrec]at hyl;obtain⟨tq,htq⟩:∃tq:Array Value,tq=(pl.zip vs).foldl (λt (p,v)=>t.setIfInBounds p v) a.tmps:=⟨_,rfl⟩;have htm:(ps.zip vs.toArray).foldl (λt (p,v)=>t.setIfInBounds p v) a.tmps=tq:=by
   have e:ps=pl.toArray:=by apply yB;rw[hps]
   rw[e,htq,List.zip_toArray,List.foldl_toArray]
  refine⟨fn,_,as,b,hyl,?_⟩;rw[htm];refine Hn hfn ?_;have hu':AV.relL S.P ⟨W,D',(sp.st x).sig.m,E'⟩ (EL it.t y) vs:=AV.relL_mono (C:=⟨W,Dit,noM,noE⟩) (C':=⟨W,D',(sp.st x).sig.m,E'⟩) ⟨j4,λ_ _=>rfl⟩ (λnm g=>by rw[vD]at g;cases g) hu;have tqs:tq.size=a.tmps.size:=by
   rw[htq];generalize a.tmps=t0;induction pl.zip vs generalizing t0 with
   | nil=>rfl
   | cons q r ih=>rw[xQ,ih];simp
  have tms:∀t,((Ho pl it.t y (sp.st x)).sig.T t).rel S.P ⟨W,D',(sp.st x).sig.m,E'⟩ (tq.getD t undef):=by
   rw[htq];exact CS hpl hu' (by rw[j8,hsz0]) (λp g=>by rw[j8,<- hl];exact hp p g) j3.tm
  have svs:AV.relL S.P ⟨W,D',(sp.st x).sig.m,E'⟩ (sp.st x).tm a.tmps.toList:=by
   refine AV.relL_mk (by rw[j8,vI,hsz0]) λi av v hi hv=>?_
   have:=j3.tm i;have e1:(sp.st x).sig.T i=av:=by show(sp.st x).tm.getD i .top=av;rw[qA,hi];rfl
   have e2:a.tmps.getD i undef=v:=by
    rw[qK];simp only[zX]at hv;rw[hv];rfl
   rw[e1]at this;simpa only[e2]using this
  have hent:=j3.enter (w.heap.size+1) (tm:=(Ho pl it.t y (sp.st x)).sig.T) (tmps:=tq) (by rw[tqs];exact hsz0) tms (AV.relL_append svs j3.svr);obtain⟨Sr,hSr⟩:∃Sr:Base,Sr={P:=S.P,w0:=W,D0:=D',N:=S.N,O:=aG (sp.st x).sig.m E',G:=S.G,sv:=a.tmps.toList++S.sv,rd:=some (w.heap.size+1),nod:=true}:=⟨_,rfl⟩;rw[<- hSr]at hent;have hNpos:S.N<=(a.tmps.toList++S.sv).length:=by
   rw[qG,vI,hsz0];omega
  have HOr:OkS c Sr:=by
   subst hSr;exact⟨H.P,H.G,H.K,H.I,H.m,λ_=>hNpos,λh=>(by cases h),H.KP⟩
  have hrr:Sr.rd=some (w.heap.size+1):=by rw[hSr]
  have hrx:=hround x y j1 (by rw[j2];exact hy);have hlr:(Ho pl it.t y (sp.st x)).tm.length=Sr.N:=by
   subst hSr;show(CV pl (EL it.t y) (sp.st x).tm).length=S.N;rw[CU];exact j8
  rw[<- hrr];have hPr:Sr.P=S.P:=by rw[hSr]
  rw[<- hPr];refine iha Sr _ _ _ HOr hrx hlr (λe s1 hq hl1 a1 w1 hs1=>?_) _ W ⟨D',E',hent⟩;cases e<;>first
   | exact hq.elim
   | skip
  obtain⟨D3,E3,h3⟩:=hs1;have nl3:¬D3 (w.heap.size+1):=λg=>by
   have:=h3.dhi _ g;rw[hSr]at this;rcases this with g1 | g1 | g1
   .exact j6 g1
   .simp only at g1;omega
   .exact j7 g1
  have ne3:¬aG s1.sig.m E3 (w.heap.size+1):=λg0=>by
   have:=(h3.ownAll g0).1;rw[hSr]at this;rcases this with g4 | g4
   .simp only at g4;omega
   .exact j7 g4
  have hl3:w1.heap[w.heap.size+1]?=some (.loop (rec .ready none)):=by
   have:=h3.low.block (w.heap.size+1) (by rw[hSr];exact hlt) (by rw[hSr];exact j7);rw[this,hSr];exact j5
  have out3:∀q,q<W.heap.size->¬D' q->¬aG (sp.st x).sig.m E' q->¬D3 q/\¬aG s1.sig.m E3 q/\w1.heap[q]?=W.heap[q]?:=λq q1 q2 q3=>by
   refine⟨λg=>?_,λg=>?_,?_⟩
   .have:=h3.dhi _ g;rw[hSr]at this;rcases this with g1 | g1 | g1
    .exact q2 g1
    .simp only at g1;omega
    .exact q3 g1
   .have:=(h3.ownAll g).1;rw[hSr]at this;rcases this with g4 | g4
    .simp only at g4;omega
    .exact q3 g4
   .have:=h3.low.block q (by rw[hSr];exact q1) (by rw[hSr];exact q3);rw[this,hSr]
  have hdef3:a1.defers=[]:=(h3.df.1.1 (by rw[hSr])).trans (by rw[hSr]);have hlt3:w.heap.size+1<w1.heap.size:=(vK.1 hl3).1;have hbr:=run_beginRound (P:=S.P) hl3 (by rw[hrec]);refine⟨_,hPr▸hbr,?_⟩;have h4:=h3.again (.loop {rec .ready none with state:=.busy}) (by rw[hSr]) hdef3 nl3 ne3
  obtain⟨Sq,hSq⟩:∃Sq:Base,Sq={Sr with w0:=w1.putObj (w.heap.size+1) (.loop {rec .ready none with state:=.busy}),D0:=D3,O:=aG s1.sig.m E3}:=⟨_,rfl⟩;rw[<- hSq]at h4;have HOq:OkS c Sq:=by
   rw[hSq];exact⟨HOr.P,HOr.G,HOr.K,HOr.I,HOr.m,HOr.rd,HOr.nod,HOr.KP⟩
  have hrq:Sq.rd=Sr.rd:=by rw[hSq]
  have hPq:Sq.P=Sr.P:=by rw[hSq]
  rw[<- hrq,<- hPq];have hlq:s1.tm.length=Sq.N:=by rw[hSq];exact hl1
  refine ihb Sq _ _ _ HOq hq hlq (λe s2 hq2 hl2 a2 w2 hs2=>?_) _ _ ⟨D3,E3,h4⟩;obtain⟨D5,E5,h5⟩:=hs2;have nl5:¬D5 (w.heap.size+1):=λg=>by
   have:=h5.dhi _ g;rw[hSq]at this;rcases this with g1 | g1 | g1
   .exact nl3 g1
   .simp only[World.putObj_size]at g1;omega
   .exact ne3 g1
  have ne5:¬aG s2.sig.m E5 (w.heap.size+1):=λg0=>by
   have:=(h5.ownAll g0).1;rw[hSq]at this;rcases this with g4 | g4
   .simp only[World.putObj_size]at g4;omega
   .exact ne3 g4
  have hl5:w2.heap[w.heap.size+1]?=some (.loop {rec .ready none with state:=.busy}):=by
   have:=h5.low.block (w.heap.size+1) (by rw[hSq];simpa using hlt3) (by rw[hSq];exact ne3);rw[this,hSq];exact World.putObj_heap_same hlt3
  have out5:∀q,q<W.heap.size->¬D' q->¬aG (sp.st x).sig.m E' q->q≠w.heap.size+1->¬D5 q/\¬aG s2.sig.m E5 q/\w2.heap[q]?=W.heap[q]?:=λq q1 q2 q3 q4=>by
   obtain⟨o1,o2,o3⟩:=out3 q q1 q2 q3;have sz1:W.heap.size<=w1.heap.size:=by have:=h3.low.size;rw[hSr]at this;exact this
   refine⟨λg=>?_,λg=>?_,?_⟩
   .have:=h5.dhi _ g;rw[hSq]at this;rcases this with g1 | g1 | g1
    .exact o1 g1
    .simp only[World.putObj_size]at g1;omega
    .exact o2 g1
   .have:=(h5.ownAll g).1;rw[hSq]at this;rcases this with g4 | g4
    .simp only[World.putObj_size]at g4;omega
    .exact o2 g4
   .have:=h5.low.block q (by rw[hSq];simpa using qN q1 sz1) (by rw[hSq];exact o2);rw[this,hSq,<- o3];exact World.putObj_heap_other q4
  have outV:∀q,V q->w.heap.size+1<q/\q<W.heap.size/\¬D5 q/\¬aG s2.sig.m E5 q/\w2.heap[q]?=W.heap[q]?:=λq g=>by
   obtain⟨v1,v2,v3,v4⟩:=j9 q g;exact⟨v1,v2,out5 q v2 v3 v4 (by omega)⟩
  have keepD:∀bk,D' bk->w2.heap[bk]?=W.heap[bk]?:=λbk hbk=>by
   have hbl:bk<W.heap.size:=j3.dlt bk hbk;have no1:¬aG (sp.st x).sig.m E' bk:=λg0=>(j3.ownAll g0).2.2 hbk
   have e1:w1.heap[bk]?=W.heap[bk]?:=by
    have:=h3.low.block bk (by rw[hSr];exact hbl) (by rw[hSr];exact no1);rw[this,hSr]
   have hd3:D3 bk:=h3.dlo bk (by rw[hSr];exact hbk);have no3:¬aG s1.sig.m E3 bk:=λg0=>(h3.ownAll g0).2.2 hd3
   have hb3:bk<w1.heap.size:=h3.dlt bk hd3;have e2:w2.heap[bk]?=(w1.putObj (w.heap.size+1) (.loop {rec .ready none with state:=.busy})).heap[bk]?:=by
    have:=h5.low.block bk (by rw[hSq];simpa using hb3) (by rw[hSq];exact no3);rw[this,hSq]
   rw[e2,World.putObj_heap_other (λe=>j6 (by rw[<- e];exact hbk)),e1]
  have subD:∀bk,D' bk->D5 bk:=λbk hbk=>h5.dlo bk (by rw[hSq];exact h3.dlo bk (by rw[hSr];exact hbk))
  have own1:∀bk,aG (sp.st x).sig.m E' bk->S.w0.heap.size<=bk\/S.O bk:=λbk g0=>(j3.ownAll g0).1
  have hbW:S.w0.heap.size<=W.heap.size:=j3.low.size;have own3:∀bk,aG s1.sig.m E3 bk->S.w0.heap.size<=bk\/S.O bk:=λbk g0=>by
   have:=(h3.ownAll g0).1;rw[hSr]at this;rcases this with g4 | g4
   .simp only at g4;exact .inl (by omega)
   .exact own1 bk g4
  have sz31:W.heap.size<=w1.heap.size:=by have:=h3.low.size;rw[hSr]at this;exact this
  have sz52:w1.heap.size<=w2.heap.size:=by have:=h5.low.size;rw[hSq]at this;simpa using this
  have low1:Chg S.O S.w0 w1:=j3.low.step (by have:=h3.low.os;rw[hSr]at this;exact this) (by have:=h3.low.tape;rw[hSr]at this;exact this) (by have:=h3.low.output;rw[hSr]at this;exact this) sz31 λq hq hno=>by
   have:=h3.low.block q (by rw[hSr];exact qN hq hbW) (by
    rw[hSr];intro g;rcases own1 q g with g | g
    .omega
    .exact hno g)
   rw[this,hSr]
  have low2:Chg S.O S.w0 w2:=low1.step (by have:=h5.low.os;rw[hSq]at this;exact this) (by have:=h5.low.tape;rw[hSq]at this;exact this) (by have:=h5.low.output;rw[hSq]at this;exact this) sz52 λq hq hno=>by
   have:=h5.low.block q (by rw[hSq];simpa using(by omega:q<w1.heap.size)) (by
    rw[hSq];intro g;rcases own3 q g with g | g
    .omega
    .exact hno g)
   rw[this,hSq];exact World.putObj_heap_other (by omega)
  have dh:∀bk,D5 bk->S.D0 bk\/S.w0.heap.size<=bk\/S.O bk:=λbk hbk=>by
   have h6:=h5.dhi bk hbk;rw[hSq]at h6;rcases h6 with g | g | g
   .have h7:=h3.dhi bk g;rw[hSr]at h7;rcases h7 with g | g | g
    .exact j3.dhi bk g
    .simp only at g;exact .inr (.inl (by omega))
    .exact(own1 bk g).elim (λg=>.inr (.inl g)) (λg=>.inr (.inr g))
   .simp only[World.putObj_size]at g;exact .inr (.inl (by omega))
   .exact(own3 bk g).elim (λg=>.inr (.inl g)) (λg=>.inr (.inr g))
  have hmarks:Marks S.nod S.w0.heap.size D5 w2 S.gd ({target:=.collected w.heap.size,args:=#[]}::a.defers):=
   ⟨j3.df.1,λd hd=>by
    rcases j3.df.2 d hd with g | ⟨q,q1,q2,q3,q4⟩
    .exact .inl g
    refine .inr ?_;exact⟨q,q1,q2,subD q q3,(keepD q q3).trans q4⟩⟩
  have hNS:s2.tm.length=S.N:=by rw[hl2,hSq,hSr]
  have hout:aH S (r6 s2).sig {a with defers:={target:=.collected w.heap.size,args:=#[]}::a.defers} w2 D5 E5:=
   by
   have h9:=h5.leaveN (S:=S) (a0:={a with defers:={target:=.collected w.heap.size,args:=#[]}::a.defers}) (by rw[hSq,hSr]) (by rw[hSq,hSr]) (by rw[hSq,hSr]) hsz0 (λbk g=>by
    rw[hSq]at g;rcases g with g | g
    .simp only[World.putObj_size]at g;exact .inl (by omega)
    .exact own3 bk g) low2 (λbk g=>subD bk (j3.dlo bk g)) dh hmarks
   unfold r6;rw[hNS];exact h9
  have hlun:(r6 s2).tm.length=S.N:=by
   have:=AV.relL_length h5.svr;show(s2.sv.take s2.tm.length).length=S.N;have e:s2.sig.sv=s2.sv:=rfl;rw[e]at this;rw[qI,this,hNS,hSq,hSr,qG,vI,hsz0];omega
  have hbase2:S.w0.heap.size<=w.heap.size+1:=by omega
  have hput:=λ(o:Obj)=>hout.putL (l:=w.heap.size+1) o hbase2 nl5 ne5
  have hlt5:w.heap.size+1<w2.heap.size:=(vK.1 hl5).1;have sameD:∀(o:Obj) (bk:Nat),D' bk->(w2.putObj (w.heap.size+1) o).heap[bk]?=W.heap[bk]?:=λo bk hbk=>by
   rw[World.putObj_heap_other (λe=>j6 (by rw[<- e];exact hbk))];exact keepD bk hbk
  have szo:∀o:Obj,W.heap.size<=(w2.putObj (w.heap.size+1) o).heap.size:=λo=>by simp;omega
  have sameV:∀(o:Obj) (bk:Nat),Dit bk\/V bk->(w2.putObj (w.heap.size+1) o).heap[bk]?=W.heap[bk]?:=λo bk hbk=>by
   rcases hbk with hbk | hbk
   .exact sameD o bk (j4 bk hbk)
   .obtain⟨v1,_,_,_,v5⟩:=outV bk hbk;rw[World.putObj_heap_other (by omega)];exact v5
  have fin:∀(jump:Option Code),(Instr.endRound (w.heap.size+1) jump).run S.P w2=.ok (.bool jump.isNone) (w2.putObj (w.heap.size+1) (.loop (rec (if jump.isNone then .ready else .done) jump))):=λjump=>by
   have:=run_endRound (P:=S.P) jump hl5;rw[hrec]at this ⊢;exact this
  have stop:∀cc,((cc=Code.ret/\Q .ret (r6 s2))\/∃i,cc=Code.exit i/\Q (.exit i) (r6 s2))->
    ∃v w',(Instr.endRound (w.heap.size+1) (some cc)).run S.P w2=.ok v w'/\(W.heap.size<=w'.heap.size/\(∀b,Dit b\/V b->w'.heap[b]?=W.heap[b]?)/\
     ((Ending.returned v=.returned (.bool true)/\J (k+1) w' Dit V)\/(Ending.returned v=.returned (.bool false)/\JX w' Dit V)\/∃ch,Ending.returned v=.panicked ch/\JP ch w' Dit V)):=λcc hcc=>by
   refine⟨_,_,fin (some cc),szo _,sameV _,.inr (.inl ⟨rfl,?_⟩)⟩;rw[hJX];exact⟨cc,r6 s2,D5,E5,hcc,hlun,hput _,λbk hbk=>subD bk (j4 bk hbk),World.putObj_heap_same hlt5,nl5,ne5,λb g=>by
    obtain⟨v1,v2,v3,v4,_⟩:=outV b g;exact⟨v1,qN v2 (szo _),v3,v4⟩⟩
  have hPP:Sq.P=S.P:=by rw[hPq,hPr]
  rw[hPP];cases e with
  | normal=>
   obtain⟨z,z1,z2,z3⟩:=hq2;unfold leP at z3;split at z3
   case h_2=>exact z3.elim
   rename_i nsz hlez;obtain⟨D6,E6,h6,u6,n6,b6⟩:=xo (hput (.loop (rec .ready none))) hlez (bL z3).1;refine⟨_,_,fin none,szo _,sameV _,.inl ⟨rfl,?_⟩⟩;rw[hJ];refine⟨z,D6,E6,z1,by omega,h6,λbk hbk=>u6 bk (subD bk (j4 bk hbk)),World.putObj_heap_same hlt5,λg=>?_,λg=>ne5 (b6 _ g),?_,λb g=>?_⟩
   .rcases n6 _ g with g | g
    .exact nl5 g
    .exact ne5 g
   .rw[<- mD hlez];exact hlun
   .obtain⟨v1,v2,v3,v4,_⟩:=outV b g;refine⟨v1,qN v2 (szo _),λg2=>?_,λg2=>v4 (b6 _ g2)⟩;rcases n6 _ g2 with g2 | g2
    .exact v3 g2
    .exact v4 g2
  | ret=>exact stop .ret (.inl ⟨rfl,hq2⟩)
  | exit i=>exact stop (.exit i) (.inr ⟨i,rfl,hq2⟩)
  | goto t=>exact hq2.elim
  | panic ch=>
   refine⟨(h5.df.1.1 (by rw[hSq,hSr])).trans (by rw[hSq,hSr]),wE sz31 sz52,λbk hbk=>hbk.elim (λg=>keepD bk (j4 bk g)) λg=>(outV bk g).2.2.2.2,.inr (.inr ⟨ch,rfl,?_⟩)⟩;rw[hJP];exact⟨r6 s2,D5,E5,hq2,hlun,hout,λb g=>by
    obtain⟨v1,v2,v3,v4,_⟩:=outV b g;exact⟨v1,qN v2 (wE sz31 sz52),v3,v4⟩⟩
  | outgrown=>exact hq2.elim
 .rw[hJ];exact⟨x0,_,E1,i1,i2,hd2,λ_ g=>g,hL1,λg=>hl2 _ g rfl,he2,by rw[<- hlen0];exact hl,λ_ g=>g.elim⟩
 ·
  rintro e W2 (⟨⟨v,rfl⟩,hj⟩ | ⟨ch,rfl,D2,V2,hj⟩)
  case inr=>
   rw[hJP]at hj;obtain⟨s2,D',E',q1,q2,q3,_⟩:=hj;exact hR (.panic ch) s2 q1 q2 _ _ ⟨D',E',q3⟩
  rcases hj with⟨D2,hj⟩ | ⟨D2,hj⟩
  .rw[hJ]at hj;obtain⟨x,D',E',j1,j2,j3,j4,j5,j6,j7,j8,_⟩:=hj;have hel:=run_endLoop (P:=S.P) j5 (by rw[hrec];simp);refine⟨none,_,(by rw[hrec]at hel;exact hel),?_⟩;exact hR .normal (sp.st x) (hdone x j1 j2) j8 _ _ ⟨D',E',j3.putL _ (by omega) j6 j7⟩
  .rw[hJX]at hj;obtain⟨cc,s2,D',E',j1,j2,j3,j4,j5,j6,j7,_⟩:=hj;have hel:=run_endLoop (P:=S.P) j5 (by rw[hrec];simp);refine⟨some cc,_,(by rw[hrec]at hel;exact hel),?_⟩;rcases j1 with⟨rfl,hq⟩ | ⟨i,rfl,hq⟩
   .exact PI (F:=Fence.wide) (n:=0) rfl (λ_=>trivial) rfl (wpIn_ret (hR .ret s2 hq j2 _ _ ⟨D',E',j3.putL _ (by omega) j6 j7⟩))
   .exact PI (F:=Fence.wide) (n:=0) rfl (λ_=>trivial) rfl (wpIn_exit (hR (.exit i) s2 hq j2 _ _ ⟨D',E',j3.putL _ (by omega) j6 j7⟩))
theorem aH.slot {S:Base} {s:St} {a:Act} {w:World} {D:Nat->Prop} {E:Nat->Ent} (h:aH S s.sig a w D E) {d:Option Tmp} {v:Value} {x:AV} (hl:s.tm.length=S.N) (hd:nC d s.tm.length=true)
  (hx:x.rel S.P ⟨w,D,s.sig.m,E⟩ v):aH S (setSlot d x s).sig (a.put d v) w D E:=by
 have hd':∀t,d=some t->t<S.N:=λt e=>by subst e;unfold nC at hd;rw[<- hl];simpa using hd
 have h1:=h.put (d:=d) (v:=v) (x:=x) hd' hx;have e:(setSlot d x s).sig=⟨upT s.sig.T d x,s.sig.m,s.sig.sv⟩:=by
  unfold St.sig setSlot
  congr 1
  funext t
  cases d with
  | none=>simp[upT]
  | some d=>
   unfold upT;have hdl:d<s.tm.length:=by rw[hl];exact hd' d rfl
   by_cases e:t=d
   .subst e;simp[hdl]
   .have:¬d=t:=λg=>e g.symm
    simp[this,e]
 rw[e];exact h1
theorem Jm{c:Cfg}{T:Nat->AV}{m:Nat->Option Blk}{g:Bool}{o:Op}{ns:List Prop}{r:w8}{nms:List Nat}(h:uL c T m g o=some (ns,r,nms)): ∀d,o≠.defer d:=λd e=>by rw[e]at h;cases h
theorem EM{c:Cfg}{T T':Nat->AV}{m:Nat->Option Blk}{g:Bool}{o:Op}(h:∀x∈o.operands.toList,evT c.G T' x=evT c.G T x): uL c T' m g o=uL c T m g o:=by
 unfold uL;split
 .rename_i x;rw[h x (by simp[Op.operands])]
 .rename_i f args _;have e:jw c T' g args.toList=jw c T g args.toList:=by
   unfold jw;apply zY;intro x hx;rw[h x (by simp[Op.operands,Call.operands];exact .inr (by simpa using hx))]
  rw[e]
 .rfl
theorem u7{c:Cfg}{S:Base}{σ:Sig}{a:Act}{w:World}{D:Nat->Prop}{E:Nat->Ent}(hG:c.G=S.G)(h:aH S σ a w D E): ∀{args:List Operand},(∀q∈(jw c σ.T true args).flatMap (·.2),q)->
  AV.relL S.P ⟨w,D,σ.m,E⟩ ((jw c σ.T true args).map (·.1)) (args.map a.eval)
 | [],_=>rfl
 | x::args,hn=>by
  have hx:=dN h x;rw[<- hG]at hx;refine⟨_,_,rfl,mT (g:=true) rfl (λq hq=>hn q ?_) hx,u7 hG h λq hq=>hn q ?_⟩
  .simp only[jw,zH,gJ,qH];exact .inl hq
  .simp only[jw,zH,gJ,qH];exact .inr hq
theorem RE{P:Program}{C:Ctx}{a:AV}{v u:Value}(h:valOf a=some v)(hr:a.rel P C u): u=v:=by
 unfold valOf at h;split at h
 .split at h
  .cases h;simpa only[AV.rel,ah,qR,vP]using hr
  .cases h
 .cases h;exact hr
 .cases h
theorem NC{S:Base}{c:Cfg}(H:OkS c S){σ:Sig}{a:Act}{w:World}{D:Nat->Prop}{E:Nat->Ent}(hd:aH S σ a w D E){o:Oper}{ns:List Prop}{r:w8}{nms:List Nat}(hp:uL c σ.T σ.m true o.op=some (ns,r,nms))(hns:∀q∈ns,q)(hpre:r.pre)
  (hrk:r.ok=false) {K:Act->World->Prop} {R:Exit->Act->World->Prop} (hR:∀w',Sim S (zm nms σ) a w'->R (.panic (chainOf r.pan)) a w'):o.wpIn S.F 0 S.P a w K R:=by
 unfold Oper.wpIn;refine⟨λf _=>S.F_fn f,?_⟩;rw[Oper.semAt_eq _ _ _ (Jm hp)];unfold uL at hp;split at hp
 .rename_i x hop;split at hp
  case h_2=>cases hp
  rename_i t av ns' hx;split at hp
  case h_2=>cases hp
  rename_i v hv;cases hp;have hrel:=dN hd x;rw[<- H.G]at hrel;have hrel:=mT (g:=true) rfl (λq hq=>hns q (by rw[hx]at hq;exact hq)) hrel;rw[hx]at hrel;obtain⟨u,hu,hur⟩:=hrel;have hur:=RE hv hur;subst hur;have hexec:(execOp a.eval o).run S.P w=.halt (.panic (.iface t u)) w:=by
   obtain⟨dst,op,ty,pos,after,guard⟩:=o;simp only at hop;subst hop;simp only[execOp,hu];rfl
  rw[hexec];refine hR w ⟨D,E,?_⟩;exact hd.dropped (ns:=[]) ⟨rfl,rfl,rfl,qJ _,λ_ _ _=>rfl⟩
 .rename_i f args at_ hop;split at hp
  case isFalse=>cases hp
  rename_i hc;simp only[qC]at hc;obtain⟨_,hgo⟩:=hc;split at hp
  case h_2=>cases hp
  rename_i r' hkp;cases hp;have hargs:=ti (ts:=jZ c.P f) (u7 H.G hd hns);rw[<- H.P]at hargs;have hargs0:=vw (cz σ.m (AV.namesL (uM c.P (jZ c.P f) ((jw c σ.T true args.toList).map (·.1))))) hargs;have hG0:jX S.P ⟨w,D,bH (dK σ.m (cz σ.m (AV.namesL (uM c.P (jZ c.P f) ((jw c σ.T true args.toList).map (·.1)))))),E⟩ S.G:=jX.mono (C:=⟨w,D,σ.m,E⟩) ⟨λ_ g=>g,λ_ _=>rfl⟩ hd.gl;rw[H.P]at hargs0
  have hcall:=H.KP _ _ _ _ (by rw[H.P]at hkp;exact hkp) hpre hrk w D E (args.toList.map a.eval) hd.dlt (by rw[H.P]at hG0;exact hG0) hargs0 (hd.heldOf _);have hexec:(execOp a.eval o).run S.P w=.ok (.enter f (args.toList.map a.eval).toArray) w:=by
   obtain⟨dst,op,ty,pos,after,guard⟩:=o;simp only at hop;subst hop;have hg2:=jG (P:=S.P) (by rw[<- H.P];exact hgo) w (args.map a.eval);have e1:(args.toList.map a.eval).toArray=args.map a.eval:=by rw[toList_map]
   rw[e1];simp only[execOp,resolve,Act.eval,Deferred.ofValue,wB,zU,vS,invoke,Array.append_empty,kW];simpa using hg2
  rw[hexec,Oper.uponIn_enter];refine⟨λh=>(by rw[S.F_depth]at h;cases h),Base.callsIn (hcall.mono λe2 w2 he=>?_)⟩;obtain⟨rfl,hb⟩:=he;refine hR w2 ⟨D,E,?_⟩;rw[H.P];exact hd.dropped hb
 .cases hp
theorem D7{S:Base}{c:Cfg}(H:OkS c S){ops:Array Oper}{Q:Exit->St->Prop}{R:Exit->Act->World->Prop}(hR:∀e s',Q e s'->s'.tm.length=S.N->∀a w,Sim S s'.sig a w->R e a w):
  ∀(os:List Oper) (j:Nat) (s:St),(∀i o,os[i]?=some o->ops[j+i]?=some o)->Vw c ops os s Q->s.tm.length=S.N->∀a w,Sim S s.sig a w->wpOpsIn S.F 0 S.P ops R (List.range' j os.length) a w
 | [],j,s,_,h,hl,a,w,hs=>by
  simp only[yO,qCd,wpOpsIn];simp only[Vw]at h;exact hR _ s h hl a w hs
 | o::os,j,s,hops,h,hl,a,w,hs=>by
  have ho:ops[j]?=some o:=by simpa using hops 0 o rfl
  have hos:∀i o',os[i]?=some o'->ops[j+1+i]?=some o':=λi o' hi=>by
   have:=hops (i+1) o' (by simpa using hi);rw[show j+1+i=j+(i+1) by omega];exact this
  obtain⟨D,E,hd⟩:=hs;simp only[Vw]at h;split at h
  case h_2=>exact h.elim
  rename_i g hge;have hwant:=zj (o:=o) hd hge;rw[wV,qAz,wpOpsIn_cons];have step:∀{q:Rec},gn c.P c.G c.K (c.mt o) ops s.nx s.sig o=some q->fX q s.tm.length=true/\BD q s=true->all q.need (Vw c ops os (cH q s) Q)->wpOpIn S.F 0 S.P ops R j (wpOpsIn S.F 0 S.P ops R (List.range' (j+1) os.length)) a w:=by
   intro q hq hok hall;obtain⟨hns,hcont⟩:=bL hall;have hdst:∀d,o.dst=some d->d<S.N:=by
    intro d hdd;have e:q.dst=o.dst:=by
     unfold gn at hq;split at hq
     .split at hq
      .unfold EY at hq;split at hq
       .cases hq;rfl
       .split at hq
        .cases hq;rfl
        .cases hq
      .cases hq
     .cases hq
    have h2:=hok.1;unfold fX at h2;simp only[qC]at h2;have:=h2.1;rw[e,hdd]at this;rw[<- hl];simpa using this
   have hq':gn S.P S.G c.K (c.mt o) ops s.nx s.sig o=some q:=by rw[<- H.P,<- H.G];exact hq
   have:=nU (Q:=R) H.K ho ⟨D,E,hd⟩ hdst hq' hns (λk hk=>by
    have:=hok.2;unfold BD at this;rw[hk]at this;exact G2 this)
   refine wpOpIn_mono (λa' w' h'=>D7 H hR os (j+1) _ hos hcont (by rw[iQ];exact hl) a' w' ?_) this;show Sim S (cH q s).sig a' w';rw[fZ hok.1];exact h'
  split at h
  ·
   rename_i ns r nms hp;obtain⟨h1,h2⟩:=h;by_cases hpan:g=true/\r.ok=false
   .obtain⟨rfl,hrk⟩:=hpan;obtain⟨hns,hpre,hcont⟩:=bL (h1 rfl);have hcont:=hcont hrk;unfold wpOpIn;rw[ho];simp only;rw[hwant];simp only[xU];exact NC H hd hp hns hpre hrk λw' hs'=>hR _ (zl nms s) hcont hl a w' (by rw[Ci];exact hs')
   .have hgo:g=true->r.ok=true:=λe=>by
     cases hk:r.ok with
     | true=>rfl
     | false=>exact(hpan ⟨e,hk⟩).elim
    split at h2
    ·
     rename_i hisp;have hg:g=false:=by
      cases hg:g with
      | false=>rfl
      | true=>
       have:=hgo hg;unfold uL at hp;split at hp
       .split at hp
        .split at hp
         .cases hp;cases this
         .cases hp
        .cases hp
       .rename_i hop;rw[hop]at hisp;cases hisp
       .cases hp
     split at h2
     .rename_i hnone;have:o.guard=none:=by simpa using hnone
      rw[this]at hge;simp only[KG,vZ]at hge;rw[<- hge]at hg;cases hg
     .obtain⟨hdo,hcont⟩:=h2;unfold wpOpIn;rw[ho];simp only;rw[hwant,hg];simp only[vT,yQ];refine⟨λf _=>S.F_fn f,D7 H hR os (j+1) _ hos (hcont hg) (by simp[setSlot];split<;>simp[hl]) _ _ ⟨D,E,?_⟩⟩;exact hd.slot hl hdo ⟨λe=>(by rw[hg]at e;cases e),λ_=>rfl⟩
    .split at h2
     case h_2=>exact h2.elim
     rename_i q hq;split at h2
     case isFalse=>exact h2.elim
     rename_i hok;exact step hq hok (h2 hgo)
  .split at h
   case h_2=>exact h.elim
   rename_i q hq;split at h
   case isFalse=>exact h.elim
   rename_i hok;exact step hq hok h
theorem Ap(t:Nat): ∀(ts:List Tmp) (l:List AV),(nQ ts l).getD t .top=if t∈ts then .top else l.getD t .top
 | [],l=>by simp[nQ]
 | d::ts,l=>by
  simp only[nQ];rw[Ap t ts];by_cases h1:t∈ts
  .rw[if_pos h1,if_pos (zA _ h1)]
  .rw[if_neg h1];by_cases h2:t=d
   .subst h2;rw[if_pos wL,qA,yX];split
    .split<;>rfl
    .rename_i hne;exact(hne rfl).elim
   .rw[if_neg (λh=>(zJ.1 h).elim h2 h1),qA,qA,qBc (λe=>h2 e.symm)]
theorem Yg{S:Base}{σ:Sig}{s:St}{ops:Array Oper}{a:Act}{w:World}(h:Sim S σ a w)(hm:σ.m=s.sig.m)(hv:σ.sv=s.sig.sv)(hT:∀t,σ.T t=s.sig.T t\/t∈ops.toList.filterMap (·.dst)): Sim S (Xu ops s).sig a w:=by
 obtain⟨D,E,hd⟩:=h;obtain⟨T,m,sv⟩:=σ;simp only at hm hv hT;subst hm hv;refine⟨D,E,hd.sz,hd.df,λt=>?_,hd.bl,hd.own,hd.inj,hd.low,hd.dlt,hd.dlo,hd.dhi,hd.gl,hd.svr,hd.pv⟩;show((nQ (ops.toList.filterMap (·.dst)) s.tm).getD t .top).rel S.P _ _;rw[Ap];split
 .trivial
 .rename_i hn;rcases hT t with e | e
  .have h2:=hd.tm t;show(s.sig.T t).rel S.P ⟨w,D,s.sig.m,E⟩ _;rw[<- e];exact h2
  .exact(hn e).elim
theorem jz{P:Program}{G:List (Nat×AV)}{K:Kt}{mt:Bool}{ops:Array Oper}{nx:Nat}{σ:Sig}{o:Oper}{r:Rec}(h:gn P G K mt ops nx σ o=some r): r.dst=o.dst/\∀x∈o.op.operands.toList,∀t,x=.tmp t->t∈r.reads:=by
 have this:r.dst=o.dst/\r.reads=o.op.operands.toList.flatMap LS++rM ops o.guard:=by
  unfold gn at h;split at h
  .split at h
   .unfold EY at h;split at h
    .cases h;exact⟨rfl,rfl⟩
    .split at h
     .cases h;exact⟨rfl,rfl⟩
     .cases h
   .cases h
  .cases h
 refine⟨this.1,λx hx t e=>?_⟩;rw[this.2,qH,yJ];exact .inl ⟨x,hx,by rw[e];simp[LS]⟩
theorem vq{rs:List Rec}{done:Nat->Bool}{dsts:List Tmp}{s:Sig}: ∀n,(∀j r,j<n->done j=true->rs[j]?=some r->r.upd=[]/\∀d,r.dst=some d->d∈dsts)->
  (fh (bV rs) done n s).m=s.m/\(fh (bV rs) done n s).sv=s.sv/\∀t,(fh (bV rs) done n s).T t=s.T t\/t∈dsts
 | 0,_=>⟨rfl,rfl,λ_=>.inl rfl⟩
 | n+1,h=>by
  obtain⟨i1,i2,i3⟩:=vq n λj r hj=>h j r (by omega)
  simp only[fh];split
  .rename_i hd;unfold bV;cases hr:rs[n]? with
   | none=>exact⟨i1,i2,i3⟩
   | some r=>
    obtain⟨h1,h2⟩:=h n r (by omega) hd hr;simp only[dQ];refine⟨?_,i2,λt=>?_⟩
    .rw[h1];exact i1
    .unfold upT;split
     .rename_i e;exact .inr (h2 t e.symm)
     .exact i3 t
  .exact⟨i1,i2,i3⟩
theorem Uz{S:Base}{c:Cfg}(H:OkS c S){ops:Array Oper}{s:St}{Q:Exit->St->Prop}{R:Exit->Act->World->Prop}(hR:∀e s',Q e s'->s'.tm.length=S.N->∀a w,Sim S s'.sig a w->R e a w)
  (h:Zc c ops s Q) (hl:s.tm.length=S.N) {a:Act} {w:World} (hs:Sim S s.sig a w) {id:Nat}:(Code.region id ops true).wpIn S.F 0 S.P R a w:=by
 unfold Zc at h;split at h
 case h_2=>exact h.elim
 rename_i rs o hrs ho;obtain⟨q,hq⟩:∃q,q=ops.toList.findIdx (v7 c):=⟨_,rfl⟩;obtain⟨tbl,htbl⟩:∃tbl,tbl=iR [] ops.toList:=⟨_,rfl⟩;rw[<- hq]at ho;rw[<- hq,<- htbl]at h;split at h
 case isFalse=>exact h.elim
 rename_i hc;obtain⟨k1,k2,k3,k4⟩:=hc;split at h
 case h_2=>exact h.elim
 rename_i ns r nms hp;obtain⟨hlive,h⟩:=bL h;obtain⟨hns,hpre,hyes,hno⟩:=bL h;obtain⟨hlen,hat⟩:=sB hrs;have hlen:rs.length=ops.size:=by simpa using hlen
 have hat':∀(j:Nat) o r,ops[j]?=some o->rs[j]?=some r->gn S.P S.G c.K (ZV c.mb o) ops (fF rs s j).nx (fF rs s j).sig o=some r/\fX r s.tm.length=true:=λj o r ho hr=>by
  have:=hat j o r (by simpa using ho) hr;rw[H.P,H.G]at this;exact this
 have hok:∀(j:Nat) (r:Rec),rs[j]?=some r->fX r s.tm.length=true:=λj r hr=>by
  have hj:j<ops.size:=by rw[<- hlen];exact(qF.1 hr).1
  exact(hat' j _ r (zI hj) hr).2
 have hqs:q<ops.size:=(vK.1 ho).1;have hdst:∀(j:Nat) o r,ops[j]?=some o->rs[j]?=some r->∀d,o.dst=some d->d<S.N:=λj o r ho hr d hd=>by
  obtain⟨h1,h2⟩:=hat' j o r ho hr;unfold fX at h2;simp only[qC]at h2;have h3:=h2.1;rw[(jz h1).1,hd]at h3;rw[<- hl];simpa using h3
 cases hk:r.ok with
 | true=>
  obtain⟨g1,g2⟩:=bL (hyes hk);have HR:C6 S c.K c.mb ops s rs:=⟨hlen,hat',hl,λj r hr p hp=>g1 p (yJ.2 ⟨r,zD hr,hp⟩)⟩;exact sV H.K H.m HR k1 k2 hs.draw λa' w' hs'=>hR _ _ g2 ((jT _ _ _).trans hl) a' w' hs'
 | false=>
  refine wpIn_region_any H.m ?_;have notLive:∀j r,rs[j]?=some r->j≠q->(tbl.getD j 0).testBit q=false->(∀p∈r.need,p)/\r.upd=[]:=λj r hr hjq hb=>by
   have hj:=(qF.1 hr).1;have e:rs.getD j dflt=r:=tY hr;refine⟨λp hp=>hlive p ?_,?_⟩
   .unfold BK;rw[yJ];refine⟨j,by simpa using hj,?_⟩;rw[if_neg (by simp[hjq];rw[<- kT]at hb;simpa using hb),e];exact hp
   .unfold ND at k3;rw[qM]at k3;have:=k3 j (by simpa using hj);rw[e]at this;simp only[yE,xH,hjq,false_or,hb,vT,qC,wO]at this;exact this.1
  refine zn (mb:=c.mb) (k:=0) (q:=q) H.K hlen hl (λj o r ho hr hlv=>⟨(hat' j o r ho hr).1,hdst j o r ho hr,(notLive j r hr hlv.2.1 hlv.2.2).1⟩) hok k1 k2 (λh=>absurd hqs (by omega))
   (λ_ n listed a1 w1 hsz hqf hcnt hanc hdesc hrok hsim=>?_) ops.size (Array.replicate ops.size false) a _ (by simp) ?_ (λi hi=>by omega) (λ_=>?_) (λi j hij hj hb hl=>?_) ?_
  .obtain⟨rq,hrq⟩:∃rq,rs[q]?=some rq:=⟨_,qB (by rw[hlen];exact hqs)⟩;obtain⟨g1,_⟩:=hrok rq hrq;have hgd:o.guard=none:=by simpa using k4
   obtain⟨D,E,hd⟩:=(show Sim _ _ _ _ from hsim);unfold wpOpIn;rw[ho];simp only;rw[show Region.wanted o (yielded ops a1.tmps)=true by unfold Region.wanted;rw[hgd]];simp only[xU];have hqt:=vq (rs:=rs) (done:=λi=>listed.getD i false) (dsts:=ops.toList.filterMap (·.dst)) (s:=s.sig) ops.size λj r hj hdn hr=>by
    have hoj:=zI hj;have hjq:j≠q:=λe=>by subst e;rw[hqf]at hdn;cases hdn
    have hb:(tbl.getD j 0).testBit q=false:=by
     cases hb:(tbl.getD j 0).testBit q with
     | false=>rfl
     | true=>have:=hdesc j hb hj;rw[this]at hdn;cases hdn
    refine⟨(notLive j r hr hjq hb).2,λd hd=>?_⟩;rw[(jz (hat' j _ r hoj hr).1).1]at hd;rw[List.mem_filterMap];exact⟨ops[j],by simp,hd⟩
   have hp':uL c (fh (bV rs) (λi=>listed.getD i false) ops.size s.sig).T (fh (bV rs) (λi=>listed.getD i false) ops.size s.sig).m true o.op=some (ns,r,nms):=by
    rw[<- hp,hqt.1];refine EM λx hx=>?_
    cases x with
    | tmp t=>exact yA DT (g1 t ((jz (hat' q o rq ho hrq).1).2 _ hx t rfl))
    | _=>rfl
   refine NC H hd hp' hns hpre hk λw' hs'=>hR _ (Xu ops (zl nms s)) (hno hk) ?_ a1 w' (Yg hs' ?_ ?_ ?_)
   .have:∀(ts:List Tmp) (l:List AV),(nQ ts l).length=l.length:=by
     intro ts;induction ts with
     | nil=>intro l;rfl
     | cons d ts ih=>intro l;simp[nQ,ih]
    exact(this _ _).trans hl
   .rw[Ci];show(λk=>if nms.contains k=true then none else _)=(λk=>if nms.contains k=true then none else _);rw[hqt.1]
   .exact hqt.2.1
   .exact hqt.2.2
  .exact wE (xB _ _) (by simp)
  .rw[qK];simp[hqs]
  .rw[qK]at hl;simp[hj]at hl
  .have:∀n,fh (bV rs) (λi=>(Array.replicate ops.size false).getD i false) n s.sig=s.sig:=by
    intro n;induction n with
    | zero=>rfl
    | succ n ih=>
     have:(Array.replicate ops.size false).getD n false=false:=by
      rw[qK];cases h:(Array.replicate ops.size false)[n]? with
      | none=>rfl
      | some v=>rw[yF]at h;split at h<;>cases h;rfl
     simp only[fh,this,vT,yQ];exact ih
   rw[this];exact hs.draw
theorem kq{c:Cfg}{A:Ann}: ∀(x:Code),aDj c A x
 | .skip,S,s,Q,R,H,h,hl,hR,a,w,hs=>U6 (wpIn_skip (hR _ s h hl a w hs))
 | .region id ops draw,S,s,Q,R,H,h,hl,hR,a,w,hs=>by
  have key:∀s1:St,s1.tm.length=S.N->Sim S s1.sig a w->aCT c ops draw s1 Q->At S.P S.rd (Code.region id ops draw) R a w:=by
   intro s1 hl1 hs1 hreg;unfold aCT at hreg;split at hreg
   .split at hreg
    .rename_i hdr;subst hdr;exact U6 (Uz H hR hreg hl1 hs1)
    .rename_i hdr;have hdr:draw=false:=by simpa using hdr
     subst hdr;refine U6 (wpIn_region ?_);have:=D7 H hR ops.toList 0 s1 (λi o ho=>by simpa using ho) hreg hl1 a w hs1;rw[qAy];simpa using this
   unfold ZT at hreg;split at hreg
   .rename_i ns s' he;obtain⟨g1,g2⟩:=bL hreg;exact U6 (VE H.P H.G H.K H.m he g1 hl1 hs1 λa' w' hs'=>hR _ s' g2 ((Nx he).trans hl1) a' w' hs')
   .exact hreg.elim
  unfold ev at h;split at h
  .exact key s hl hs h
  .rename_i s1 _;split at h
   .rename_i ms hms;obtain⟨g1,g2⟩:=bL h;exact key s1 ((mD hms).symm.trans hl) (Ha hs hms g1) g2
   .exact h.elim
 | .seq x y,S,s,Q,R,H,h,hl,hR,a,w,hs=>by
  have key:ev c A x s (λe s'=>match e with | .normal=>ev c A y s' Q | e=>Q e s')->At S.P S.rd (Code.seq x y) R a w:=by
   intro h;refine uA (kq x S s _ _ H h hl (λe s' hq hl' a' w' hs'=>?_) a w hs);cases e<;>first
    | exact kq y S s' Q R H hq hl' hR a' w' hs'
    | exact hR _ s' hq hl' a' w' hs'
  unfold ev at h;split at h
  .split at h
   .rename_i sp _;obtain⟨h1,h2⟩:=h;refine uA (kq x S s _ _ H h1 hl (λe s' hq hl' a' w' hs'=>?_) a w hs);cases e<;>first
     | (obtain⟨y',g1,g2⟩:=hq;exact kq y S _ Q R H (h2 y' g1) ((tL g2).symm.trans hl') hR a' w' (yy g2 hs'))
     | exact hR _ s' hq hl' a' w' hs'
   .exact key h
  .exact key h
 | .cond t x y,S,s,Q,R,H,h,hl,hR,a,w,hs=>by
  unfold ev at h;split at h
  case h_2=>exact h.elim
  rename_i ns b hc;obtain⟨g1,g2,g3⟩:=bL h;obtain⟨D,E,hs0⟩:=id hs;have hrel:=dN hs0 t;rw[<- H.G]at hrel;have hb:a.eval t=.bool b:=by
   unfold UI at hc;split at hc
   .rename_i b' hv;cases hc;rw[hv]at hrel;simpa only[AV.rel,ah,qR,vP]using hrel
   .rename_i g b' hv;cases hc;rw[hv]at hrel;have hg:g=true:=g1 _ (by simp);simpa only[AV.rel,ah,qR,vP]using hrel.1 hg
   .cases hc
  exact Zr hb (λe=>kq x S s Q R H (g2 e) hl hR a w hs) (λe=>kq y S s Q R H (g3 e) hl hR a w hs)
 | .block id x,S,s,Q,R,H,h,hl,hR,a,w,hs=>by
  unfold ev at h;refine Iq (kq x S s _ _ H h hl (λe s' hq hl' a' w' hs'=>?_) a w hs);cases e<;>first
   | exact hR _ s' hq hl' a' w' hs'
   | (rename_i id'
      simp only[Exit.inBlock];simp only at hq;split at hq
      .rename_i e;rw[if_pos e];exact hR _ s' hq hl' a' w' hs'
      .rename_i e;rw[if_neg e];exact hR _ s' hq hl' a' w' hs')
 | .exit id,S,s,Q,R,H,h,hl,hR,a,w,hs=>U6 (wpIn_exit (hR _ s h hl a w hs))
 | .ret,S,s,Q,R,H,h,hl,hR,a,w,hs=>U6 (wpIn_ret (hR _ s h hl a w hs))
 | .loop x,S,s,Q,R,H,h,hl,hR,a,w,hs=>by
  unfold ev at h;split at h
  case h_2=>exact h.elim
  split at h
  case h_2=>exact h.elim
  rename_i sp _;obtain⟨⟨x0,i1,i2⟩,h2⟩:=h;refine at_loop (λn a w=>∃y,sp.inv y/\sp.μ y=n/\(sp.st y).tm.length=S.N/\Sim S (sp.st y).sig a w) (sp.μ x0) ⟨x0,i1,rfl,(tL i2).symm.trans hl,yy i2 hs⟩ ?_;rintro n a w ⟨y,j1,rfl,j2,j3⟩;refine kq x S (sp.st y) _ _ H (Vd h2 y j1) j2 (λe s' hq hl' a' w' hs'=>?_) a w j3;cases e<;>first
   | (obtain⟨z,k1,k2,k3⟩:=hq;exact⟨sp.μ z,k3,z,k1,rfl,(tL k2).symm.trans hl',yy k2 hs'⟩)
   | exact hR _ s' hq hl' a' w' hs'
 | .rangeFunc g ps x y,S,s,Q,R,H,h,hl,hR,a,w,hs=>aBB (kq x) (kq y) S s Q R H h hl hR a w hs
 | .scope x,S,s,Q,R,H,h,hl,hR,a,w,hs=>by
  unfold ev at h;refine U5 (kq x S s _ _ H h hl (λe s' hq hl' a' w' hs'=>?_) a w hs);cases e<;>first
   | exact hq.elim
   | exact hR _ s' hq hl' a' w' hs'
 | .label _,S,s,Q,R,H,h,hl,hR,a,w,hs=>by
  unfold ev at h;exact U6 (wpIn_label (hR _ s h hl a w hs))
 | .goto _,S,s,Q,R,_,h,_,_,_,_,_=>by unfold ev at h;exact h.elim
 | .refuse _,S,s,Q,R,_,h,_,_,_,_,_=>by unfold ev at h;exact h.elim
end Go.Eng
namespace Go.Eng
open Go.RowKit
theorem NN{w:World}{k o:Nat}{x:Option (List Deferred)}(h:w.heap[k]?=some (.deferred x)): w.cell? ⟨k,o,none⟩=none:=by
 simp[World.cell?,h]
structure Shr (k:Nat) (C C':Ctx):Prop where
 at_:∃x,C.w.heap[k]?=some (.deferred x)
 w:∀b,b≠k->C'.w.heap[b]?=C.w.heap[b]?
 D:∀b,C.D b->b≠k->C'.D b
 m:C'.m=C.m
 E:C'.E=C.E
theorem Shr.cells {k:Nat} {C C':Ctx} (L:Shr k C C') {b o:Nat} {us:Lv} (hc:cJ C.w b o us) (hn:0<us.length):b≠k/\cJ C'.w b o us:=by
 have hb:b≠k:=λe=>by
  obtain⟨x,hx⟩:=L.at_;subst e;have:=hc 0 us[0] (by simp);rw[NN hx]at this;cases this
 exact⟨hb,hc.same (L.w b hb)⟩
theorem cU{k:Nat}{C C':Ctx}(L:Shr k C C'): ∀{t:Ty} {x:t.den} {us:Lv},ah C.w C.D t x us->ah C'.w C'.D t x us
 | .int _,_,_,h=>h
 | .bool,_,_,h=>h
 | .str,_,_,h=>h
 | .sl e,xs,us,h=>by
  obtain⟨ao,cap,h1,h2,h3,h4,h5⟩:=h;refine⟨ao,cap,h1,h2,h3,h4,λi y hy=>?_⟩;obtain⟨a,ue,g1,g2,g3,g4⟩:=h5 i y hy;obtain⟨q1,q2⟩:=L.cells g3 (by rw[aS g4];exact Ty.sz_pos e);exact⟨a,ue,g1,L.D _ g2 q1,q2,cU L g4⟩
 | .pair a b,_,_,h=>by
  obtain⟨u1,u2,h,h1,h2⟩:=h;exact⟨u1,u2,h,cU L h1,cU L h2⟩
mutual
def dz: AV->Bool
 | .clo1 _ _ _ _=>false
 | .clo2 _ _ _ _ _=>false
 | .slv _=>false
 | .agg cs=>jd cs
 | .tup cs=>jd cs
 | .fn _ cs=>jd cs
 | .ifc _ a=>dz a
 | .grd _ a=>dz a
 | .ipv a=>dz a
 | .ips cs=>!cs.isEmpty&&jd cs
 | .sel _ cs=>jd cs
 | .pin _ a=>dz a
 | _=>true
def jd: List AV->Bool
 | []=>true
 | a::as=>dz a&&jd as
end
mutual
theorem AV.rel_shr {P:Program} {k:Nat} {C C':Ctx} (L:Shr k C C'):∀{a:AV} {v:Value},dz a=true->a.rel P C v->a.rel P C' v
 | .top,_,_,_=>trivial
 | .dat _ _,_,_,h=>cU L h
 | .agg cs,_,hp,h=>by
  obtain⟨us,h1,h2⟩:=h;exact⟨us,h1,AV.relL_shr L (by simpa[dz]using hp) h2⟩
 | .tup cs,_,hp,h=>by
  obtain⟨us,h1,h2⟩:=h;exact⟨us,h1,AV.relL_shr L (by simpa[dz]using hp) h2⟩
 | .val _,_,_,h=>h
 | .buf nm n,v,_,h=>by
  simp only[AV.rel]at h ⊢;rw[L.m,L.E];exact h
 | .ptr nm g i c,v,_,h=>by
  simp only[AV.rel]at h ⊢;rw[L.m,L.E];exact h
 | .ip t x,_,_,h=>by
  obtain⟨b,off,us,h1,h2,h3,h4⟩:=h;obtain⟨q1,q2⟩:=L.cells h3 (by rw[aS h4];exact Ty.sz_pos t);exact⟨b,off,us,h1,L.D _ h2 q1,q2,cU L h4⟩
 | .fn f caps,_,hp,h=>by
  obtain⟨us,h1,h2⟩:=h;exact⟨us,h1,AV.relL_shr L (by simpa[dz]using hp) h2⟩
 | .clo1 a r pre g,_,hp,_=>by simp[dz]at hp
 | .clo2 a b r pre g,_,hp,_=>by simp[dz]at hp
 | .ifc t a,_,hp,h=>by
  obtain⟨u,h1,h2⟩:=h;exact⟨u,h1,AV.rel_shr L (by simpa[dz]using hp) h2⟩
 | .grd g a,_,hp,h=>⟨λhg=>AV.rel_shr L (by simpa[dz]using hp) (h.1 hg),h.2⟩
 | .ipv a,_,hp,h=>by
  obtain⟨b,off,u,h1,h2,h3,h5⟩:=h;have hb:b≠k:=λe=>by
   obtain⟨x,hx⟩:=L.at_;subst e;rw[NN hx]at h3;cases h3
  exact⟨b,off,u,h1,L.D _ h2 hb,(cell?_same (L.w _ hb)).trans h3,AV.rel_shr L (by simpa[dz]using hp) h5⟩
 | .ips cs,_,hp,h=>by
  obtain⟨b,off,us,h1,h2,h3,h5⟩:=h;simp only[dz,qC,zK,List.isEmpty_eq_false_iff]at hp;have hl:=AV.relL_length h5;obtain⟨q1,q2⟩:=L.cells h3 (by rw[<- hl];exact qCj.2 hp.1);exact⟨b,off,us,h1,L.D _ h2 q1,q2,AV.relL_shr L hp.2 h5⟩
 | .ia t xs,_,_,h=>by
  obtain⟨b,off,h1,h2⟩:=h;exact⟨b,off,h1,cU L h2⟩
 | .yld _,_,_,h=>h
 | .view nm n,v,_,h=>by
  simp only[AV.rel]at h ⊢;rw[L.m,L.E];exact h
 | .av _ _,_,_,h=>by
  obtain⟨us,h1,h2,h3⟩:=h;exact⟨us,h1,h2,λi y hy=>cU L (h3 i y hy)⟩
 | .sel i cs,_,hp,h=>by
  obtain⟨us,h1,h2⟩:=h;exact⟨us,AV.relL_shr L (by simpa[dz]using hp) h1,h2⟩
 | .row nm g i kk,v,_,h=>by
  simp only[AV.rel]at h ⊢;rw[L.m,L.E];exact h
 | .rptr nm g i kk j,v,_,h=>by
  simp only[AV.rel]at h ⊢;rw[L.m,L.E];exact h
 | .pin u a,_,hp,h=>⟨h.1,AV.rel_shr L (by simpa[dz]using hp) h.2⟩
theorem AV.relL_shr {P:Program} {k:Nat} {C C':Ctx} (L:Shr k C C'):∀{as:List AV} {us:Lv},jd as=true->AV.relL P C as us->AV.relL P C' as us
 | [],_,_,h=>h
 | a::as,_,hp,h=>by
  obtain⟨u,us',h1,h2,h3⟩:=h;simp only[jd,qC]at hp;exact⟨u,us',h1,AV.rel_shr L hp.1 h2,AV.relL_shr L hp.2 h3⟩
end
def NA: Blk->Bool
 | .var cs=>jd cs
 | .buf _ _ _ ov=>jd (ov.map (·.2))
 | .mat _ _ _ _ _=>false
theorem Tv{ov:List (Nat×AV)}{i:Nat}{a:AV}(hp:jd (ov.map (·.2))=true)(ho:ov.lookup i=some a): dz a=true:=by
 induction ov with
 | nil=>simp at ho
 | cons p ov ih=>
  obtain⟨j,b⟩:=p;simp only[zH,jd,qC]at hp;simp only[List.lookup]at ho;split at ho
  .cases ho;exact hp.1
  .exact ih hp.2 ho
theorem dE.shr {P:Program} {base k:Nat} {C C':Ctx} (L:Shr k C C') {e:Ent} {b:Blk} (hp:NA b=true) (he:e.isNil=false->e.b≠k) (h:dE P base C e b):dE P base C' e b:=by
 cases b with
 | var cs=>
  obtain⟨h0,us,el,h1,h2⟩:=h;exact⟨h0,us,el,(L.w _ (he h0)).trans h1,AV.relL_shr L hp h2⟩
 | buf el t xs ov=>
  obtain⟨raw,h1,h2⟩:=h;refine⟨raw,⟨h1.1,?_⟩,λi y hy=>?_⟩
  .rcases h1.2 with h | ⟨g,cap,cur,hv,hg,hh,r⟩
   .exact .inl h
   .refine .inr ⟨g,cap,cur,hv,hg,?_,r⟩;unfold Ent.handle at hv;split at hv
    .cases hv
    .rename_i hi;simp only[zM,vZ,gG,vP,zS]at hv;rw[<- hv.1,L.w _ (he (by simpa using hi)),hv.1];exact hh
  .have g:=h2 i y hy;cases ho:ov.lookup i with
   | none=>rw[ho]at g;exact cU L g
   | some a=>
    rw[ho]at g;obtain⟨g1,u,g2,g4,g3⟩:=g;exact⟨g1,u,g2,g4,AV.rel_shr L (Tv hp ho) g3⟩
 | mat el eli t xss ov=>cases hp
def kr(a:AV): AV:=if dz a then a else .top
def sweep(rng:Bool)(s:St): Option St:=
 if rng then
  if s.mem.all (λp=>NA p.2)&&jd s.sv then some {s with tm:=s.tm.map kr} else none
 else some s
structure C7 (σ:Sig):Prop where
 T:∀t,dz (σ.T t)=true
 m:∀nm b,σ.m nm=some b->NA b=true
 sv:jd σ.sv=true
section
variable {S:Base}
theorem aH.shr {σ:Sig} {a:Act} {w:World} {D:Nat->Prop} {E:Nat->Ent} {k:Nat} {ds:List Deferred} (h:aH {S with G:=[]} σ {a with defers:={target:=.collected k,args:=#[]}::ds} w D E) (hp:C7 σ)
  (hD0:∀b,S.D0 b->b<S.w0.heap.size) (hgn:∀d∈S.gd,∀k,d.target≠.collected k):w.heap[k]?=some (.deferred (some []))/\aH {S with G:=[]} σ {a with defers:=ds} (w.putObj k (.deferred none)) (λb=>D b/\b≠k) E:=by
 obtain⟨⟨dn,⟨ms,dms⟩,dp⟩,dm⟩:=h.df;rcases dm _ wL with⟨_,g⟩ | ⟨k',e1,e2,e3,e4⟩
 .exact(g k rfl).elim
 simp only[Deferred.mk.injEq,Target.collected.injEq,vP]at e1;subst e1;have L:Shr k ⟨w,D,σ.m,E⟩ ⟨w.putObj k (.deferred none),λb=>D b/\b≠k,σ.m,E⟩:=
  ⟨⟨_,e4⟩,λb hb=>World.putObj_heap_other hb,λb hb hk=>⟨hb,hk⟩,rfl,rfl⟩
 have ek:∀nm b,σ.m nm=some b->(E nm).isNil=false->(E nm).b≠k:=λnm b hm hi e=>(h.own nm b hm hi).2.2 (e▸e3)
 have noPriv:∀nm i b,b8 σ.m E nm i b->False:=λnm i b g=>by
  obtain⟨_,_,_,_,_,_,g1,_⟩:=g;have:=hp.m nm _ g1;cases this
 have hms:∃ms',ds=ms'++S.gd:=by
  cases ms with
  | nil=>
   have hh:({target:=.collected k,args:=#[]}:Deferred)∈S.gd:=by
    have:S.gd={target:=.collected k,args:=#[]}::ds:=dms.symm;rw[this];exact wL
   exact(hgn _ hh k rfl).elim
  | cons x ms=>exact⟨ms,(List.cons.inj dms).2⟩
 refine⟨e4,h.sz,⟨⟨λe=>(by
  have h1:{target:=.collected k,args:=#[]}::ds=S.gd:=dn e
  exact(hgn _ (h1▸wL) k rfl).elim),hms,(kD.1 dp).2⟩,λd hd=>?_⟩,λt=>AV.rel_shr L (hp.T t) (h.tm t),λnm b hm=>(h.bl nm b hm).shr L (hp.m nm b hm) (ek nm b hm),λnm b hm hi=>?_,h.inj,?_,λb hb=>?_,λb hb=>⟨h.dlo b hb,?_⟩,λb hb=>h.dhi b hb.1,λp hp=>(by cases hp),AV.relL_shr L hp.sv h.svr,⟨λnm i b g=>(noPriv nm i b g).elim,λnm i b g=>(noPriv nm i b g).elim,λnm i b _ _ g=>(noPriv nm i b g).elim⟩⟩
 .rcases dm d (zA _ hd)with g | ⟨q,q1,q2,q3,q4⟩
  .exact .inl g
  have hne:q≠k:=λe=>(kD.1 dp).1 d hd (by rw[q1,e])
  exact .inr ⟨q,q1,q2,⟨q3,hne⟩,(World.putObj_heap_other hne).trans q4⟩
 .obtain⟨g1,g2,g3⟩:=h.own nm b hm hi;exact⟨g1,by simpa using g2,λhd=>g3 hd.1⟩
 .refine h.low.step rfl rfl rfl (by simp) λq hq _=>World.putObj_heap_other λe=>?_
  have:S.w0.heap.size<=k:=e2;have:q<S.w0.heap.size:=hq;omega
 .have:=h.dlt b hb.1;simpa using this
 .intro e;have h1:b<S.w0.heap.size:=hD0 b hb;have h2:S.w0.heap.size<=k:=e2;omega
theorem BI{fn:Func}{R:Ending->World->Prop}(hgd:S.gd=[])(hD0:∀b,S.D0 b->b<S.w0.heap.size){σ:Sig}(hp:C7 σ){E:Nat->Ent}{tmps:Array Value}: ∀(ds:List Deferred) (w:World) (D:Nat->Prop),
  aH {S with G:=[]} σ {tmps:=tmps,defers:=ds} w D E->(∀w2 D2,aH {S with G:=[]} σ {tmps:=tmps,defers:=[]} w2 D2 E->∃v,(results fn tmps).run S.P w2=.ok v w2/\R (.returned v) w2)->
  LeavesInM Fence.wide 0 S.P fn tmps R ds .returning w
 | [],w,D,h,hR=>hR w D h
 | d::ds,w,D,h,hR=>by
  rcases h.df.2 d wL with⟨g,_⟩ | ⟨k,rfl,_⟩
  .have g:d∈S.gd:=g;rw[hgd]at g;cases g
  obtain⟨h1,h2⟩:=aH.shr (a:={tmps:=tmps,defers:=[]}) h hp hD0 (by rw[hgd];intro d hd;cases hd);exact⟨by simp,.inl ⟨k,_,rfl,run_takeDeferred h1,BI hgd hD0 hp ds _ _ h2 hR⟩⟩
end
def EC(P:Program)(s:St): List ResultVar->Option (List Prop×List AV)
 | []=>some ([],[])
 | .tmp t::rs=>match EC P s rs with
  | some (ns,vs)=>some (ns,s.sig.T t::vs)
  | none=>none
 | .cell a t::rs=>match E9 P t (s.sig.T a,ct s.sig.m (s.sig.T a)),EC P s rs with
  | some c,some (ns,vs)=>some (c.need++ns,c.val::vs)
  | _,_=>none
def aEu(P:Program)(s:St)(rs:List ResultVar): Option (List Prop×AV):=match EC P s rs with
 | some (ns,[v])=>some (ns,v)
 | some (ns,vs)=>some (ns,.tup vs)
 | none=>none
def jD(m:Mem)(k:Nat): Nat:=match m.lookup k with | some b=>b.len | none=>0
def tokens(m:Mem): List AV:=m.map λp=>.buf p.1 (jD m p.1)
def Cc(m upd:Mem): Mem:=match m with
 | []=>upd
 | m=>m.map λp=>(p.1,(upd.lookup p.1).getD p.2)
def Za(ret:AV)(m upd:Mem): St:={tm:=[ret],mem:=Cc m upd,nx:=0,sv:=tokens m}
def P8(P:Program)(rng:Bool)(fn:Func)(m:Mem)(r:jP)(s:St): Prop:=match sweep rng s with
 | some s1=>match aEu P s1 fn.results.toList with
  | some (ns,v)=>match Qc {s1 with tm:=[v]} (Za r.ret m r.upd)with
   | some ms=>all ns (all ms True)
   | none=>False
  | none=>False
 | none=>False
def aGd(P:Program)(rng:Bool)(fn:Func)(m:Mem)(r:jP): Exit->St->Prop
 | .normal,s=>P8 P rng fn m r s
 | .ret,s=>P8 P rng fn m r s
 | _,_=>False
def VL: Mem->Nat
 | []=>0
 | p::r=>max (p.1+1) (VL r)
def fe(fn:Func)(args:List AV)(m:Mem): St:=⟨args++List.replicate (fn.ntmps-args.length) (.val undef),m,VL m,tokens m⟩
def pu(m:Mem): Mem->List Prop
 | []=>[]
 | (k,b)::r=>Uo (jD m k) b::pu m r
def wc(m upd:Mem): List Prop:=match m with
 | []=>[]
 | m=>pu m upd
def iz(m:Mem): Bool:=m.all λp=>p.2.simple
def evF(c:Cfg)(A:Ann)(f:FuncId)(args:List AV)(m:Mem)(r:jP): Prop:=match c.P.funcs[f]? with
 | some fn=>match fn.body with
  | some b=>(m.isEmpty||((r.upd.all λp=>m.any λq=>q.1==p.1)&&(iz m&&iz r.upd&&r.ret.simple)))=true/\(r.pre->all (wc m r.upd) (ev c A b (fe fn args m) (aGd c.P c.rng fn m r)))
  | none=>False
 | none=>False
end Go.Eng
namespace Go.Eng
open Go.RowKit
theorem yn{P:Program}{t:TypeId}{v r:Value}{w w':World}(h:(Instr.loadAt t v).run P w=.ok r w'): (do loadVar t (<- asAddr v):Sem Value).run P w=.ok r w':=by
 cases v with
 | pointer a=>
  cases a with
  | some a=>simpa[Instr.loadAt,Instr.sureAddr,asAddr]using h
  | none=>simp[Instr.loadAt,Instr.sureAddr,stuck,Sem.run,Result.andThen]at h
 | _=>simp[Instr.loadAt,Instr.sureAddr,stuck,Sem.run,Result.andThen]at h
theorem oh{S:Base}{s:St}{a:Act}{w:World}{D:Nat->Prop}{E:Nat->Ent}(h:aH S s.sig a w D E): ∀{rs:List ResultVar} {ns:List Prop} {vs:List AV},EC S.P s rs=some (ns,vs)->(∀q∈ns,q)->
  ∃us:Lv,((rs.mapM fun | ResultVar.tmp t=>pure (a.tmps.getD t undef) | .cell ad t=>do loadVar t (<- asAddr (a.tmps.getD ad undef))):Sem (Lv)).run S.P w=.ok us w/\AV.relL S.P ⟨w,D,s.sig.m,E⟩ vs us
 | [],ns,vs,hv,_=>by
  simp only[EC]at hv;cases hv;exact⟨[],by simp,rfl⟩
 | .tmp t::rs,ns,vs,hv,hn=>by
  simp only[EC]at hv;split at hv
  case h_2=>cases hv
  rename_i ns' vs' hvs;cases hv;obtain⟨us,g1,g2⟩:=oh h hvs hn;refine⟨a.tmps.getD t undef::us,?_,_,us,rfl,h.tm t,g2⟩;rw[qDt];simp only[pure_bind,wB,g1,vS,zU]
 | .cell ad t::rs,ns,vs,hv,hn=>by
  simp only[EC]at hv;split at hv
  case h_2=>cases hv
  rename_i c ns' vs' hc hvs;cases hv;obtain⟨us,g1,g2⟩:=oh h hvs (λq hq=>hn q (qH.2 (.inr hq)));obtain⟨r,r1,r2,_,_⟩:=Jt (p:=(s.sig.T ad,ct s.sig.m (s.sig.T ad))) h rfl hc (λq hq=>hn q (qH.2 (.inl hq))) (h.tm ad);refine⟨r::us,?_,_,us,rfl,r2,g2⟩;have r3:=yn r1;rw[qDt,wB];rw[r3];simp only[vS,wB,g1,zU]
theorem sM{P:Program}{fn:Func}{tmps:Array Value}{w:World}{us:Lv}
  (h:((fn.results.toList.mapM fun | ResultVar.tmp t=>pure (tmps.getD t undef) | .cell ad t=>do loadVar t (<- asAddr (tmps.getD ad undef))):Sem (Lv)).run P w=.ok us w):
  (results fn tmps).run P w=.ok (if h:us.toArray.size=1 then us.toArray[0]else .tuple us.toArray) w:=by
 have e:results fn tmps=(do
   let l <- ((fn.results.toList.mapM fun | ResultVar.tmp t=>pure (tmps.getD t undef) | .cell ad t=>do loadVar t (<- asAddr (tmps.getD ad undef))):Sem (Lv))
   let vs:Array Value:=l.toArray
   pure (if h:vs.size=1 then vs[0]else .tuple vs)):=by
  unfold results;rw[qDb,map_eq_pure_bind,bind_assoc];simp only[pure_bind];rfl
 rw[e];simp only[wB,h,vS,zU]
theorem Tj{S:Base}{s:St}{a:Act}{w:World}{D:Nat->Prop}{E:Nat->Ent}(h:aH S s.sig a w D E){fn:Func}{ns:List Prop}{v:AV}(hv:aEu S.P s fn.results.toList=some (ns,v))(hn:∀q∈ns,q):
  ∃u,(results fn a.tmps).run S.P w=.ok u w/\v.rel S.P ⟨w,D,s.sig.m,E⟩ u:=by
 unfold aEu at hv;split at hv
 .rename_i ns1 v1 hv1;cases hv;obtain⟨us',g1,g2⟩:=oh h hv1 hn;obtain⟨u1,_,rfl,g3,g4⟩:=g2;simp only[AV.relL]at g4;subst g4;exact⟨u1,by simpa using sM g1,g3⟩
 .rename_i vs hne hv1;cases hv;obtain⟨us',g1,g2⟩:=oh h hv1 hn;have hl2:=AV.relL_length g2;have hne1:us'.toArray.size≠1:=by
   intro e;have:vs.length=1:=by simpa[hl2]using e
   obtain⟨v1,rfl⟩:=xW.1 this;exact hne v1 rfl
  exact⟨.tuple us'.toArray,by have:=sM g1;rw[dif_neg hne1]at this;exact this,us',rfl,g2⟩
 .cases hv
theorem nD(a:AV): dz (kr a)=true:=by
 unfold kr;split
 .assumption
 .rfl
theorem uc{P:Program}{C:Ctx}{a:AV}{v:Value}(h:a.rel P C v): (kr a).rel P C v:=by
 unfold kr;split
 .exact h
 .trivial
theorem SC{S:Base}{rng:Bool}{s s1:St}(hgd:S.gd=[])(hs:sweep rng s=some s1)(hnod:S.nod=!rng)(hD0:∀b,S.D0 b->b<S.w0.heap.size){a:Act}{w:World}{D:Nat->Prop}{E:Nat->Ent}(h:aH S s.sig a w D E)
  {fn:Func} {R:Ending->World->Prop}
  (hR:∀w2 D2,aH {S with G:=[]} s1.sig {tmps:=a.tmps,defers:=[]} w2 D2 E->∃v,(results fn a.tmps).run S.P w2=.ok v w2/\R (.returned v) w2):
  LeavesInM Fence.wide 0 S.P fn a.tmps R a.defers .returning w:=by
 unfold sweep at hs;split at hs
 .split at hs
  case isFalse=>cases hs
  rename_i hp;cases hs;simp only[qC,qM]at hp;have eT:∀t,(s.tm.map kr).getD t .top=kr (s.tm.getD t .top):=λt=>by
   simp only[qA,qP];cases s.tm[t]? with
   | none=>rfl
   | some x=>rfl
  refine BI hgd hD0 (σ:=(St.sig {s with tm:=s.tm.map kr})) (E:=E) ⟨λt=>?_,λnm b hm=>?_,hp.2⟩ a.defers w D ?_ hR
  .show dz ((s.tm.map kr).getD t .top)=true;rw[eT];exact nD _
  .exact hp.1 (nm,b) (cQ hm)
  .refine⟨h.sz,h.df,λt=>?_,h.bl,h.own,h.inj,h.low,h.dlt,h.dlo,h.dhi,λp hp=>(by cases hp),h.svr,h.pv⟩;show((s.tm.map kr).getD t .top).rel S.P _ _;rw[eT];exact uc (h.tm t)
 .cases hs;rename_i hr;have hr:rng=false:=by simpa using hr
  rw[hr]at hnod;have hd:a.defers=[]:=(h.df.1.1 (by rw[hnod];rfl)).trans hgd;rw[hd];refine hR w D ⟨h.sz,⟨⟨λ_=>hgd.symm,⟨[],hgd.symm⟩,yL⟩,λd hd=>(by cases hd)⟩,h.tm,h.bl,h.own,h.inj,h.low,h.dlt,h.dlo,h.dhi,λp hp=>(by cases hp),h.svr,h.pv⟩
theorem ou(upd:Mem)(k:Nat): ∀m:Mem,(m.map λp=>(p.1,(upd.lookup p.1).getD p.2)).lookup k=(m.lookup k).map λb=>(upd.lookup k).getD b
 | []=>rfl
 | p::m=>by
  obtain⟨q,b⟩:=p;simp only[zH,List.lookup];by_cases e:k=q
  .subst e;simp
  .have:(k==q)=false:=by simpa using e
   simp only[this];exact ou upd k m
theorem oQ(upd:Mem)(k:Nat){m:Mem}(h:m≠[]): (Cc m upd).lookup k=(m.lookup k).map λb=>(upd.lookup k).getD b:=by
 unfold Cc;split
 .exact(h rfl).elim
 .exact ou upd k m
theorem HH{m upd:Mem}(hu:(m.isEmpty||upd.all λp=>m.any λq=>q.1==p.1)=true)(k:Nat): bH (Cc m upd) k=upM (bH m) upd k:=by
 by_cases hm0:m=[]
 .subst hm0;show upd.lookup k=upM (bH []) upd k;unfold upM bH;cases upd.lookup k<;>rfl
 replace hu:upd.all (λp=>m.any λq=>q.1==p.1)=true:=by
  cases m with
  | nil=>exact(hm0 rfl).elim
  | cons _ _=>simpa using hu
 unfold bH upM;rw[oQ upd k hm0];cases h:upd.lookup k with
 | none=>simp
 | some b=>
  have hm:=qM.1 hu _ (cQ h);rw[xZ]at hm;obtain⟨q,q1,q2⟩:=hm;have q2:q.1=k:=by simpa using q2
  have:∃b,m.lookup k=some b:=by
   clear h hu hm0;induction m with
   | nil=>cases q1
   | cons p m ih=>
    obtain⟨p1,p2⟩:=p;simp only[List.lookup];by_cases e:k=p1
    .subst e;exact⟨p2,by simp⟩
    .have e':(k==p1)=false:=by simpa using e
     simp only[e'];rcases zJ.1 q1 with g | g
     .subst g;exact(e q2.symm).elim
     .exact ih g
  obtain⟨b0,hb0⟩:=this;rw[hb0];rfl
theorem uZ{m:Mem}: ∀{u:Mem},(∀p∈pu m u,p)->∀{k:Nat} {b:Blk},u.lookup k=some b->jD m k<=b.len
 | [],_,_,_,h=>by simp at h
 | (k',b')::r,hn,k,b,h=>by
  simp only[pu]at hn;simp only[List.lookup]at h;split at h
  .rename_i e;cases h;have e:k=k':=by simpa using e
   subst e;exact HU (hn _ wL)
  .exact uZ (λp hp=>hn p (zA _ hp)) h
theorem u9{P:Program}{w:World}{D:Nat->Prop}{m:Mem}{E:Nat->Ent}: ∀l:Mem,AV.relL P ⟨w,D,bH m,E⟩ (l.map λp=>.buf p.1 (jD m p.1)) (l.map λp=>(E p.1).handle (jD m p.1))
 | []=>rfl
 | p::l=>⟨_,_,rfl,λb hb=>by
   have e:jD m p.1=b.len:=by
    unfold jD;have hb':m.lookup p.1=some b:=hb;rw[hb']
   exact⟨zV e,λ_=>rfl⟩,u9 l⟩
theorem qe{P:Program}{w:World}{D:Nat->Prop}{m:Mem}{m':Nat->Option Blk}{E E':Nat->Ent}: ∀{l:Mem},AV.relL P ⟨w,D,m',E'⟩ (l.map λp=>.buf p.1 (jD m p.1)) (l.map λp=>(E p.1).handle (jD m p.1))->
  ∀p∈l,∀b,m' p.1=some b->b.len=jD m p.1->Ag (E p.1) (E' p.1)
 | [],_,p,hp,_,_,_=>by cases hp
 | q::l,h,p,hp,b,hb,hl=>by
  obtain⟨u,us,e,g1,g2⟩:=h;simp only[zH,qR]at e;obtain⟨e1,e2⟩:=e;rcases zJ.1 hp with g | g
  .subst g;have:=(g1 b hb).2 hl;exact SR (e1.trans this)
  .subst e2;exact qe g2 p g b hb hl
theorem ot{S:Base}{fn:Func}{R:Ending->World->Prop}{ch:List PanicEntry}(hgd:S.gd=[])(hD0:∀b,S.D0 b->b<S.w0.heap.size){σ:Sig}(hp:C7 σ){E:Nat->Ent}{tmps:Array Value}: ∀(ds:List Deferred) (w:World) (D:Nat->Prop),
  aH {S with G:=[]} σ {tmps:=tmps,defers:=ds} w D E->(∀w2 D2,aH {S with G:=[]} σ {tmps:=tmps,defers:=[]} w2 D2 E->R (.panicked ch) w2)->
  LeavesInM Fence.wide 0 S.P fn tmps R ds (.panicking ch) w
 | [],w,D,h,hR=>hR w D h
 | d::ds,w,D,h,hR=>by
  rcases h.df.2 d wL with⟨g,_⟩ | ⟨k,rfl,_⟩
  .have g:d∈S.gd:=g;rw[hgd]at g;cases g
  obtain⟨h1,h2⟩:=aH.shr (a:={tmps:=tmps,defers:=[]}) h hp hD0 (by rw[hgd];intro d hd;cases hd);exact⟨by simp,.inl ⟨k,_,rfl,run_takeDeferred h1,ot hgd hD0 hp ds _ _ h2 hR⟩⟩
theorem MN{S:Base}{rng:Bool}{s:St}(hgd:S.gd=[])(hs:(sweep rng s).isSome=true)(hnod:S.nod=!rng)(hD0:∀b,S.D0 b->b<S.w0.heap.size){a:Act}{w:World}{D:Nat->Prop}{E:Nat->Ent}(h:aH S s.sig a w D E)
  {fn:Func} {R:Ending->World->Prop} {ch:List PanicEntry} (hR:∀w2,Chg S.O S.w0 w2->R (.panicked ch) w2):LeavesInM Fence.wide 0 S.P fn a.tmps R a.defers (.panicking ch) w:=by
 unfold sweep at hs;split at hs
 .split at hs
  case isFalse=>cases hs
  rename_i hp;simp only[qC,qM]at hp;have eT:∀t,(s.tm.map kr).getD t .top=kr (s.tm.getD t .top):=λt=>by
   simp only[qA,qP];cases s.tm[t]? with
   | none=>rfl
   | some x=>rfl
  refine ot hgd hD0 (σ:=(St.sig {s with tm:=s.tm.map kr})) (E:=E) ⟨λt=>?_,λnm b hm=>?_,hp.2⟩ a.defers w D ?_ (λw2 D2 h2=>hR w2 h2.low)
  .show dz ((s.tm.map kr).getD t .top)=true;rw[eT];exact nD _
  .exact hp.1 (nm,b) (cQ hm)
  .refine⟨h.sz,h.df,λt=>?_,h.bl,h.own,h.inj,h.low,h.dlt,h.dlo,h.dhi,λp hp=>(by cases hp),h.svr,h.pv⟩;show((s.tm.map kr).getD t .top).rel S.P _ _;rw[eT];exact uc (h.tm t)
 .rename_i hr;have hr:rng=false:=by simpa using hr
  rw[hr]at hnod;have hd:a.defers=[]:=(h.df.1.1 (by rw[hnod];rfl)).trans hgd;rw[hd];exact hR w h.low
theorem FR{c:Cfg}{args:List AV}{m:Mem}{r:jP}{fn:Func}{X:List PanicEntry->Prop}{Z:Prop}(hK:ak c.P c.G c.K)(hI:bv c.P c.G c.KI)(hm:c.P.follows .mixedOrders=true)(hKP:bO c.P c.G c.KP)
  (hu0:(m.isEmpty||((r.upd.all λp=>m.any λq=>q.1==p.1)&&(iz m&&iz r.upd&&r.ret.simple)))=true) (hlens:∀p∈wc m r.upd,p)
  (w:World) (D:Nat->Prop) (E:Nat->Ent) (us:Lv) (hD:∀b,D b->b<w.heap.size) (hG:jX c.P ⟨w,D,bH m,E⟩ c.G) (hargs:AV.relL c.P ⟨w,D,bH m,E⟩ args us) (hH:Held c.P w D (bH m) E):
  ∃S:Base,S={P:=c.P,w0:=w,D0:=D,N:=args.length+(fn.ntmps-args.length),O:=bn (bH m) E,G:=c.G,sv:=m.map λp=>(E p.1).handle (jD m p.1),rd:=none,nod:=!c.rng}/\OkS c S/\(fe fn args m).tm.length=S.N/\aH S (fe fn args m).sig {tmps:=us.toArray++Array.replicate (fn.ntmps-us.toArray.size) undef,defers:=[]} w D E/\
   ∀s' a' w',Sim S s'.sig a' w'->Z->P8 c.P c.rng fn m r s'->LeavesInM Fence.wide 0 c.P fn a'.tmps (λe w'=>(Z/\∃v D' E',e=.returned v/\Left c.P (bH m) r.upd w D E w' D' E'/\r.ret.rel c.P ⟨w',D',upM (bH m) r.upd,E'⟩ v)\/∃ch,e=.panicked ch/\X ch/\Chg (bn (bH m) E) w w') a'.defers .returning w':=by
 have hu:(m.isEmpty||r.upd.all λp=>m.any λq=>q.1==p.1)=true:=by
  rw[yE]at hu0 ⊢;exact hu0.imp id λg=>(qC _ _▸g:_/\_).1
 have hsim:m≠[]->iz m=true/\iz r.upd=true/\r.ret.simple=true:=λhne=>by
  rw[yE]at hu0;rcases hu0 with g | g
  .exact(hne (wO.1 g)).elim
  .simp only[qC]at g;exact⟨g.2.1.1,g.2.1.2,g.2.2⟩
 have simB:∀{m2:Mem} {nm:Nat} {b:Blk},iz m2=true->m2.lookup nm=some b->b.simple=true:=λ{m2 nm b} hs hl=>by
  have:=qM.1 hs (nm,b) (cQ hl);exact this
 have pm0:∀nm i b,b8 (bH m) E nm i b->False:=λnm i b g=>by
  obtain⟨_,_,_,_,_,_,g1,_⟩:=g;have g1':m.lookup nm=some _:=g1;have hne:m≠[]:=λe=>by subst e;cases g1'
  have:=simB (hsim hne).1 g1';cases this
 have hlen:args.length=us.length:=AV.relL_length hargs;obtain⟨S,hS⟩:∃S:Base,S={P:=c.P,w0:=w,D0:=D,N:=args.length+(fn.ntmps-args.length),O:=bn (bH m) E,G:=c.G,sv:=m.map λp=>(E p.1).handle (jD m p.1),rd:=none,nod:=!c.rng}:=⟨_,rfl⟩;have hSF:S.F=Fence.wide:=by rw[hS];rfl
 have hSP:S.P=c.P:=by rw[hS]
 have hstart:aH S (fe fn args m).sig {tmps:=us.toArray++Array.replicate (fn.ntmps-us.toArray.size) undef,defers:=[]} w D E:=by
  rw[hS];refine⟨?_,⟨⟨λ_=>rfl,⟨[],rfl⟩,yL⟩,λd hd=>(by cases hd)⟩,λt=>?_,hH.bl,λnm b hm hi=>⟨.inr ⟨nm,b,hm,hi,rfl⟩,hH.own nm b hm hi⟩,hH.inj,Chg.refl _ _,hD,λb hb=>hb,λb hb=>.inl hb,hG,u9 m,fb.nil pm0⟩
  .show(us.toArray++Array.replicate (fn.ntmps-us.toArray.size) undef).size=args.length+(fn.ntmps-args.length);simp[hlen]
  .show((args++List.replicate (fn.ntmps-args.length) (AV.val undef)).getD t .top).rel c.P ⟨w,D,bH m,E⟩ _;rw[qA,qK];by_cases ht:t<args.length
   .rw[vJ ht,xY (by simpa using hlen▸ht)];obtain⟨u,g1,g2⟩:=AV.relL_get hargs (qB ht);rw[qB ht];simp only[kG,g1,qQ];exact g2
   .rw[qW (by omega),xR (by simp;omega)];rw[wQ,yF];split
    .rename_i h1;rw[if_pos (by simp;omega)];rfl
    .trivial
 have HO:OkS c S:=by
  rw[hS];exact⟨rfl,rfl,hK,hI,hm,λe=>(e rfl).elim,λ_=>rfl,hKP⟩
 have hln:(fe fn args m).tm.length=S.N:=by rw[hS];simp[fe]
 refine⟨S,hS,HO,hln,hstart,λs' a' w' hs' hz hq=>?_⟩;unfold P8 at hq;split at hq
 case h_2=>exact hq.elim
 rename_i s1 hs1;split at hq
 case h_2=>exact hq.elim
 rename_i ns v hv;split at hq
 case h_2=>exact hq.elim
 rename_i ms hms;obtain⟨hns,hq⟩:=bL hq;obtain⟨hms2,_⟩:=bL hq;obtain⟨D',E',hd⟩:=hs';rw[<- hSP];refine SC (by rw[hS]) hs1 (by rw[hS]) (by rw[hS];exact hD) hd (λw2 D2 h2=>?_);rw[hSP];obtain⟨u,hu1,hu2⟩:=Tj h2 (fn:=fn) (by rw[hS];exact hv) hns;rw[hSP]at hu1 hu2;refine⟨u,hu1,?_⟩;obtain⟨S1,hS1⟩:∃S1:Base,S1={S with G:=[],N:=1}:=⟨_,rfl⟩
 have h3:aH S1 (St.sig {s1 with tm:=[v]}) {tmps:=#[u],defers:=[]} w2 D2 E':=by
  rw[hS1];refine⟨rfl,h2.df,λt=>?_,h2.bl,h2.own,h2.inj,h2.low,h2.dlt,h2.dlo,h2.dhi,h2.gl,h2.svr,h2.pv⟩;cases t with
  | zero=>show AV.rel S.P _ v u;rw[hSP];exact hu2
  | succ t=>trivial
 obtain⟨D3,E3,h4,_,_,_⟩:=xo h3 hms hms2;have hP1:S1.P=c.P:=by rw[hS1,hS]
 have hm3:∀k,(Za r.ret m r.upd).sig.m k=upM (bH m) r.upd k:=λk=>HH hu k
 have hm4:(Za r.ret m r.upd).sig.m=upM (bH m) r.upd:=funext hm3;have hrel3:r.ret.rel c.P ⟨w2,D3,upM (bH m) r.upd,E3⟩ u:=by
  have:=h4.tm 0;rw[hP1,hm4]at this;exact this
 have hpv:fb w.heap.size (bn (bH m) E) (upM (bH m) r.upd) E3 w2.heap.size D3:=by
  have:=h4.pv;rw[hS1,hS,hm4]at this;exact this
 have hchg:Chg (bn (bH m) E) w w2:=by
  have:=h4.low;rw[hS1,hS]at this;exact this
 by_cases hm0:m=[]
 ·
  subst hm0
  refine .inl ⟨hz,u,D3,E3,rfl,⟨hchg,λb hb=>h4.dlo b (by rw[hS1,hS];exact hb),λb hb=>?_,h4.dlt,⟨λnm b hb=>?_,λnm b hb hi=>(h4.own nm b (by rw[hm3];exact hb) hi).2,λnm nm' b b' hb hb' hi hi' e=>h4.inj nm nm' b b' (by rw[hm3];exact hb) (by rw[hm3];exact hb') hi hi' e,⟨λnm i b g=>⟨.inr trivial,(hpv.own nm i b g).2⟩,hpv.ent,hpv.inj⟩⟩,λ_ _ _ h0=>(by cases h0),λ_ _ _ h0=>(by cases h0),λnm b _ hb hi=>?_,λnm i b g=>.inr (by
   rcases(hpv.own nm i b g).1 with q | ⟨_,_,q,_⟩
   .exact q
   .cases q)⟩,hrel3⟩
  .have:=h4.dhi b hb;rw[hS1,hS]at this;rcases this with g | g | ⟨nm,blk,g1,_⟩
   .exact .inl g
   .exact .inr (.inl g)
   .cases g1
  .have:=h4.bl nm b (by rw[hm3];exact hb);rw[hP1,hm4]at this;exact this
  .have:=(h4.own nm b (by rw[hm3];exact hb) hi).1;rw[hS1,hS]at this;rcases this with g | ⟨nm2,blk,g1,_⟩
   .exact g
   .cases g1
 have hlensM:∀p∈pu m r.upd,p:=by
  have e:wc m r.upd=pu m r.upd:=by
   unfold wc;split
   .exact(hm0 rfl).elim
   .rfl
  rw[<- e];exact hlens
 have hlen4:∀nm b,upM (bH m) r.upd nm=some b->∃b0,m.lookup nm=some b0/\jD m nm<=b.len:=λnm b hb=>by
  rw[<- HH hu]at hb;have hb':(Cc m r.upd).lookup nm=some b:=hb;rw[oQ _ _ hm0]at hb';cases h0:m.lookup nm with
  | none=>rw[h0]at hb';cases hb'
  | some b0=>
   rw[h0]at hb';refine⟨b0,rfl,?_⟩;cases h1:r.upd.lookup nm with
   | none=>
    rw[h1]at hb';simp only[zL,Option.getD_none,vZ]at hb';subst hb';unfold jD;rw[h0];exact qJ _
   | some b1=>
    rw[h1]at hb';simp only[zL,qQ,vZ]at hb';subst hb';exact uZ hlensM h1
 obtain⟨E4,hE4⟩:∃E4:Nat->Ent,E4=λnm=>match upM (bH m) r.upd nm with | some b=>if b.len=jD m nm then E nm else E3 nm | none=>E3 nm:=⟨_,rfl⟩
 have e4s:∀nm b,upM (bH m) r.upd nm=some b->b.len=jD m nm->E4 nm=E nm:=λnm b hb hl=>by rw[hE4];simp only[hb];exact if_pos hl
 have e4n:∀nm b,upM (bH m) r.upd nm=some b->b.len≠jD m nm->E4 nm=E3 nm:=λnm b hb hl=>by rw[hE4];simp only[hb];exact if_neg hl
 have hsame:∀nm b,upM (bH m) r.upd nm=some b->Ag (E3 nm) (E4 nm):=λnm b hb=>by
  by_cases hb1:b.len=jD m nm
  .rw[e4s nm b hb hb1];obtain⟨b0,hb0,_⟩:=hlen4 nm b hb;have hsv:=h4.svr;have e1:S1.sv=m.map λp=>(E p.1).handle (jD m p.1):=by rw[hS1,hS]
   rw[e1]at hsv;have:=qe hsv (nm,b0) (cQ hb0) b (by rw[hm3];exact hb) hb1;exact⟨this.1.symm,λe=>by obtain⟨q1,q2⟩:=this.2 (this.1.trans e);exact⟨q1.symm,q2.symm⟩⟩
  .rw[e4n nm b hb hb1];exact⟨rfl,λ_=>⟨rfl,rfl⟩⟩
 have ownE:∀nm b,upM (bH m) r.upd nm=some b->(E4 nm).isNil=false->(E4 nm).b<w2.heap.size/\¬D3 (E4 nm).b:=λnm b hb hi=>by
  obtain⟨q1,q2⟩:=hsame nm b hb;obtain⟨g1,g2,g3⟩:=h4.own nm b (by rw[hm3];exact hb) (q1.trans hi);rw[(q2 (q1.trans hi)).1]at g2 g3;exact⟨g2,g3⟩
 have simU:∀nm b,upM (bH m) r.upd nm=some b->b.simple=true:=λnm b hb=>by
  rw[db]at hb;split at hb
  .rename_i b1 h1;cases hb;exact simB (hsim hm0).2.1 h1
  .exact simB (hsim hm0).1 hb
 have noPriv:∀nm i b,b8 (upM (bH m) r.upd) E4 nm i b->False:=λnm i b g=>by
  obtain⟨_,_,_,_,_,_,g1,_⟩:=g;have:=simU nm _ g1;cases this
 refine .inl ⟨hz,u,D3,E4,rfl,⟨hchg,λb hb=>h4.dlo b (by rw[hS1,hS];exact hb),λb hb=>?_,h4.dlt,⟨λnm b hb=>?_,ownE,λnm nm' b b' hb hb' hi hi' e=>?_,fb.nil noPriv⟩,λnm b b' h0 hb' hl=>e4s nm b' hb' (by rw[hl];unfold jD;rw[show m.lookup nm=some b from h0]),λnm b b' h0 hb' hi=>?_,λnm b h0 hb=>?_,λnm i b g=>(noPriv nm i b g).elim⟩,AV.rel_ent (s:=false) (λnm b hb=>⟨hsame nm b hb,λe=>by cases e⟩) (λ_=>(hsim hm0).2.2) hrel3⟩
 .have:=h4.dhi b hb;rw[hS1,hS]at this;rcases this with g | g | ⟨nm,blk,g1,g2,g3⟩
  .exact .inl g
  .exact .inr (.inl g)
  .exact .inr (.inr ⟨nm,blk,g1,g2,g3⟩)
 .have:=h4.bl nm b (by rw[hm3];exact hb);rw[hP1,hm4]at this;exact dE.ent (s:=false) (λnm b hb=>⟨hsame nm b hb,λe=>by cases e⟩) ⟨hsame nm b hb,λe=>by cases e⟩ (λ_=>simU nm b hb) this
 .obtain⟨q1,q2⟩:=hsame nm b hb;obtain⟨q3,q4⟩:=hsame nm' b' hb';refine h4.inj nm nm' b b' (by rw[hm3];exact hb) (by rw[hm3];exact hb') (q1.trans hi) (q3.trans hi') ?_;rw[(q2 (q1.trans hi)).1,(q4 (q3.trans hi')).1];exact e
 .obtain⟨q1,q2⟩:=hsame nm b' hb';have:=(h4.own nm b' (by rw[hm3];exact hb') (q1.trans hi)).1;rw[hS1,hS,(q2 (q1.trans hi)).1]at this;exact this.symm
 .obtain⟨b1,g1,_⟩:=hlen4 nm b hb;have h0':m.lookup nm=none:=h0;rw[g1]at h0';cases h0'
theorem OD{c:Cfg}{A:Ann}{f:FuncId}{args:List AV}{m:Mem}{r:jP}{fn:Func}{b:Code}{Qg:Exit->St->Prop}{X:List PanicEntry->Prop}{Z:Prop}(hK:ak c.P c.G c.K)(hI:bv c.P c.G c.KI)(hm:c.P.follows .mixedOrders=true)(hKP:bO c.P c.G c.KP)
  (hf:c.P.funcs[f]?=some fn) (hb:fn.body=some b) (hu0:(m.isEmpty||((r.upd.all λp=>m.any λq=>q.1==p.1)&&(iz m&&iz r.upd&&r.ret.simple)))=true) (hlens:∀p∈wc m r.upd,p)
  (h:ev c A b (fe fn args m) Qg) (hQ:∀e s,Qg e s->((e=.normal\/e=.ret)/\Z/\P8 c.P c.rng fn m r s)\/∃ch,e=.panic ch/\(sweep c.rng s).isSome=true/\X ch)
  (w:World) (D:Nat->Prop) (E:Nat->Ent) (us:Lv) (hD:∀b,D b->b<w.heap.size) (hG:jX c.P ⟨w,D,bH m,E⟩ c.G) (hargs:AV.relL c.P ⟨w,D,bH m,E⟩ args us) (hH:Held c.P w D (bH m) E):
  Calls c.P f us.toArray w λe w'=>(Z/\∃v D' E',e=.returned v/\Left c.P (bH m) r.upd w D E w' D' E'/\r.ret.rel c.P ⟨w',D',upM (bH m) r.upd,E'⟩ v)\/∃ch,e=.panicked ch/\X ch/\Chg (bn (bH m) E) w w':=by
 obtain⟨S,hS,HO,hln,hstart,key⟩:=FR (fn:=fn) (X:=X) (Z:=Z) hK hI hm hKP hu0 hlens w D E us hD hG hargs hH;have hSP:S.P=c.P:=by rw[hS]
 refine(callsIn_wide (n:=0)).1 (rR hf hb ?_)
 suffices hgo:At S.P S.rd b (bodyPostM Fence.wide 0 c.P fn λe w'=>(Z/\∃v D' E',e=.returned v/\Left c.P (bH m) r.upd w D E w' D' E'/\r.ret.rel c.P ⟨w',D',upM (bH m) r.upd,E'⟩ v)\/∃ch,e=.panicked ch/\X ch/\Chg (bn (bH m) E) w w')
   {tmps:=us.toArray++Array.replicate (fn.ntmps-us.toArray.size) undef,defers:=[]} w by
  rw[hSP,show S.rd=none by rw[hS]]at hgo;exact hgo
 refine kq b S (fe fn args m) Qg _ HO h hln (λe s' hq hl a' w' hs'=>?_) _ w ⟨D,E,hstart⟩;rcases hQ e s' hq with⟨he,hz,hq2⟩ | ⟨ch,rfl,hsw,hx⟩
 .rcases he with rfl | rfl
  .exact key s' a' w' hs' hz hq2
  .exact key s' a' w' hs' hz hq2
 .obtain⟨D',E',hd⟩:=hs';show LeavesInM Fence.wide 0 c.P fn a'.tmps _ a'.defers (.panicking ch) w';rw[<- hSP];refine MN (by rw[hS]) hsw (by rw[hS]) (by rw[hS];exact hD) hd λw2 h2=>?_
  rw[hS]at h2;exact .inr ⟨ch,rfl,hx,h2⟩
theorem AN{c:Cfg}{A:Ann}{f:FuncId}{args:List AV}{m:Mem}{r:jP}(hK:ak c.P c.G c.K)(hI:bv c.P c.G c.KI)(hm:c.P.follows .mixedOrders=true)(hKP:bO c.P c.G c.KP)(h:evF c A f args m r): af c.P c.G f args m r:=by
 intro hpre w D E us hD hG hargs hH;unfold evF at h;split at h
 case h_2=>exact h.elim
 rename_i fn hf;split at h
 case h_2=>exact h.elim
 rename_i b hb;obtain⟨hu0,h⟩:=h;obtain⟨hlens,h⟩:=bL (h hpre);refine(OD (X:=λ_=>False) (Z:=True) hK hI hm hKP hf hb hu0 hlens h (λe s hq=>?_) w D E us hD hG hargs hH).mono λe w' he=>?_
 .cases e<;>first
   | exact .inl ⟨.inl rfl,trivial,hq⟩
   | exact .inl ⟨.inr rfl,trivial,hq⟩
   | exact hq.elim
 .rcases he with⟨_,g⟩ | ⟨_,_,g,_⟩
  .exact g
  .exact g.elim
def evM(c:Cfg)(A:Ann)(f:FuncId)(args:List AV)(m:Mem)(ret:AV)(upd:Mem)(q:w8): Prop:=match c.P.funcs[f]? with
 | some fn=>match fn.body with
  | some b=>(m.isEmpty||((upd.all λp=>m.any λq=>q.1==p.1)&&(iz m&&iz upd&&ret.simple)))=true/\(q.pre->all (wc m upd) (ev c A b (fe fn args m) (λe s=>match e with
   | .normal=>q.ok=true/\P8 c.P c.rng fn m ⟨True,ret,upd⟩ s
   | .ret=>q.ok=true/\P8 c.P c.rng fn m ⟨True,ret,upd⟩ s
   | .panic ch=>q.ok=false/\(sweep c.rng s).isSome=true/\ch=chainOf q.pan
   | _=>False)))
  | none=>False
 | none=>False
abbrev evC(c:Cfg)(A:Ann)(f:FuncId)(args:List AV)(ret:AV)(q:w8): Prop:=evM c A f args [] ret [] q
theorem cC{c:Cfg}{A:Ann}{f:FuncId}{args:List AV}{m:Mem}{ret:AV}{upd:Mem}{q:w8}(hK:ak c.P c.G c.K)(hI:bv c.P c.G c.KI)(hm:c.P.follows .mixedOrders=true)(hKP:bO c.P c.G c.KP)(h:evM c A f args m ret upd q):
  af c.P c.G f args m ⟨q.pre/\q.ok=true,ret,upd⟩/\da c.P c.G f args m q:=by
 unfold evM at h;split at h
 case h_2=>exact h.elim
 rename_i fn hf;split at h
 case h_2=>exact h.elim
 rename_i b hb;obtain⟨hu0,h⟩:=h;have key:=λ(hpre:q.pre)=>by
  obtain⟨hlens,h⟩:=bL (h hpre);exact OD (m:=m) (r:=⟨True,ret,upd⟩) (X:=λch=>q.ok=false/\ch=chainOf q.pan) (Z:=q.ok=true) hK hI hm hKP hf hb hu0 hlens h (λe s hq=>by
   cases e<;>first
    | exact .inl ⟨.inl rfl,hq⟩
    | exact .inl ⟨.inr rfl,hq⟩
    | exact .inr ⟨_,rfl,hq.2.1,hq.1,hq.2.2⟩
    | exact hq.elim)
 refine⟨λ⟨hpre,hok⟩ w D E us hD hG hargs hH=>(key hpre w D E us hD hG hargs hH).mono λe w' he=>?_,λhpre hk w D E us hD hG hargs hH=>(key hpre w D E us hD hG hargs hH).mono λe w' he=>?_⟩
 .rcases he with⟨_,g⟩ | ⟨_,_,⟨g,_⟩,_⟩
  .exact g
  .rw[hok]at g;cases g
 .rcases he with⟨g,_⟩ | ⟨ch,g1,⟨_,g2⟩,g3⟩
  .rw[hk]at g;cases g
  .subst g2;exact⟨g1,g3⟩
theorem dF{c:Cfg}{A:Ann}{f:FuncId}{args:List AV}{ret:AV}{q:w8}(hK:ak c.P c.G c.K)(hI:bv c.P c.G c.KI)(hm:c.P.follows .mixedOrders=true)(hKP:bO c.P c.G c.KP)(h:evC c A f args ret q):
  af c.P c.G f args [] ⟨q.pre/\q.ok=true,ret,[]⟩/\da c.P c.G f args [] q:=cC hK hI hm hKP h
theorem ae{c:Cfg}{A:Ann}{f:FuncId}{args:List AV}{m:Mem}{r:jP}(hK:ak c.P c.G c.K)(hI:bv c.P c.G c.KI)(hm:c.P.follows .mixedOrders=true)(h:evF c A f args m r)(hKP:c.KP=λ_ _ _=>none:=by rfl): af c.P c.G f args m r:=
 AN hK hI hm (λf args m r h=>by rw[hKP]at h;cases h) h
end Go.Eng
namespace Go.Eng
open Go.RowKit
def Vu: Code->Option (Code×Array Oper×Code)
 | .seq pre (.seq (.region _ ops false) rest)=>some (pre,ops,rest)
 | _=>none
def Vv: Code->Option (Array Oper×Code)
 | .seq (.region _ ops false) rest=>some (ops,rest)
 | _=>none
def guardOf: List Oper->Option (Tmp×FuncId×List Operand)
 | [⟨some t,.makeFunc (.func cf) first caps,_,_,_,none⟩,⟨none,.defer ⟨.value (.tmp t'),dargs,_⟩,_,_,_,none⟩]=>if first.isEmpty&&t==t'&&dargs.isEmpty then some (t,cf,caps.toList)else none
 | _=>none
def Bf: List Oper->Option (Tmp×Tmp)
 | [⟨some t3,.call ⟨.builtin .recover,rargs,_⟩,_,_,_,none⟩,⟨some t2,.assign (.tmp t),_,_,_,none⟩]=>if t==t3&&rargs.isEmpty then some (t3,t2)else none
 | _=>none
def uO(G:List (Nat×AV))(t:Tmp)(cf:FuncId)(caps:List Operand)(s:St): St:={setSlot (some t) (.fn cf (caps.map (evT G s.sig.T))) s with sv:=caps.map (evT G s.sig.T)}
def US(fc:Func)(t3 t2:Tmp)(rec:AV)(s:St): St:=setSlot (some t2) rec (setSlot (some t3) rec ⟨s.sv++List.replicate (fc.ntmps-s.sv.length) (.val undef),s.mem,s.nx,s.tm⟩)
def TD: List PanicEntry->Option AV
 | [⟨.iface t (.int k x),false,false⟩]=>some (.ifc t (.dat (.int k) x))
 | _=>none
def oV(c:Cfg)(Ac:Ann)(fn fc:Func)(crest:Code)(t3 t2:Tmp)(r:jP)(rec:AV)(s:St): Prop:=
 nC (some t3) (s.sv.length+(fc.ntmps-s.sv.length))=true/\nC (some t2) (s.sv.length+(fc.ntmps-s.sv.length))=true/\ev c Ac crest (US fc t3 t2 rec s) (λe s3=>match e with
  | .normal=>P8 c.P c.rng fn [] r (xg s3)
  | .ret=>P8 c.P c.rng fn [] r (xg s3)
  | _=>False)
def aFt(c:Cfg)(Ac:Ann)(fn fc:Func)(crest:Code)(t3 t2:Tmp)(r:jP): Exit->St->Prop
 | .normal,s=>oV c Ac fn fc crest t3 t2 r (.val .nilIface) s
 | .ret,s=>oV c Ac fn fc crest t3 t2 r (.val .nilIface) s
 | .panic ch,s=>match TD ch with
  | some v=>oV c Ac fn fc crest t3 t2 r v s
  | none=>False
 | _,_=>False
structure P6 where
 fn:Func
 pre:Code
 rest:Code
 t:Tmp
 cf:FuncId
 caps:List Operand
 fc:Func
 crest:Code
 t3:Tmp
 t2:Tmp
def Hw(P:Program)(f:FuncId): Option P6:=match P.funcs[f]? with
 | some fn=>match fn.body with
  | some b=>match Vu b with
   | some (pre,gops,rest)=>match guardOf gops.toList with
    | some (t,cf,caps)=>match P.funcs[cf]? with
     | some fc=>match fc.body with
      | some cb=>match Vv cb with
       | some (rops,crest)=>match Bf rops.toList with
        | some (t3,t2)=>if fc.results.toList.isEmpty then some ⟨fn,pre,rest,t,cf,caps,fc,crest,t3,t2⟩else none
        | none=>none
       | none=>none
      | none=>none
     | none=>none
    | none=>none
   | none=>none
  | none=>none
 | none=>none
def evG(c:Cfg)(A Ac:Ann)(f:FuncId)(args:List AV)(r:jP): Prop:=match Hw c.P f with
 | some g=>(c.rng=false/\goes c.P g.cf=true)/\(r.pre->ev c A g.pre (fe g.fn args []) (λe s=>match e with
   | .normal=>nC (some g.t) s.tm.length=true/\ev c A g.rest (uO c.G g.t g.cf g.caps s) (aFt c Ac g.fn g.fc g.crest g.t3 g.t2 r)
   | _=>False))
 | none=>False
structure aCK (P:Program) (f:FuncId) (g:P6):Prop where
 f:P.funcs[f]?=some g.fn
 b:∃gid gops,g.fn.body=some (.seq g.pre (.seq (.region gid gops false) g.rest))/\guardOf gops.toList=some (g.t,g.cf,g.caps)
 cf:P.funcs[g.cf]?=some g.fc
 cb:∃cid rops,g.fc.body=some (.seq (.region cid rops false) g.crest)/\Bf rops.toList=some (g.t3,g.t2)
 res:g.fc.results=#[]
theorem Bi{P:Program}{f:FuncId}{g:P6}(h:Hw P f=some g): aCK P f g:=by
 unfold Hw at h;split at h
 case h_2=>cases h
 rename_i fn hf;split at h
 case h_2=>cases h
 rename_i b hb;split at h
 case h_2=>cases h
 rename_i pre gops rest hs;split at h
 case h_2=>cases h
 rename_i t cf caps hg;split at h
 case h_2=>cases h
 rename_i fc hcf;split at h
 case h_2=>cases h
 rename_i cb hcb;split at h
 case h_2=>cases h
 rename_i rops crest hsc;split at h
 case h_2=>cases h
 rename_i t3 t2 hr;split at h
 case isFalse=>cases h
 rename_i hres;cases h;refine⟨hf,?_,hcf,?_,yB (wO.1 hres)⟩
 .unfold Vu at hs;split at hs
  .cases hs;exact⟨_,_,hb,hg⟩
  .cases hs
 .unfold Vv at hsc;split at hsc
  .cases hsc;exact⟨_,_,hcb,hr⟩
  .cases hsc
inductive Z2:FrameMode->Value->FrameMode->Prop where
 | ret:Z2 .returning .nilIface .returning
 | pan (v:Value):Z2 (.panicking [{v:=v,recovered:=false}]) v (.panicking [{v:=v,recovered:=true}])
theorem Ph{P:Program}{cf:FuncId}{fc:Func}{cid:Nat}{rops:Array Oper}{crest:Code}{t3 t2:Tmp}(hf:P.funcs[cf]?=some fc)(hb:fc.body=some (.seq (.region cid rops false) crest))(hr:Bf rops.toList=some (t3,t2))(hres:fc.results=#[])
  {args:Array Value} {u u2:FrameMode} {rv:Value} (hrec:Z2 u rv u2) {w:World} {R:World->Prop} {a0:Act} (ha0:a0={tmps:=args++Array.replicate (fc.ntmps-args.size) undef,defers:=[]})
  (h:At P none crest (λe a w=>(e=.normal\/e=.ret)/\a.defers=[]/\R w) ((a0.put (some t3) rv).put (some t2) ((a0.put (some t3) rv).eval (.tmp t3))) w):
  CallsDIn Fence.wide 0 P cf args u w λe u' w'=>(∃v,e=.returned v)/\u'=u2/\R w':=by
 refine⟨trivial,λc cs hu hroom=>?_⟩;obtain⟨b,hB⟩:∃b:Frame,b={ (default:Frame)with fn:=cf,kind:=.deferred,roundOf:=none}:=⟨_,rfl⟩;have hfn:b.fn=cf:=by rw[hB]
 have hk:b.kind=.deferred:=by rw[hB]
 have hro:b.roundOf=none:=by rw[hB]
 have e0:Frame.enter P cf args .deferred=b.atR a0 [.code (.seq (.region cid rops false) crest)]:=by rw[hB,ha0];simp[Frame.enter,Frame.atR,hf,hb]
 unfold Bf at hr;split at hr
 case h_2=>cases hr
 rename_i t3' rargs at1 ty1 pos1 af1 t2' t ty2 pos2 af2 hl;split at hr
 case isFalse=>cases hr
 rename_i hc;simp only[qC,xH,qCy]at hc;obtain⟨rfl,rfl⟩:=hc;simp only[vZ,qCb]at hr;obtain⟨rfl,rfl⟩:=hr;obtain⟨o1,ho1⟩:∃o1:Oper,o1=⟨some t,.call ⟨.builtin .recover,#[],at1⟩,ty1,pos1,af1,none⟩:=⟨_,rfl⟩;obtain⟨o2,ho2⟩:∃o2:Oper,o2=⟨some t2',.assign (.tmp t),ty2,pos2,af2,none⟩:=⟨_,rfl⟩;have hops:rops=#[o1,o2]:=by
  apply yB;rw[ho1,ho2];exact hl
 have w1n:∀g,Region.wanted o1 g=true:=λg=>by rw[ho1];rfl
 have w2n:∀g,Region.wanted o2 g=true:=λg=>by rw[ho2];rfl
 have x1:∀a:Act,(execOp a.eval o1).run P w=.ok .recover w:=λa=>by
  rw[ho1];simp[execOp,resolve,invoke,builtin]
 have x2:∀a:Act,(execOp a.eval o2).run P w=.ok (.value (a.eval (.tmp t))) w:=λa=>by rw[ho2];rfl
 have d1:o1.dst=some t:=by rw[ho1]
 have d2:o2.dst=some t2':=by rw[ho2]
 have hw:wpOpsSIn Fence.wide 0 P rops (λe a' cs' w'=>e=.normal/\a'=(a0.put (some t) rv).put (some t2') ((a0.put (some t) rv).eval (.tmp t))/\cs'={c with mode:=u2}::cs/\w'=w) (List.range rops.size) a0 (c::cs) w:=by
  have hsz:rops.size=2:=by rw[hops];rfl
  rw[hsz];have h0:rops[0]?=some o1:=by rw[hops];rfl
  have h1:rops[1]?=some o2:=by rw[hops];rfl
  show wpOpsSIn _ _ _ _ _ [0,1] _ _ _;simp only[wpOpsSIn,h0,h1,w1n,w2n,xU,x1,x2,d1,d2];refine⟨λ_ _=>trivial,?_⟩;cases hrec with
  | ret=>
   have hrd:recoverD (c::cs)=none:=by simp[recoverD,hu]
   rw[hrd];refine⟨λ_ _=>trivial,trivial,rfl,?_,trivial⟩;rw[<- hu]
  | pan v=>
   have hrd:recoverD (c::cs)=some (rv,{c with mode:=.panicking [{v:=rv,recovered:=true}]}::cs):=by simp[recoverD,hu]
   rw[hrd];exact⟨λ_ _=>trivial,trivial,rfl,rfl,trivial⟩
 obtain⟨e1,a1,cs1,w1,_,⟨rfl,rfl,rfl,rfl⟩,harr⟩:=wp_opsSIn _ a0 (c::cs) w hw b [.code crest] hk hro trivial (room_wide _);have hs1:StepsIn Any P (lone (Frame.enter P cf args .deferred) (c::cs) w1) (lone (b.atR ((a0.put (some t) rv).put (some t2') ((a0.put (some t) rv).eval (.tmp t))) [.code crest]) ({c with mode:=u2}::cs) w1):=by
  rw[e0];exact(fV stepR_seq).trans ((fV stepR_region).trans (toAny harr))
 obtain⟨e,a',w',⟨he,hd,hR⟩,r⟩:=h b [] ({c with mode:=u2}::cs) hro (by rw[hfn,hf];rfl);have done:∀todo,StepsIn Any P (lone (b.atR ((a0.put (some t) rv).put (some t2') ((a0.put (some t) rv).eval (.tmp t))) [.code crest]) ({c with mode:=u2}::cs) w1) (lone {b.atR a' todo with mode:=.returning} ({c with mode:=u2}::cs) w')->
   ∃e u' w2 fr,((∃v,e=.returned v)/\u'=u2/\R w2)/\ComesIn (Machine.fenced P Fence.wide) P (lone (Frame.enter P cf args .deferred) (c::cs) w1) (lone fr ({c with mode:=u' }::cs) w2) e/\fr.kind=.deferred/\fr.fn=cf/\fr.going P w2 e:=
  λtodo hs=>⟨.returned (.tuple #[]),u2,w',{b.atR a' todo with mode:=.returning},⟨⟨_,rfl⟩,rfl,hR⟩,TJ (hs1.trans hs),hk,hfn,rfl,hd,fc,(by rw[show({b.atR a' todo with mode:=.returning}:Frame).fn=cf from hfn];exact hf),by simp[results,hres]⟩
 rcases he with rfl | rfl
 .exact done [] (StepsIn.trans r (fV (stepR_end hro)))
 .obtain⟨todo,hs⟩:=r.1 hro;exact done todo hs
theorem aH.clo {S:Base} {σ:Sig} {a:Act} {w:World} {D:Nat->Prop} {E:Nat->Ent} (h:aH S σ a w D E) {N:Nat} {tm:Nat->AV} {tmps:Array Value} (hsz:tmps.size=N)
  (htm:∀t,(tm t).rel S.P ⟨w,D,σ.m,E⟩ (tmps.getD t undef)) {sv:List AV} {vs:Lv} (hs:AV.relL S.P ⟨w,D,σ.m,E⟩ sv vs):
  aH {P:=S.P,w0:=w,D0:=D,N:=N,O:=aG σ.m E,G:=S.G,sv:=vs,rd:=none,nod:=true} ⟨tm,σ.m,sv⟩ {tmps:=tmps,defers:=[]} w D E:=
 ⟨hsz,⟨⟨λ_=>rfl,⟨[],rfl⟩,yL⟩,λd hd=>by cases hd⟩,htm,h.bl,λnm b hm hi=>⟨.inr (.inl ⟨nm,b,hm,hi,rfl⟩),(h.own nm b hm hi).2⟩,h.inj,Chg.refl _ _,h.dlt,λ_ g=>g,λ_ g=>.inl g,h.gl,hs,
  ⟨λnm i b g=>⟨.inr (.inr ⟨nm,i,g⟩),(h.pv.own nm i b g).2⟩,h.pv.ent,h.pv.inj⟩⟩
theorem aBf{args:List AV}{n:Nat}{us:Lv}{P:Program}{C:Ctx}(h:AV.relL P C args us)(t:Nat):
  ((args++List.replicate (n-args.length) (AV.val undef)).getD t .top).rel P C ((us.toArray++Array.replicate (n-us.toArray.size) undef).getD t undef):=by
 have hlen:args.length=us.length:=AV.relL_length h;rw[qA,qK];by_cases ht:t<args.length
 .rw[vJ ht,xY (by simpa using hlen▸ht)];obtain⟨u,g1,g2⟩:=AV.relL_get h (qB ht);rw[qB ht];simp only[kG,g1,qQ];exact g2
 .rw[qW (by omega),xR (by simp;omega)];rw[wQ,yF];split
  .rename_i h1;rw[if_pos (by simp;omega)];rfl
  .trivial
theorem Ik{c:Cfg}{Ac:Ann}{fn fc:Func}{cf:FuncId}{cid:Nat}{rops:Array Oper}{crest:Code}{t3 t2:Tmp}{r:jP}{S:Base}(HO:OkS c S)(hrng:c.rng=false)(hSs:S.sv=[])(hSr:S.rd=none)(hSn:S.nod=true)(hSg:S.gd=[])
  (hf:c.P.funcs[cf]?=some fc) (hb:fc.body=some (.seq (.region cid rops false) crest)) (hr:Bf rops.toList=some (t3,t2)) (hres:fc.results=#[]) (hgo:goes c.P cf=true) {POST:Ending->World->Prop}
  (key:∀s' a' w',Sim S s'.sig a' w'->True->P8 c.P c.rng fn [] r s'->LeavesInM Fence.wide 0 c.P fn a'.tmps POST a'.defers .returning w')
  {us:Lv} {d:Deferred} (hd:d={target:=.fn (.func cf) us.toArray,args:=#[]}) {u u2:FrameMode} {rv:Value} (hrec:Z2 u rv u2) (hu2:settle u2=.returning) (hur:u≠.run) {rec:AV} {s:St} {a:Act} {w:World}
  (hs:Sim {S with gd:=[d],sv:=us} s.sig a w) (hl:s.tm.length=S.N) (hrv:∀C:Ctx,rec.rel c.P C rv) (h:oV c Ac fn fc crest t3 t2 r rec s):LeavesInM Fence.wide 0 c.P fn a.tmps POST [d] u w:=by
 obtain⟨h1,h2,h3⟩:=h;obtain⟨D,E,hd1⟩:=hs;have hP:=HO.P;obtain⟨Sc,hSc⟩:∃Sc:Base,Sc={P:=S.P,w0:=w,D0:=D,N:=s.sv.length+(fc.ntmps-s.sv.length),O:=aG s.sig.m E,G:=S.G,sv:=a.tmps.toList,rd:=none,nod:=true}:=⟨_,rfl⟩;obtain⟨a0,ha0⟩:∃a0:Act,a0={tmps:=us.toArray++Array.replicate (fc.ntmps-us.toArray.size) undef,defers:=[]}:=⟨_,rfl⟩;have hcaps:AV.relL S.P ⟨w,D,s.sig.m,E⟩ s.sv us:=hd1.svr
 have hlen:s.sv.length=us.length:=AV.relL_length hcaps;have svs:AV.relL S.P ⟨w,D,s.sig.m,E⟩ s.tm a.tmps.toList:=by
  have hsz:a.tmps.size=S.N:=hd1.sz;refine AV.relL_mk (by rw[hl,vI,hsz]) λi av v hi hv=>?_
  have:=hd1.tm i;have e1:s.sig.T i=av:=by show s.tm.getD i .top=av;rw[qA,hi];rfl
  have e2:a.tmps.getD i undef=v:=by
   rw[qK];simp only[zX]at hv;rw[hv];rfl
  rw[e1]at this;simpa only[e2]using this
 obtain⟨s0,hs0⟩:∃s0:St,s0=⟨s.sv++List.replicate (fc.ntmps-s.sv.length) (.val undef),s.mem,s.nx,s.tm⟩:=⟨_,rfl⟩;have hc0:aH Sc s0.sig a0 w D E:=by
  have hsz0:(us.toArray++Array.replicate (fc.ntmps-us.toArray.size) undef).size=s.sv.length+(fc.ntmps-s.sv.length):=by simp[hlen]
  have:=hd1.clo (N:=s.sv.length+(fc.ntmps-s.sv.length)) (tm:=s0.sig.T) (tmps:=us.toArray++Array.replicate (fc.ntmps-us.toArray.size) undef) hsz0 (λt=>by rw[hs0];exact aBf hcaps t) svs;rw[hSc,ha0,hs0];rw[hs0]at this;exact this
 have hl0:s0.tm.length=Sc.N:=by rw[hs0,hSc];simp
 have hSP:Sc.P=S.P:=by rw[hSc]
 have hc1:aH Sc (setSlot (some t3) rec s0).sig (a0.put (some t3) rv) w D E:=hc0.slot hl0 (by rw[hl0,hSc];exact h1) (by rw[hSP,<- hP];exact hrv _);have hl1:(setSlot (some t3) rec s0).tm.length=Sc.N:=by simp[setSlot,hl0]
 have hc2:aH Sc (US fc t3 t2 rec s).sig ((a0.put (some t3) rv).put (some t2) ((a0.put (some t3) rv).eval (.tmp t3))) w D E:=by
  have h5:=hc1.tm t3;have e5:(setSlot (some t3) rec s0).sig.T t3=rec:=by
   show(s0.tm.set t3 rec).getD t3 .top=rec;have ht:t3<s0.tm.length:=by rw[hl0,hSc];simpa[nC]using h1
   rw[qA,qBy ht];rfl
  rw[e5]at h5;have:=hc1.slot (d:=some t2) (x:=rec) (v:=(a0.put (some t3) rv).tmps.getD t3 undef) hl1 (by rw[hl1,hSc];exact h2) h5;rw[hs0]at this;exact this
 have HOc:OkS c Sc:=by
  rw[hSc];exact⟨HO.P,HO.G,HO.K,HO.I,HO.m,λe=>(e rfl).elim,λ_=>by rw[hrng];rfl,HO.KP⟩
 have hat:=kq crest Sc (US fc t3 t2 rec s) _ (λe a' w'=>(e=.normal\/e=.ret)/\a'.defers=[]/\LeavesInM Fence.wide 0 c.P fn a.tmps POST [] .returning w') HOc h3 (by show _=Sc.N;simp[US,setSlot];rw[hSc]) (λe s3 hq hl3 a3 w3 hs3=>by
  obtain⟨D3,E3,h5⟩:=hs3;have hdef:a3.defers=[]:=(h5.df.1.1 (by rw[hSc])).trans (by rw[hSc]);have own1:∀bk,aG s.sig.m E bk->S.w0.heap.size<=bk\/S.O bk:=λbk g0=>(hd1.ownAll g0).1
  have hlow:Chg S.O S.w0 w3:=by
   have l1:Chg S.O S.w0 w:=hd1.low;have l2:Chg (aG s.sig.m E) w w3:=by have:=h5.low;rw[hSc]at this;exact this
   refine l1.step l2.os l2.tape l2.output l2.size λq hq hno=>l2.block q (qN hq l1.size) λg=>?_
   rcases own1 q g with g | g
   .omega
   .exact hno g
  have hout:aH S (xg s3).sig {tmps:=a.tmps,defers:=[]} w3 D3 E3:=
   h5.leave (S:=S) (a0:={tmps:=a.tmps,defers:=[]}) hSP (by rw[hSc]) (by rw[hSc]) hd1.sz (λbk g=>by
    rw[hSc]at g;rcases g with g | g
    .exact .inl (wE (show S.w0.heap.size<=w.heap.size from hd1.low.size) g)
    .exact own1 bk g) hlow (λbk g=>h5.dlo bk (by rw[hSc];exact hd1.dlo bk g)) (λbk g=>by
    have:=h5.dhi bk g;rw[hSc]at this;rcases this with g | g | g
    .exact hd1.dhi bk g
    .exact .inr (.inl (wE (show S.w0.heap.size<=w.heap.size from hd1.low.size) g))
    .exact(own1 bk g).elim (λg=>.inr (.inl g)) (λg=>.inr (.inr g))) ⟨⟨λ_=>hSg.symm,⟨[],hSg.symm⟩,yL⟩,λd hd=>(by cases hd)⟩ hSs
  have fin:=λhq=>key (xg s3) {tmps:=a.tmps,defers:=[]} w3 ⟨D3,E3,hout⟩ trivial hq
  cases e<;>first
   | exact⟨.inl rfl,hdef,fin hq⟩
   | exact⟨.inr rfl,hdef,fin hq⟩
   | exact hq.elim) _ w ⟨D,E,hc2⟩
 rw[show Sc.P=c.P by rw[hSP,hP],show Sc.rd=none by rw[hSc]]at hat;have hcall:=Ph (args:=us.toArray) hf hb hr hres hrec ha0 hat;subst hd;refine⟨hur,.inr ⟨λh=>(by cases h),.func cf,us.toArray,cf,us.toArray,rfl,?_,λ_ _=>trivial,hcall.mono λe u' w' he=>?_⟩⟩
 .simp only[invoke,kW];exact jG hgo w us.toArray
 .obtain⟨⟨v,rfl⟩,rfl,hq⟩:=he;show LeavesInM _ _ _ _ _ _ _ (settle u') w';rw[hu2];exact hq
theorem Hy{ch:List PanicEntry}{v:AV}(h:TD ch=some v): ∃rv,ch=[{v:=rv,recovered:=false}]/\∀(P:Program) (C:Ctx),v.rel P C rv:=by
 unfold TD at h;split at h
 .rename_i t k x;cases h;exact⟨_,rfl,λP C=>⟨_,rfl,rfl⟩⟩
 .cases h
theorem lF{c:Cfg}{A Ac:Ann}{f:FuncId}{args:List AV}{r:jP}(hK:ak c.P c.G c.K)(hI:bv c.P c.G c.KI)(hm:c.P.follows .mixedOrders=true)(hKP:bO c.P c.G c.KP)(h:evG c A Ac f args r): af c.P c.G f args [] r:=by
 intro hpre w D E us hD hG hargs hH;unfold evG at h;split at h
 case h_2=>exact h.elim
 rename_i g hg;obtain⟨⟨hrng,hgo⟩,h⟩:=h;have h:=h hpre;obtain⟨hf,⟨gid,gops,hb,hgd⟩,hcf,⟨cid,rops,hcb,hrec⟩,hres⟩:=Bi hg;obtain⟨S,hS,HO,hln,hstart,key⟩:=FR (m:=[]) (r:=r) (fn:=g.fn) (X:=λ_=>False) (Z:=True) hK hI hm hKP rfl (λ_ h=>by cases h) w D E us hD hG hargs hH;have hSP:S.P=c.P:=by rw[hS]
 have hSr:S.rd=none:=by rw[hS]
 have hSs:S.sv=[]:=by rw[hS];rfl
 have hSg:S.gd=[]:=by rw[hS]
 have hSn:S.nod=true:=by rw[hS];show(!c.rng)=true;rw[hrng];rfl
 suffices hfin:Calls c.P f us.toArray w (λe w'=>(True/\∃v D' E',e=.returned v/\Left c.P (bH []) r.upd w D E w' D' E'/\r.ret.rel c.P ⟨w',D',upM (bH []) r.upd,E'⟩ v)\/∃ch,e=.panicked ch/\False/\Chg (bn (bH []) E) w w')from
  hfin.mono λe w' he=>by
   rcases he with⟨_,g⟩ | ⟨_,_,g,_⟩
   .exact g
   .exact g.elim
 refine(callsIn_wide (n:=0)).1 (rR hf hb ?_)
 suffices hgo2:At S.P S.rd (.seq g.pre (.seq (.region gid gops false) g.rest)) (bodyPostM Fence.wide 0 c.P g.fn (λe w'=>(True/\∃v D' E',e=.returned v/\Left c.P (bH []) r.upd w D E w' D' E'/\r.ret.rel c.P ⟨w',D',upM (bH []) r.upd,E'⟩ v)\/∃ch,e=.panicked ch/\False/\Chg (bn (bH []) E) w w'))
   {tmps:=us.toArray++Array.replicate (g.fn.ntmps-us.toArray.size) undef,defers:=[]} w by
  rw[hSP,hSr]at hgo2;exact hgo2
 refine uA (kq g.pre S (fe g.fn args []) _ _ HO h hln (λe s hq hl a1 w1 hs=>?_) _ w ⟨D,E,hstart⟩);cases e<;>first | exact hq.elim | skip
 obtain⟨hdt,hrest⟩:=hq;obtain⟨D1,E1,hd1⟩:=hs;have hdef:a1.defers=[]:=(hd1.df.1.1 hSn).trans hSg;unfold guardOf at hgd;split at hgd
 case h_2=>cases hgd
 rename_i t cf first caps ty1 pos1 af1 t' dargs at2 ty2 pos2 af2 hl0
 split at hgd
 case isFalse=>cases hgd
 rename_i hc;simp only[qC,xH,qCy]at hc;obtain⟨⟨rfl,rfl⟩,rfl⟩:=hc;simp only[vZ,qCb]at hgd;obtain⟨e1,e2,e3⟩:=hgd;obtain⟨o1,ho1⟩:∃o1:Oper,o1=⟨some t,.makeFunc (.func cf) #[] caps,ty1,pos1,af1,none⟩:=⟨_,rfl⟩;obtain⟨o2,ho2⟩:∃o2:Oper,o2=⟨none,.defer ⟨.value (.tmp t),#[],at2⟩,ty2,pos2,af2,none⟩:=⟨_,rfl⟩;have hops:gops=#[o1,o2]:=by
  apply yB;rw[ho1,ho2];exact hl0
 have hcapv:AV.relL S.P ⟨w1,D1,s.sig.m,E1⟩ (g.caps.map (evT c.G s.sig.T)) (g.caps.map a1.eval):=by
  refine AV.relL_mk (by simp) λj av u h1 h2=>?_
  simp only[qP,qBw]at h1 h2;obtain⟨x,hx,rfl⟩:=h1;obtain⟨x',hx',rfl⟩:=h2;rw[hx]at hx';cases hx';have:=dN hd1 x;rw[<- HO.G]at this;exact this
 obtain⟨fv,hfv⟩:∃fv:Value,fv=.func (.func cf) #[] (g.caps.map a1.eval).toArray:=⟨_,rfl⟩;obtain⟨d,hd⟩:∃d:Deferred,d={target:=.fn (.func g.cf) (g.caps.map a1.eval).toArray,args:=#[]}:=⟨_,rfl⟩;have ht:t<S.N:=by
  rw[e1];rw[<- hl];simpa[nC]using hdt
 have hsz1:a1.tmps.size=S.N:=hd1.sz;have hev:(a1.put (some t) fv).eval (.tmp t)=fv:=by
  show(a1.tmps.setIfInBounds t fv).getD t undef=fv;simp[Array.getD,hsz1,ht]
 have x1:(execOp a1.eval o1).run S.P w1=.ok (.value fv) w1:=by
  rw[ho1,hfv,<- e3,<- toList_map];simp[execOp,Instr.makeFunc]
 have x2:(execOp (a1.put (some t) fv).eval o2).run S.P w1=.ok (.defer d) w1:=by
  rw[ho2,hd,<- e2];have:(a1.put (some t) fv).eval (.tmp t)=.func (.func cf) #[] (g.caps.map a1.eval).toArray:=by rw[hev,hfv]
  simp only[execOp,resolve,this,Deferred.ofValue];simp
 have hreg:At S.P S.rd (.region gid gops false) (Exit.then (At S.P S.rd g.rest (bodyPostM Fence.wide 0 c.P g.fn λe w'=>(True/\∃v D' E',e=.returned v/\Left c.P (bH []) r.upd w D E w' D' E'/\r.ret.rel c.P ⟨w',D',upM (bH []) r.upd,E'⟩ v)\/∃ch,e=.panicked ch/\False/\Chg (bn (bH []) E) w w'))
   (bodyPostM Fence.wide 0 c.P g.fn λe w'=>(True/\∃v D' E',e=.returned v/\Left c.P (bH []) r.upd w D E w' D' E'/\r.ret.rel c.P ⟨w',D',upM (bH []) r.upd,E'⟩ v)\/∃ch,e=.panicked ch/\False/\Chg (bn (bH []) E) w w')) a1 w1:=by
  refine U6 (wpIn_region ?_);have hF:S.F=Fence.wide:=by unfold Base.F;rw[hSr]
  rw[hF];have hz:gops.size=2:=by rw[hops];rfl
  rw[hz];have h0:gops[0]?=some o1:=by rw[hops];rfl
  have h1:gops[1]?=some o2:=by rw[hops];rfl
  show wpOpsIn _ _ _ _ _ [0,1] _ _;have w1n:∀g,Region.wanted o1 g=true:=λg=>by rw[ho1];rfl
  have w2n:∀g,Region.wanted o2 g=true:=λg=>by rw[ho2];rfl
  have d1:o1.dst=some t:=by rw[ho1]
  have d2:o2.dst=none:=by rw[ho2]
  simp only[wpOpsIn,h0,h1,w1n,w2n,xU,Oper.wpIn];refine⟨λ_ _=>trivial,?_⟩;rw[show Fence.wide.round=none from rfl,Oper.semAt_none,x1,Oper.uponIn_value,d1];refine⟨λ_ _=>trivial,?_⟩;rw[Oper.semAt_none,x2,Oper.uponIn_defer,d2];obtain⟨S2,hS2⟩:∃S2:Base,S2={S with gd:=[d],sv:=g.caps.map a1.eval}:=⟨_,rfl⟩;have HO2:OkS c S2:=by
   rw[hS2];exact⟨HO.P,HO.G,HO.K,HO.I,HO.m,λe=>(e hSr).elim,λ_=>HO.nod hSr,HO.KP⟩
  have hslot:=hd1.slot (d:=some t) (v:=fv) (x:=.fn cf (g.caps.map (evT c.G s.sig.T))) hl (by rw[e1];exact hdt) ⟨_,hfv,hcapv⟩;have hd2:aH S2 (uO c.G g.t g.cf g.caps s).sig { (a1.put (some t) fv)with defers:=d::(a1.put (some t) fv).defers} w1 D1 E1:=by
   have hde:(a1.put (some t) fv).defers=[]:=hdef;rw[hde,<- e1,<- e2,hS2];refine⟨hslot.sz,⟨⟨λ_=>rfl,⟨[],rfl⟩,qAg _ _⟩,λq hq=>.inl ⟨hq,λk e=>?_⟩⟩,hslot.tm,hslot.bl,hslot.own,hslot.inj,hslot.low,hslot.dlt,hslot.dlo,hslot.dhi,hslot.gl,hcapv,hslot.pv⟩;rw[vG]at hq;rw[hq,hd]at e;cases e
  have hl2:(uO c.G g.t g.cf g.caps s).tm.length=S2.N:=by rw[hS2];simp[uO,setSlot,hl]
  have hclose:∀{u u2:FrameMode} {rv:Value} {rec:AV} (_:Z2 u rv u2) (_:settle u2=.returning) (_:u≠.run) (_:∀C:Ctx,rec.rel c.P C rv) (s':St) (a':Act) (w':World),Sim S2 s'.sig a' w'->s'.tm.length=S2.N->oV c Ac g.fn g.fc g.crest g.t3 g.t2 r rec s'->
    LeavesInM Fence.wide 0 c.P g.fn a'.tmps _ a'.defers u w':=λh1 h2 h3 h4 s' a' w' hs' hl' hq=>by
   have hdd:a'.defers=[d]:=by
    obtain⟨D5,E5,h5⟩:=hs';have:=h5.df.1.1 (by rw[hS2];exact hSn);rw[this,hS2]
   rw[hdd];exact Ik HO hrng hSs hSr hSn hSg hcf hcb hrec hres hgo key hd h1 h2 h3 (by rw[<- hS2];exact hs') (by rw[hl',hS2]) h4 hq
  have hat:=kq g.rest S2 (uO c.G g.t g.cf g.caps s) _ (bodyPostM Fence.wide 0 c.P g.fn λe w'=>(True/\∃v D' E',e=.returned v/\Left c.P (bH []) r.upd w D E w' D' E'/\r.ret.rel c.P ⟨w',D',upM (bH []) r.upd,E'⟩ v)\/∃ch,e=.panicked ch/\False/\Chg (bn (bH []) E) w w') HO2 hrest hl2 (λe s' hq hl' a' w' hs'=>by
   cases e with
   | normal=>exact hclose (rec:=.val .nilIface) .ret rfl (by simp) (λ_=>rfl) s' a' w' hs' hl' hq
   | ret=>exact hclose (rec:=.val .nilIface) .ret rfl (by simp) (λ_=>rfl) s' a' w' hs' hl' hq
   | panic ch=>
    simp only[aFt]at hq;split at hq
    case h_2=>exact hq.elim
    rename_i v hv;obtain⟨rv,rfl,hrv⟩:=Hy hv;exact hclose (.pan rv) rfl (by simp) (λC=>hrv c.P C) s' a' w' hs' hl' hq
   | exit id=>exact hq.elim
   | goto l=>exact hq.elim
   | outgrown=>exact hq.elim) _ w1 ⟨D1,E1,hd2⟩
  rw[show S2.P=S.P by rw[hS2],show S2.rd=S.rd by rw[hS2]]at hat;exact hat
 exact uA hreg
end Go.Eng
namespace Go.Eng
open Go.RowKit
def Cfg.norng (c:Cfg):Cfg:={c with rng:=false}
def Cfg.bare (c:Cfg) (Kz:Kt):Cfg:=⟨c.P,[],Kz,c.mb,λ_ _=>none,false,λ_ _ _=>none,λ_=>false⟩
def Av(c:Cfg)(s:St)(Q:St->Prop): Prop:=match sweep c.rng s with
 | some s1=>Q s1
 | none=>False
def aFs(c:Cfg)(Kz:Kt)(Ac:Ann)(fn fc:Func)(crest:Code)(t3 t2:Tmp)(r:jP): Exit->St->Prop
 | .normal,s=>Av c s (oV (c.bare Kz) Ac fn fc crest t3 t2 r (.val .nilIface))
 | .ret,s=>Av c s (oV (c.bare Kz) Ac fn fc crest t3 t2 r (.val .nilIface))
 | .panic ch,s=>match TD ch with
  | some v=>Av c s (oV (c.bare Kz) Ac fn fc crest t3 t2 r v)
  | none=>False
 | _,_=>False
def evR(c:Cfg)(Kz:Kt)(A0 A Ac:Ann)(f:FuncId)(args:List AV)(r:jP): Prop:=match Hw c.P f with
 | some g=>(c.rng=true/\goes c.P g.cf=true)/\(r.pre->ev c.norng A0 g.pre (fe g.fn args []) (λe s=>match e with
   | .normal=>nC (some g.t) s.tm.length=true/\ev c A g.rest (uO c.G g.t g.cf g.caps s) (aFs c Kz Ac g.fn g.fc g.crest g.t3 g.t2 r)
   | _=>False))
 | none=>False
theorem MM{S:Base}{rng:Bool}{s s1:St}(hs:sweep rng s=some s1){a:Act}{w:World}{D:Nat->Prop}{E:Nat->Ent}(h:aH S s.sig a w D E)(hr:rng=true): C7 s1.sig/\aH S s1.sig a w D E/\s1.tm.length=s.tm.length:=by
 subst hr;unfold sweep at hs;simp only[xU]at hs;split at hs
 case isFalse=>cases hs
 rename_i hp;cases hs;simp only[qC,qM]at hp;have eT:∀t,(s.tm.map kr).getD t .top=kr (s.tm.getD t .top):=λt=>by
  simp only[qA,qP];cases s.tm[t]? with
  | none=>rfl
  | some x=>rfl
 refine⟨⟨λt=>?_,λnm b hm=>hp.1 (nm,b) (cQ hm),hp.2⟩,⟨h.sz,h.df,λt=>?_,h.bl,h.own,h.inj,h.low,h.dlt,h.dlo,h.dhi,h.gl,h.svr,h.pv⟩,by simp⟩
 .show dz ((s.tm.map kr).getD t .top)=true;rw[eT];exact nD _
 .show((s.tm.map kr).getD t .top).rel S.P _ _;rw[eT];exact uc (h.tm t)
theorem qy{S:Base}{fn:Func}{R:Ending->World->Prop}{u:FrameMode}{gd:List Deferred}(hgd:S.gd=gd)(hgn:∀d∈gd,∀k,d.target≠.collected k)(hD0:∀b,S.D0 b->b<S.w0.heap.size){σ:Sig}(hp:C7 σ)(hu:u≠.run){E:Nat->Ent}{tmps:Array Value}: ∀(ds:List Deferred) (w:World) (D:Nat->Prop),
  aH {S with G:=[]} σ {tmps:=tmps,defers:=ds} w D E->(∀w2 D2,aH {S with G:=[]} σ {tmps:=tmps,defers:=gd} w2 D2 E->LeavesInM Fence.wide 0 S.P fn tmps R gd u w2)->
  LeavesInM Fence.wide 0 S.P fn tmps R ds u w
 | [],w,D,h,hR=>by
  have hg:gd=[]:=by
   obtain⟨ms,e⟩:=h.df.1.2.1;have e:[]=ms++S.gd:=e;rw[hgd]at e;exact(qCa.1 e.symm).2
  have:=hR w D (by rw[hg];exact h);rw[hg]at this;exact this
 | d::ds,w,D,h,hR=>by
  rcases h.df.2 d wL with⟨g,_⟩ | ⟨k,rfl,_⟩
  .have g:d∈S.gd:=g;rw[hgd]at g;have e:d::ds=gd:=by
    obtain⟨⟨_,⟨ms,e⟩,hpw⟩,hall⟩:=h.df;have e:d::ds=ms++gd:=by rw[<- hgd];exact e
    cases ms with
    | nil=>exact e
    | cons x ms=>
     exfalso;simp only[List.cons_append,qR]at e;obtain⟨rfl,e2⟩:=e;have hm:d∈ds:=by rw[e2];exact qH.2 (.inr g)
     exact(kD.1 hpw).1 d hm rfl
   rw[e]at h ⊢;exact hR w D h
  obtain⟨h1,h2⟩:=aH.shr (a:={tmps:=tmps,defers:=[]}) h hp hD0 (by rw[hgd];exact hgn);exact⟨hu,.inl ⟨k,_,rfl,run_takeDeferred h1,qy hgd hgn hD0 hp hu ds _ _ h2 hR⟩⟩
theorem qg{c:Cfg}{Kz:Kt}{A A0 Ac:Ann}{f:FuncId}{args:List AV}{r:jP}(hKz:ak c.P [] Kz)(hK:ak c.P c.G c.K)(hI:bv c.P c.G c.KI)(hm:c.P.follows .mixedOrders=true)(hKP:bO c.P c.G c.KP)(h:evR c Kz A0 A Ac f args r): af c.P c.G f args [] r:=by
 intro hpre w D E us hD hG hargs hH;unfold evR at h;split at h
 case h_2=>exact h.elim
 rename_i g hg;obtain⟨⟨hrng,hgo⟩,h⟩:=h;have h:=h hpre;obtain⟨hf,⟨gid,gops,hb,hgd⟩,hcf,⟨cid,rops,hcb,hrec⟩,hres⟩:=Bi hg;obtain⟨Z,hZ,HOZ,hlnZ,hstartZ,key⟩:=FR (c:=c.bare Kz) (m:=[]) (r:=r) (fn:=g.fn) (X:=λ_=>False) (Z:=True) hKz (λ_ _ _ h=>by cases h) hm (λ_ _ _ _ h=>by cases h) rfl (λ_ h=>by cases h) w D E us hD (λp hp=>by cases hp) hargs hH;obtain⟨S,hS⟩:∃S:Base,S={Z with G:=c.G}:=⟨_,rfl⟩
 have hZP:Z.P=c.P:=by rw[hZ];rfl
 have hZG:Z.G=[]:=by rw[hZ];rfl
 have hZr:Z.rd=none:=by rw[hZ]
 have hZs:Z.sv=[]:=by rw[hZ];rfl
 have hZg:Z.gd=[]:=by rw[hZ]
 have hZn:Z.nod=true:=by rw[hZ];rfl
 have hSP:S.P=c.P:=by rw[hS];exact hZP
 have HO:OkS c.norng S:=by
  rw[hS,hZ];exact⟨rfl,rfl,hK,hI,hm,λe=>(e rfl).elim,λ_=>rfl,hKP⟩
 have hln:(fe g.fn args []).tm.length=S.N:=by rw[hS];exact hlnZ
 have hstart:aH S (fe g.fn args []).sig {tmps:=us.toArray++Array.replicate (g.fn.ntmps-us.toArray.size) undef,defers:=[]} w D E:=by
  rw[hS];exact⟨hstartZ.sz,hstartZ.df,λx=>by rw[show({Z with G:=c.G}:Base).P=Z.P from rfl];exact hstartZ.tm x,hstartZ.bl,hstartZ.own,hstartZ.inj,hstartZ.low,hstartZ.dlt,hstartZ.dlo,hstartZ.dhi,by show jX Z.P _ c.G;rw[hZP];exact hG,hstartZ.svr,hstartZ.pv⟩
 have hSr:S.rd=none:=by rw[hS];exact hZr
 have hSg:S.gd=[]:=by rw[hS];exact hZg
 have hSn:S.nod=true:=by rw[hS];exact hZn
 suffices hfin:Calls c.P f us.toArray w (λe w'=>(True/\∃v D' E',e=.returned v/\Left c.P (bH []) r.upd w D E w' D' E'/\r.ret.rel c.P ⟨w',D',upM (bH []) r.upd,E'⟩ v)\/∃ch,e=.panicked ch/\False/\Chg (bn (bH []) E) w w')from
  hfin.mono λe w' he=>by
   rcases he with⟨_,g⟩ | ⟨_,_,g,_⟩
   .exact g
   .exact g.elim
 refine(callsIn_wide (n:=0)).1 (rR hf hb ?_)
 suffices hgo2:At S.P S.rd (.seq g.pre (.seq (.region gid gops false) g.rest)) (bodyPostM Fence.wide 0 c.P g.fn (λe w'=>(True/\∃v D' E',e=.returned v/\Left c.P (bH []) r.upd w D E w' D' E'/\r.ret.rel c.P ⟨w',D',upM (bH []) r.upd,E'⟩ v)\/∃ch,e=.panicked ch/\False/\Chg (bn (bH []) E) w w'))
   {tmps:=us.toArray++Array.replicate (g.fn.ntmps-us.toArray.size) undef,defers:=[]} w by
  rw[hSP,hSr]at hgo2;exact hgo2
 refine uA (kq (c:=c.norng) g.pre S (fe g.fn args []) _ _ HO h hln (λe s hq hl a1 w1 hs=>?_) _ w ⟨D,E,hstart⟩);cases e<;>first | exact hq.elim | skip
 obtain⟨hdt,hrest⟩:=hq;obtain⟨D1,E1,hd1⟩:=hs;have hdef:a1.defers=[]:=(hd1.df.1.1 hSn).trans hSg;unfold guardOf at hgd;split at hgd
 case h_2=>cases hgd
 rename_i t cf first caps ty1 pos1 af1 t' dargs at2 ty2 pos2 af2 hl0
 split at hgd
 case isFalse=>cases hgd
 rename_i hc;simp only[qC,xH,qCy]at hc;obtain⟨⟨rfl,rfl⟩,rfl⟩:=hc;simp only[vZ,qCb]at hgd;obtain⟨e1,e2,e3⟩:=hgd;obtain⟨o1,ho1⟩:∃o1:Oper,o1=⟨some t,.makeFunc (.func cf) #[] caps,ty1,pos1,af1,none⟩:=⟨_,rfl⟩;obtain⟨o2,ho2⟩:∃o2:Oper,o2=⟨none,.defer ⟨.value (.tmp t),#[],at2⟩,ty2,pos2,af2,none⟩:=⟨_,rfl⟩;have hops:gops=#[o1,o2]:=by
  apply yB;rw[ho1,ho2];exact hl0
 have hcapv:AV.relL S.P ⟨w1,D1,s.sig.m,E1⟩ (g.caps.map (evT c.G s.sig.T)) (g.caps.map a1.eval):=by
  refine AV.relL_mk (by simp) λj av u h1 h2=>?_
  simp only[qP,qBw]at h1 h2;obtain⟨x,hx,rfl⟩:=h1;obtain⟨x',hx',rfl⟩:=h2;rw[hx]at hx';cases hx';have:=dN hd1 x;rw[<- HO.G]at this;exact this
 obtain⟨fv,hfv⟩:∃fv:Value,fv=.func (.func cf) #[] (g.caps.map a1.eval).toArray:=⟨_,rfl⟩;obtain⟨d,hd⟩:∃d:Deferred,d={target:=.fn (.func g.cf) (g.caps.map a1.eval).toArray,args:=#[]}:=⟨_,rfl⟩;have ht:t<S.N:=by
  rw[e1];rw[<- hl];simpa[nC]using hdt
 have hsz1:a1.tmps.size=S.N:=hd1.sz;have hev:(a1.put (some t) fv).eval (.tmp t)=fv:=by
  show(a1.tmps.setIfInBounds t fv).getD t undef=fv;simp[Array.getD,hsz1,ht]
 have x1:(execOp a1.eval o1).run S.P w1=.ok (.value fv) w1:=by
  rw[ho1,hfv,<- e3,<- toList_map];simp[execOp,Instr.makeFunc]
 have x2:(execOp (a1.put (some t) fv).eval o2).run S.P w1=.ok (.defer d) w1:=by
  rw[ho2,hd,<- e2];have:(a1.put (some t) fv).eval (.tmp t)=.func (.func cf) #[] (g.caps.map a1.eval).toArray:=by rw[hev,hfv]
  simp only[execOp,resolve,this,Deferred.ofValue];simp
 have hreg:At S.P S.rd (.region gid gops false) (Exit.then (At S.P S.rd g.rest (bodyPostM Fence.wide 0 c.P g.fn λe w'=>(True/\∃v D' E',e=.returned v/\Left c.P (bH []) r.upd w D E w' D' E'/\r.ret.rel c.P ⟨w',D',upM (bH []) r.upd,E'⟩ v)\/∃ch,e=.panicked ch/\False/\Chg (bn (bH []) E) w w'))
   (bodyPostM Fence.wide 0 c.P g.fn λe w'=>(True/\∃v D' E',e=.returned v/\Left c.P (bH []) r.upd w D E w' D' E'/\r.ret.rel c.P ⟨w',D',upM (bH []) r.upd,E'⟩ v)\/∃ch,e=.panicked ch/\False/\Chg (bn (bH []) E) w w')) a1 w1:=by
  refine U6 (wpIn_region ?_);have hF:S.F=Fence.wide:=by unfold Base.F;rw[hSr]
  rw[hF];have hz:gops.size=2:=by rw[hops];rfl
  rw[hz];have h0:gops[0]?=some o1:=by rw[hops];rfl
  have h1:gops[1]?=some o2:=by rw[hops];rfl
  show wpOpsIn _ _ _ _ _ [0,1] _ _;have w1n:∀g,Region.wanted o1 g=true:=λg=>by rw[ho1];rfl
  have w2n:∀g,Region.wanted o2 g=true:=λg=>by rw[ho2];rfl
  have d1:o1.dst=some t:=by rw[ho1]
  have d2:o2.dst=none:=by rw[ho2]
  simp only[wpOpsIn,h0,h1,w1n,w2n,xU,Oper.wpIn];refine⟨λ_ _=>trivial,?_⟩;rw[show Fence.wide.round=none from rfl,Oper.semAt_none,x1,Oper.uponIn_value,d1];refine⟨λ_ _=>trivial,?_⟩;rw[Oper.semAt_none,x2,Oper.uponIn_defer,d2];obtain⟨S2,hS2⟩:∃S2:Base,S2={S with gd:=[d],sv:=g.caps.map a1.eval,nod:=false}:=⟨_,rfl⟩;have HO2:OkS c S2:=by
   rw[hS2];exact⟨HO.P,HO.G,HO.K,HO.I,HO.m,λe=>(e hSr).elim,λ_=>by rw[hrng];rfl,HO.KP⟩
  have hslot:=hd1.slot (d:=some t) (v:=fv) (x:=.fn cf (g.caps.map (evT c.G s.sig.T))) hl (by rw[e1];exact hdt) ⟨_,hfv,hcapv⟩;have hd2:aH S2 (uO c.G g.t g.cf g.caps s).sig { (a1.put (some t) fv)with defers:=d::(a1.put (some t) fv).defers} w1 D1 E1:=by
   have hde:(a1.put (some t) fv).defers=[]:=hdef;rw[hde,<- e1,<- e2,hS2];refine⟨hslot.sz,⟨⟨λ_=>rfl,⟨[],rfl⟩,qAg _ _⟩,λq hq=>.inl ⟨hq,λk e=>?_⟩⟩,hslot.tm,hslot.bl,hslot.own,hslot.inj,hslot.low,hslot.dlt,hslot.dlo,hslot.dhi,hslot.gl,hcapv,hslot.pv⟩;rw[vG]at hq;rw[hq,hd]at e;cases e
  have hl2:(uO c.G g.t g.cf g.caps s).tm.length=S2.N:=by rw[hS2];simp[uO,setSlot,hl]
  have hdn:∀k,d.target≠.collected k:=λk e=>by rw[hd]at e;cases e
  have hclose:∀{u u2:FrameMode} {rv:Value} {rec:AV} (_:Z2 u rv u2) (_:settle u2=.returning) (_:u≠.run) (_:∀C:Ctx,rec.rel c.P C rv) (s':St) (a':Act) (w':World),Sim S2 s'.sig a' w'->s'.tm.length=S2.N->Av c s' (oV (c.bare Kz) Ac g.fn g.fc g.crest g.t3 g.t2 r rec)->
    LeavesInM Fence.wide 0 c.P g.fn a'.tmps _ a'.defers u w':=λh1 h2 h3 h4 s' a' w' hs' hl' hq=>by
   unfold Av at hq;split at hq
   case h_2=>exact hq.elim
   rename_i s1 hsw;obtain⟨D5,E5,h5⟩:=hs';obtain⟨p1,p2,p3⟩:=MM hsw h5 hrng;have h6:aH {S2 with G:=[]} s1.sig {tmps:=a'.tmps,defers:=a'.defers} w' D5 E5:=by
    exact⟨p2.sz,p2.df,p2.tm,p2.bl,p2.own,p2.inj,p2.low,p2.dlt,p2.dlo,p2.dhi,λp hp=>(by cases hp),p2.svr,p2.pv⟩
   rw[<- hSP,show S.P=S2.P by rw[hS2]];refine qy (S:=S2) (gd:=[d]) (by rw[hS2]) (λq hq k=>by rw[vG]at hq;rw[hq];exact hdn k) (by rw[hS2,hS,hZ];exact hD) p1 h3 a'.defers w' D5 h6 λw2 D2 h7=>?_
   rw[show S2.P=c.P by rw[hS2];exact hSP];refine Ik (c:=c.bare Kz) HOZ rfl hZs hZr hZn hZg hcf hcb hrec hres hgo key hd h1 h2 h3 (s:=s1) (a:={tmps:=a'.tmps,defers:=[d]}) ⟨D2,E5,?_⟩ (by rw[p3,hl',hS2,hS]) h4 hq;have e8:({S2 with G:=[]}:Base)={Z with gd:=[d],sv:=(g.caps.map a1.eval),nod:=false}:=by rw[hS2,hS];cases Z;simp only at hZG;subst hZG;rfl
   rw[e8]at h7;exact⟨h7.sz,⟨⟨λ_=>rfl,⟨[],rfl⟩,qAg _ _⟩,h7.df.2⟩,h7.tm,h7.bl,h7.own,h7.inj,h7.low,h7.dlt,h7.dlo,h7.dhi,h7.gl,h7.svr,h7.pv⟩
  have hat:=kq g.rest S2 (uO c.G g.t g.cf g.caps s) _ (bodyPostM Fence.wide 0 c.P g.fn λe w'=>(True/\∃v D' E',e=.returned v/\Left c.P (bH []) r.upd w D E w' D' E'/\r.ret.rel c.P ⟨w',D',upM (bH []) r.upd,E'⟩ v)\/∃ch,e=.panicked ch/\False/\Chg (bn (bH []) E) w w') HO2 hrest hl2 (λe s' hq hl' a' w' hs'=>by
   cases e with
   | normal=>exact hclose (rec:=.val .nilIface) .ret rfl (by simp) (λ_=>rfl) s' a' w' hs' hl' hq
   | ret=>exact hclose (rec:=.val .nilIface) .ret rfl (by simp) (λ_=>rfl) s' a' w' hs' hl' hq
   | panic ch=>
    simp only[aFs]at hq;split at hq
    case h_2=>exact hq.elim
    rename_i v hv;obtain⟨rv,rfl,hrv⟩:=Hy hv;exact hclose (.pan rv) rfl (by simp) (λC=>hrv c.P C) s' a' w' hs' hl' hq
   | exit id=>exact hq.elim
   | goto l=>exact hq.elim
   | outgrown=>exact hq.elim) _ w1 ⟨D1,E1,hd2⟩
  rw[show S2.P=S.P by rw[hS2],show S2.rd=S.rd by rw[hS2]]at hat;exact hat
 exact uA hreg
end Go.Eng
namespace Go.Eng
open Go.RowKit
def put(s:St)(l:List (Tmp×AV)): St:={s with tm:=l.foldl (λtm p=>tm.set p.1 p.2) s.tm}
def iE(s:St)(nm:Nat)(b:Blk): St:={s with mem:=tt s.mem nm b}
def aA: Ann:=⟨λ_ _=>none,λ_ _=>none,λ_ _=>none⟩
theorem of_eq{p q:Prop}(h:q=p)(hp:p): q:=h▸hp
theorem lP{P:Program}{w w':World}{D D':Nat->Prop}{as:List AV}{us:Lv}(hn:AV.namesL as=[])(hD:∀b,D b->D' b)(hw:∀b,D b->w'.heap[b]?=w.heap[b]?)
  {m:Nat->Option Blk} {E:Nat->Ent} (h:AV.relL P ⟨w,D,m,E⟩ as us):AV.relL P ⟨w',D',noM,noE⟩ as us:=
 AV.relL_mono (C:=⟨w,D,m,E⟩) (C':=⟨w',D',noM,noE⟩) ⟨hD,hw⟩ (λnm hm=>by rw[hn]at hm;cases hm) h
theorem Left.pure {P:Program} {upd:Mem} {w w':World} {D D':Nat->Prop} {E E':Nat->Ent} (h:Left P (bH []) upd w D E w' D' E'):Below w.heap.size w w'/\∀b,D' b->D b\/gk w w' b:=by
 refine⟨⟨h.chg.os,h.chg.tape,h.chg.output,h.chg.size,λk hk=>h.chg.block k hk λ⟨nm,blk,g,_⟩=>(by cases g)⟩,λb hb=>?_⟩;rcases h.dhi b hb with g | g | ⟨_,_,g,_⟩
 .exact .inl g
 .exact .inr ⟨g,h.dlt b hb⟩
 .cases g
theorem af.data {P:Program} {G:List (Nat×AV)} {f:FuncId} {args:List AV} {pre:Prop} {r:Ty} {y:r.den} (h:af P G f args [] ⟨pre,.dat r y,[]⟩) (hp:pre) {w:World} {D:Nat->Prop} {us:Lv} (hD:∀b,D b->b<w.heap.size)
  (hG:jX P ⟨w,D,noM,noE⟩ G) (ha:AV.relL P ⟨w,D,noM,noE⟩ args us):Calls P f us.toArray w (GH w D r y):=by
 refine(h hp w D noE us hD hG ha (Held.none _ _ _ _)).mono λe w' ⟨v,D',E',q1,q2,q3⟩=>?_
 obtain⟨g1,g2⟩:=q2.pure;exact⟨v,q1,g1,al g2 (λ_ _=>rfl) q3⟩
theorem jL{P:Program}{G:List (Nat×AV)}{f:FuncId}{caps:List AV}{a b r:Ty}{pre:a.den->b.den->Prop}{g:a.den->b.den->r.den}(hg:goes P f=true)(hn:AV.namesL caps=[])
  (h:∀x y,af P G f (.dat a x::.dat b y::caps) [] ⟨pre x y,.dat r (g x y),[]⟩) {C:Ctx} (hG:jX P C G) {v:Value} (hv:(AV.fn f caps).rel P C v):(AV.clo2 a b r pre g).rel P C v:=by
 obtain⟨us,rfl,hc⟩:=hv;refine⟨f,us.toArray,rfl,hg,λw' D' g1 g2 g3 x y u v hp hx hy=>?_⟩;have hall:AV.relL P ⟨w',D',noM,noE⟩ (.dat a x::.dat b y::caps) (u::v::us):=⟨u,_,rfl,hx,v,_,rfl,hy,lP hn g1 g3 hc⟩;have hG':jX P ⟨w',D',noM,noE⟩ G:=hG.mono ⟨g1,g3⟩;have e:(#[u,v]++us.toArray)=(u::v::us).toArray:=by simp
 rw[e];exact(h x y).data hp g2 hG' hall
theorem jM{P:Program}{G:List (Nat×AV)}{f:FuncId}{caps:List AV}{a r:Ty}{pre:a.den->Prop}{g:a.den->r.den}(hg:goes P f=true)(hn:AV.namesL caps=[])
  (h:∀x,af P G f (.dat a x::caps) [] ⟨pre x,.dat r (g x),[]⟩) {C:Ctx} (hG:jX P C G) {v:Value} (hv:(AV.fn f caps).rel P C v):(AV.clo1 a r pre g).rel P C v:=by
 obtain⟨us,rfl,hc⟩:=hv;refine⟨f,us.toArray,rfl,hg,λw' D' g1 g2 g3 x u hp hx=>?_⟩;have hall:AV.relL P ⟨w',D',noM,noE⟩ (.dat a x::caps) (u::us):=⟨u,_,rfl,hx,lP hn g1 g3 hc⟩;have hG':jX P ⟨w',D',noM,noE⟩ G:=hG.mono ⟨g1,g3⟩;have e:(#[u]++us.toArray)=(u::us).toArray:=by simp
 rw[e];exact(h x).data hp g2 hG' hall
theorem af.args {P:Program} {G:List (Nat×AV)} {f:FuncId} {as bs:List AV} {m:Mem} {c:jP} (h:af P G f bs m c) (hab:∀(C:Ctx) us,jX P C G->AV.relL P C as us->AV.relL P C bs us):af P G f as m c:=
 λhp w D E us hD hG hu hH=>h hp w D E us hD hG (hab _ us hG hu) hH
theorem af.of_pre {P:Program} {G:List (Nat×AV)} {f:FuncId} {as:List AV} {m:Mem} {c:jP} (h:c.pre->af P G f as m c):af P G f as m c:=λhp=>h hp hp
theorem af.weaken {P:Program} {G:List (Nat×AV)} {f:FuncId} {as:List AV} {m:Mem} {p q:Prop} {r:AV} {u:Mem} (h:af P G f as m ⟨q,r,u⟩) (hpq:p->q):af P G f as m ⟨p,r,u⟩:=λhp=>h (hpq hp)
theorem af.eqv {P:Program} {G:List (Nat×AV)} {f:FuncId} {as:List AV} {m:Mem} {p:Prop} {t:Ty} {x y:t.den} {u:Mem} (h:af P G f as m ⟨p,.dat t x,u⟩) (e:p->x=y):af P G f as m ⟨p,.dat t y,u⟩:=λhp=>e hp▸h hp
mutual
def aFr(m:Mem)(nms:List Nat): AV->AV
 | .ptr nm g i c=>if nms.contains nm then match m.lookup nm with
  | some (.var [.dat t x])=>.ip t x
  | some (.var [v])=>if v.names.isEmpty then .ipv v else .top
  | some (.buf _ t xs [])=>.ia t xs
  | _=>.top
  else .ptr nm g i c
 | .buf nm n=>if nms.contains nm then match m.lookup nm with
  | some (.buf _ t xs [])=>.dat (.sl t) xs
  | some (.mat _ _ e xss [])=>.dat (.sl (.sl e)) xss
  | some (.buf _ (.sl e) xs [(i,.buf nm2 _)])=>match m.lookup nm2 with
   | some (.buf _ e' zs [])=>if h:e'=e then .dat (.sl (.sl e)) (En (α:=List e.den) xs i (h▸zs))else .top
   | _=>.top
  | _=>.top
  else .buf nm n
 | .agg cs=>.agg (aEI m nms cs)
 | a=>if a.names.any nms.contains then .top else a
def aEI(m:Mem)(nms:List Nat): List AV->List AV
 | []=>[]
 | a::as=>aFr m nms a::aEI m nms as
end
def aF9(m:Mem)(nms:List Nat): Blk->Blk
 | .var cs=>.var (aEI m nms cs)
 | b=>b
def frz(nms:List Nat)(s:St): St:={s with tm:=s.tm.map (λa=>aFr s.mem nms (aAF a)),mem:=(s.mem.filter λp=>!nms.contains p.1).map λp=>(p.1,aF9 s.mem nms p.2)}
def allNames(s:St): List Nat:=s.mem.map (·.1)
end Go.Eng
namespace Go.Eng
open Go.RowKit
structure Y where
 s:St
 k:Nat
 on:Bool
structure aEV where
 α:Type
 inv:α->Prop
 st:α->Y
 μ:α->Nat
structure GQ where
 loop:Nat->Y->Option aEV
 pre:Nat->St->Option St
 yr:Nat->Bool
def leY(y y':Y): Prop:=leP y.s y'.s/\y.k=y'.k/\y.on=y'.on
def yieldOf(G:List (Nat×AV))(T:Nat->AV)(g:Bool)(o:Op): Option (Nat×List Prop×List AV):=match o with
 | .call ⟨.value f,args,_⟩=>match ug g (evT G T f),args.toList with
  | (.yld l,n1),[a]=>match ug g (evT G T a)with
   | (v,n2)=>some (l,n1++n2,[v])
  | (.yld l,n1),[a,b]=>match ug g (evT G T a),ug g (evT G T b)with
   | (v,n2),(w,n3)=>some (l,n1++(n2++n3),[v,w])
  | _,_=>none
 | _=>none
def U8(t:Ty)(v:AV): Option t.den:=if aCZ t=true then(match v with
  | .agg cs=>match cF t cs with
   | some (x,[])=>some x
   | _=>none
  | _=>none)else v.as t
def asY: (t:Ty)->List AV->Option t.den
 | .pair a b,[v,w]=>match U8 a v,U8 b w with
  | some x,some y=>some (x,y)
  | _,_=>none
 | .int k,[v]=>v.as (.int k)
 | .bool,[v]=>v.as .bool
 | .str,[v]=>v.as .str
 | .sl e,[v]=>v.as (.sl e)
 | _,_=>none
theorem CY{P:Program}{C:Ctx}{t:Ty}{v:AV}{x:t.den}{u:Value}(h:U8 t v=some x)(hr:v.rel P C u): (qq t x).rel P C u:=by
 unfold U8 at h;unfold qq;split at h
 .rename_i e;rw[if_pos e];split at h
  .rename_i cs;split at h
   .rename_i x' h1;cases h;obtain⟨us,rfl,h2⟩:=hr;obtain⟨u1,u2,rfl,h3,h4⟩:=cm h1 h2;cases h4;refine⟨u1++[],rfl,?_⟩;rw[wH];exact b7 h3
   .cases h
  .cases h
 .rename_i e;rw[if_neg e];exact AV.as_rel h hr
theorem PN{P:Program}{C:Ctx}: ∀{t:Ty} {vs:List AV} {x:t.den} {us:Lv},asY t vs=some x->AV.relL P C vs us->AV.relL P C (EL t x) us
 | .pair a b,[v,w],x,us,h,hr=>by
  simp only[asY]at h;split at h
  .rename_i x' y' h1 h2;cases h;obtain⟨u,us',rfl,g1,g2⟩:=hr;obtain⟨u2,us2,rfl,g3,g4⟩:=g2;exact⟨u,_,rfl,CY h1 g1,u2,_,rfl,CY h2 g3,g4⟩
  .cases h
 | .int _,[v],x,us,h,hr | .bool,[v],x,us,h,hr | .str,[v],x,us,h,hr | .sl _,[v],x,us,h,hr=>by
  obtain⟨u,us',rfl,g1,g2⟩:=hr;exact⟨u,_,rfl,AV.as_rel h g1,g2⟩
 | .pair _ _,[],_,_,h,_ | .pair _ _,[_],_,_,h,_ | .pair _ _,_::_::_::_,_,_,h,_=>by simp[asY]at h
 | .int _,[],_,_,h,_ | .int _,_::_::_,_,_,h,_ | .bool,[],_,_,h,_ | .bool,_::_::_,_,_,h,_ | .str,[],_,_,h,_ | .str,_::_::_,_,_,h,_ | .sl _,[],_,_,h,_ | .sl _,_::_::_,_,_,h,_=>by simp[asY]at h
theorem rW{G:List (Nat×AV)}{T:Nat->AV}{g:Bool}{o:Op}{l:Nat}{ns:List Prop}{v:List AV}(h:yieldOf G T g o=some (l,ns,v)):
  ∃f args at_ n1 n2,o=.call ⟨.value f,args,at_⟩/\ug g (evT G T f)=(.yld l,n1)/\ns=n1++n2/\((∃a v1,args.toList=[a]/\ug g (evT G T a)=(v1,n2)/\v=[v1])\/∃a b v1 v2 m1 m2,args.toList=[a,b]/\ug g (evT G T a)=(v1,m1)/\ug g (evT G T b)=(v2,m2)/\v=[v1,v2]/\n2=m1++m2):=by
 unfold yieldOf at h;split at h
 case h_2=>cases h
 rename_i f args at_;split at h
 .rename_i l2 n1 a hf hargs;cases h;exact⟨f,args,at_,n1,_,rfl,hf,rfl,.inl ⟨a,_,hargs,rfl,rfl⟩⟩
 .rename_i l2 n1 a b hf hargs;cases h;exact⟨f,args,at_,n1,_,rfl,hf,rfl,.inr ⟨a,b,_,_,_,_,hargs,rfl,rfl,rfl,rfl⟩⟩
 .cases h
def Yh(c:Cfg)(it:jr)(l:Nat)(ops:Array Oper): List Oper->Y->(Y->Prop)->Prop
 | [],y,Q=>Q y
 | o::os,y,Q=>match KG y.s.sig.T ops o.guard with
  | some g=>match yieldOf c.G y.s.sig.T g o.op with
   | some (l',ns,v)=>if nC o.dst y.s.tm.length=true/\y.s.mem.isEmpty=true then match asY it.t v with
    | some x=>UJ g (all ns (l'=l/\y.on=true/\lu it.L y.k x/\∀b:Bool,Yh c it l ops os ⟨setSlot o.dst (.dat .bool b) y.s,y.k+1,b⟩ Q))
      (Yh c it l ops os ⟨setSlot o.dst (.grd g (.dat .bool false)) y.s,y.k,y.on⟩ Q)
    | none=>False
    else False
   | none=>match gn c.P c.G c.K (c.mt o) ops y.s.nx y.s.sig o with
    | some r=>if fX r y.s.tm.length=true/\BD r y.s=true then all r.need (Yh c it l ops os ⟨cH r y.s,y.k,y.on⟩ Q)else False
    | none=>False
  | none=>False
def cE(o:Oper): Bool:=match o.op with
 | .call ⟨.value (.tmp _),_,_⟩=>true
 | _=>false
def aFp(tbl:List Nat)(q n:Nat): Bool:=(List.range n).all λj=>if j<q then(tbl.getD q 0).testBit j else j==q||(tbl.getD j 0).testBit q
def Zb(c:Cfg)(it:jr)(l:Nat)(ops:Array Oper)(y:Y)(Q:Y->Prop): Prop:=
 match ops[ops.toList.findIdx cE]?,Vz c ops (ops.toList.take (ops.toList.findIdx cE)) y.s with
 | some o,some rs=>if aFp (iR [] ops.toList) (ops.toList.findIdx cE) ops.size=true/\o.guard.isNone=true/\nC o.dst y.s.tm.length=true/\(fF rs y.s (ops.toList.findIdx cE)).mem.isEmpty=true/\
    tc true (iR [] ops.toList) y.s (rs++List.replicate (ops.size-ops.toList.findIdx cE) dflt)=true/\mX (iR [] ops.toList) ops.toList (rs++List.replicate (ops.size-ops.toList.findIdx cE) dflt)=true then
   match yieldOf c.G (fF rs y.s (ops.toList.findIdx cE)).sig.T true o.op with
   | some (l',ns,v)=>match asY it.t v with
    | some x=>all (rs.flatMap (·.need)) (all ns (l'=l/\y.on=true/\lu it.L y.k x/\∀b:Bool,
      match Vz c ops (ops.toList.drop (ops.toList.findIdx cE+1)) (setSlot o.dst (.dat .bool b) (fF rs y.s (ops.toList.findIdx cE)))with
      | some rs2=>if tc true (iR [] ops.toList) (setSlot o.dst (.dat .bool b) (fF rs y.s (ops.toList.findIdx cE))) (List.replicate (ops.toList.findIdx cE+1) dflt++rs2)=true/\
         mX (iR [] ops.toList) ops.toList (List.replicate (ops.toList.findIdx cE+1) dflt++rs2)=true then
        all (rs2.flatMap (·.need)) (Q ⟨fF rs2 (setSlot o.dst (.dat .bool b) (fF rs y.s (ops.toList.findIdx cE))) rs2.length,y.k+1,b⟩)else False
      | none=>False))
    | none=>False
   | none=>False
  else False
 | _,_=>False
def evZ(c:Cfg)(rg:Array Oper->Bool->Y->(Y->Prop)->Prop)(A:GQ): Code->Y->(Exit->Y->Prop)->Prop
 | .skip,y,Q=>Q .normal y
 | .region id ops draw,y,Q=>match A.pre id y.s with
  | some s1=>match Qc y.s s1 with
   | some ms=>all ms (if A.yr id=true then rg ops draw ⟨s1,y.k,y.on⟩ (Q .normal)else ZT c ops draw s1 λs'=>Q .normal ⟨s',y.k,y.on⟩)
   | none=>False
  | none=>if A.yr id=true then rg ops draw y (Q .normal)else ZT c ops draw y.s λs'=>Q .normal ⟨s',y.k,y.on⟩
 | .seq a b,y,Q=>evZ c rg A a y (λe y'=>match e with | .normal=>evZ c rg A b y' Q | e=>Q e y')
 | .cond t a b,y,Q=>match UI (evT c.G y.s.sig.T t)with
  | some (ns,x)=>all ns (UJ x (evZ c rg A a y Q) (evZ c rg A b y Q))
  | none=>False
 | .block id b,y,Q=>evZ c rg A b y (λe y'=>match e with | .exit id'=>if id'=id then Q .normal y' else Q (.exit id') y' | e=>Q e y')
 | .exit id,y,Q=>Q (.exit id) y
 | .ret,y,Q=>Q .ret y
 | .loop b,y,Q=>match dX b with
  | some id=>match A.loop id {y with s:=HT b y.s} with
   | some sp=>(∃x,sp.inv x/\leY y (sp.st x))/\∀x,sp.inv x->evZ c rg A b (sp.st x) (λe y'=>match e with | .normal=>∃z,sp.inv z/\leY y' (sp.st z)/\sp.μ z<sp.μ x | e=>Q e y')
   | none=>False
  | none=>False
 | _,_,_=>False
def rgY(c:Cfg)(it:jr)(l:Nat)(ops:Array Oper)(draw:Bool)(y:Y)(Q:Y->Prop): Prop:=if draw=true then Zb c it l ops y Q else Yh c it l ops ops.toList y Q
def evY(c:Cfg)(it:jr)(l:Nat): GQ->Code->Y->(Exit->Y->Prop)->Prop:=evZ c (rgY c it l)
def aC0(it:jr): Exit->Y->Prop
 | .normal,y=>y.on=true->y.k=it.L.length
 | .ret,y=>y.on=true->y.k=it.L.length
 | _,_=>False
def qf(fn:Func)(l:Nat)(caps:List AV): Y:=⟨⟨(.yld l::caps)++List.replicate (fn.ntmps-(caps.length+1)) (.val undef),[],0,[]⟩,0,true⟩
def evI(c:Cfg)(A:GQ)(f:FuncId)(caps:List AV)(it:jr): Prop:=match c.P.funcs[f]? with
 | some fn=>match fn.body with
  | some b=>fn.results.toList.isEmpty=true/\(AV.namesL caps).isEmpty=true/\true=true/\c.rng=false/\∀l,it.pre->evY c it l A b (qf fn l caps) (aC0 it)
  | none=>False
 | none=>False
section
structure FrY where
 ro:Option Nat
 sv:Lv
 V:Nat->Prop
 Dv:Nat->Prop
 W:World
def Fr: Option Nat->Fence
 | none=>Fence.wide
 | some l=>Fence.wide.inRound l
theorem ZL(ro:Option Nat)(f:FuncId): (Fr ro).fn f:=by cases ro<;>trivial
theorem Ix(ro:Option Nat): (Fr ro).depth=none:=by cases ro<;>rfl
theorem Vi(ro:Option Nat): (Fr ro).round=ro:=by cases ro<;>rfl
theorem YA{ro:Option Nat}{P:Program}{l:Nat}{f:FuncId}{tmps:Array Value}{assign body:Code}{w:World}{R:Ending->World->Prop}(h:RoundIn Fence.wide 0 P l f tmps assign body w R): RoundIn (Fr ro) 0 P l f tmps assign body w R:=by
 cases ro with
 | none=>exact h
 | some k=>exact h
def Kept(fr:FrY)(w:World): Prop:=fr.W.heap.size<=w.heap.size/\∀b,fr.Dv b\/fr.V b->w.heap[b]?=fr.W.heap[b]?
variable {c:Cfg} {it:jr} {l N:Nat} {fr:FrY} {J:Nat->World->(Nat->Prop)->(Nat->Prop)->Prop} {JX:World->(Nat->Prop)->(Nat->Prop)->Prop} {JP:List PanicEntry->World->(Nat->Prop)->(Nat->Prop)->Prop}
def GL(fr:FrY)(J:Nat->World->(Nat->Prop)->(Nat->Prop)->Prop)(JX:World->(Nat->Prop)->(Nat->Prop)->Prop)(y:Y)(w:World)(D:Nat->Prop): Prop:=(y.on=true->J y.k w D fr.V)/\(y.on=false->JX w D fr.V)
structure OkY (c:Cfg) (N:Nat) (fr:FrY) (S:Base):Prop where
 P:S.P=c.P
 G:S.G=c.G
 N:S.N=N
 O:∀b,¬S.O b
 sv:S.sv=fr.sv
 rd:S.rd=fr.ro
 nod:S.nod=true
 gd:S.gd=[]
 kept:Kept fr S.w0
 lt:∀b,fr.Dv b\/fr.V b->b<S.w0.heap.size
 dv:∀b,fr.Dv b->S.D0 b
 nv:∀b,fr.V b->¬S.D0 b
def Zy(c:Cfg)(N:Nat)(fr:FrY)(J:Nat->World->(Nat->Prop)->(Nat->Prop)->Prop)(JX:World->(Nat->Prop)->(Nat->Prop)->Prop)(y:Y)(a:Act)(w:World): Prop:=
 ∃S,OkY c N fr S/\GL fr J JX y S.w0 S.D0/\Sim S y.s.sig a w
structure Qo (c:Cfg) (it:jr) (l N:Nat) (fr:FrY) (J:Nat->World->(Nat->Prop)->(Nat->Prop)->Prop) (JX:World->(Nat->Prop)->(Nat->Prop)->Prop) (JP:List PanicEntry->World->(Nat->Prop)->(Nat->Prop)->Prop):Prop where
 K:ak c.P c.G c.K
 I:bv c.P c.G c.KI
 KP:bO c.P c.G c.KP
 m:c.P.follows .mixedOrders=true
 rng:fr.ro=none->c.rng=false
 rs:fr.ro≠none->N<=fr.sv.length
 j1:∀k w1 w2 D1 V,J k w1 D1 V->Below w1.heap.size w1 w2->∀X:Nat->Prop,J k w2 (λb=>D1 b\/(gk w1 w2 b/\¬X b)) (λb=>V b\/(gk w1 w2 b/\X b))
 j2:∀k w1 (D1 D2 V V2:Nat->Prop),J k w1 D1 V->(∀b,D2 b->D1 b)->(∀b,V2 b->V b)->J k w1 D2 V2
 x1:∀w1 w2 D1 V,JX w1 D1 V->Below w1.heap.size w1 w2->∀X:Nat->Prop,JX w2 (λb=>D1 b\/(gk w1 w2 b/\¬X b)) (λb=>V b\/(gk w1 w2 b/\X b))
 x2:∀w1 (D1 D2 V V2:Nat->Prop),JX w1 D1 V->(∀b,D2 b->D1 b)->(∀b,V2 b->V b)->JX w1 D2 V2
 yld:∀k y W D1 V vs,it.L[k]?=some y->J k W D1 V->(∀b,D1 b->b<W.heap.size)->AV.relL c.P ⟨W,D1,noM,noE⟩ (EL it.t y) vs->YieldAt Fence.wide 0 c.P l vs.toArray W λe W' =>
   W.heap.size<=W'.heap.size/\(∀b,D1 b\/V b->W'.heap[b]?=W.heap[b]?)/\((e=.returned (.bool true)/\J (k+1) W' D1 V)\/(e=.returned (.bool false)/\JX W' D1 V)\/∃ch,e=.panicked ch/\JP ch W' D1 V)
theorem OkY.okS {S:Base} (h:OkY c N fr S) (H:Qo c it l N fr J JX JP):OkS c S:=
 ⟨h.P.symm,h.G.symm,by rw[h.P,h.G];exact H.K,by rw[h.P,h.G];exact H.I,by rw[h.P];exact H.m,λe=>by rw[h.sv,h.N];exact H.rs (by rw[<- h.rd];exact e),λe=>by rw[h.nod,H.rng (by rw[<- h.rd];exact e)];rfl,by rw[h.P,h.G];exact H.KP⟩
theorem OkY.F {S:Base} (h:OkY c N fr S):S.F=Fr fr.ro:=by
 unfold Base.F;rw[h.rd];cases fr.ro<;>rfl
theorem OkY.now {S:Base} (h:OkY c N fr S) {σ:Sig} {a:Act} {w:World} {D:Nat->Prop} {E:Nat->Ent} (hd:aH S σ a w D E):(∀b,fr.Dv b\/fr.V b->b<w.heap.size/\w.heap[b]?=fr.W.heap[b]?)/\(∀b,fr.Dv b->D b)/\(∀b,fr.V b->¬D b)/\fr.W.heap.size<=w.heap.size:=by
 refine⟨λb hb=>⟨qN (h.lt b hb) hd.low.size,(hd.low.block b (h.lt b hb) (h.O b)).trans (h.kept.2 b hb)⟩,λb hb=>hd.dlo b (h.dv b hb),λb hb g=>?_,wE h.kept.1 hd.low.size⟩;rcases hd.dhi b g with g | g | g
 .exact h.nv b hb g
 .have:=h.lt b (.inr hb);omega
 .exact h.O b g
theorem OkY.next {S:Base} (h:OkY c N fr S) {σ:Sig} {a:Act} {w w':World} {D:Nat->Prop} {E:Nat->Ent} (hd:aH S σ a w D E) (hs:w.heap.size<=w'.heap.size) (hp:∀b,D b\/fr.V b->w'.heap[b]?=w.heap[b]?):OkY c N fr {S with w0:=w',D0:=D,O:=λ_=>False}:=by
 obtain⟨n1,n2,n3,n4⟩:=h.now hd;exact⟨h.P,h.G,h.N,λ_ g=>g,h.sv,h.rd,h.nod,h.gd,⟨wE n4 hs,λb hb=>(hp b (hb.imp (n2 b) id)).trans (n1 b hb).2⟩,λb hb=>qN (n1 b hb).1 hs,n2,n3⟩
theorem GL.now {S:Base} (hS:OkY c N fr S) (H:Qo c it l N fr J JX JP) {y:Y} (hg:GL fr J JX y S.w0 S.D0) {σ:Sig} {a:Act} {w:World} {D:Nat->Prop} {E:Nat->Ent} (h:aH S σ a w D E):GL fr J JX y w D:=by
 have hb:Below S.w0.heap.size S.w0 w:=⟨h.low.os,h.low.tape,h.low.output,h.low.size,λk hk=>h.low.block k hk (hS.O k)⟩;have hD:∀b,D b->S.D0 b\/(gk S.w0 w b/\¬noV b):=λb hb=>by
  rcases h.dhi b hb with g | g | g
  .exact .inl g
  .exact .inr ⟨⟨g,h.dlt b hb⟩,id⟩
  .exact(hS.O b g).elim
 exact⟨λe=>H.j2 _ _ _ _ _ _ (H.j1 _ _ _ _ _ (hg.1 e) hb noV) hD λ_=>.inl,λe=>H.x2 _ _ _ _ _ (H.x1 _ _ _ _ (hg.2 e) hb noV) hD λ_=>.inl⟩
theorem aH.behindYield {S:Base} {s:St} {a:Act} {w w':World} {D:Nat->Prop} {E:Nat->Ent} (h:aH S s.sig a w D E) (hm:s.mem=[]) (hs:w.heap.size<=w'.heap.size) (hk:∀b,D b->w'.heap[b]?=w.heap[b]?) (hn:S.nod=true) (hgd:S.gd=[]):
  aH {S with w0:=w',D0:=D,O:=λ_=>False} s.sig a w' D E:=by
 have em:s.sig.m=λ_=>none:=by
  funext k
  show s.mem.lookup k=none;rw[hm];rfl
 have L:Later ⟨w,D,s.sig.m,E⟩ ⟨w',D,s.sig.m,E⟩:=⟨λ_ g=>g,hk⟩;have nm:∀k,nb ⟨w,D,s.sig.m,E⟩ ⟨w',D,s.sig.m,E⟩ k:=λk b' hb'=>⟨b',hb',rfl,qJ _,λ_=>rfl⟩
 have none:∀nm b,s.sig.m nm=some b->False:=λnm b hb=>by rw[em]at hb;cases hb
 refine⟨h.sz,⟨⟨λ_=>h.df.1.1 hn,h.df.1.2⟩,λd hd=>?_⟩,λt=>AV.rel_mono L (λk _=>nm k) (h.tm t),λk b hb=>(none k b hb).elim,λk b hb=>(none k b hb).elim,λk k' b b' hb=>(none k b hb).elim,Chg.refl _ _,
  λb hb=>qN (h.dlt b hb) hs,λ_ g=>g,λ_ g=>.inl g,h.gl.mono L,AV.relL_mono L (λk _=>nm k) h.svr,fb.nil λk i b g=>by obtain⟨_,_,_,_,_,_,g1,_⟩:=g;exact none k _ g1⟩
 rw[h.df.1.1 hn,hgd]at hd;cases hd
theorem Aj(H:Qo c it l N fr J JX JP){y:Y}{S:Base}(hS:OkY c N fr S)(hg:GL fr J JX y S.w0 S.D0){a:Act}{w:World}{D:Nat->Prop}{E:Nat->Ent}(hd:aH S y.s.sig a w D E)(hmem:y.s.mem=[]){o:Oper}{l':Nat}{ns:List Prop}{v:List AV}
  (hy:yieldOf c.G y.s.sig.T true o.op=some (l',ns,v)) {x:it.t.den} (hx:asY it.t v=some x) (hns:∀q∈ns,q) (hll:l'=l) (hon:y.on=true) (hat:lu it.L y.k x) {K:Act->World->Prop} {R:Exit->Act->World->Prop}
  (hP:∀ch a w D,a.defers=[]->JP ch w D fr.V->Kept fr w->R (.panic ch) a w)
  (hK:∀(b:Bool) (w':World) (s':St),GL fr J JX ⟨s',y.k+1,b⟩ w' D->OkY c N fr {S with w0:=w',D0:=D,O:=λ_=>False}->aH {S with w0:=w',D0:=D,O:=λ_=>False} y.s.sig a w' D E->K (a.put o.dst (.bool b)) w'):o.wpIn (Fr fr.ro) 0 c.P a w K R:=by
 obtain⟨f,args,at_,n1,n2,hop,hf,rfl,hav⟩:=rW hy;rw[hll]at hf;have hfv:=dN hd f;rw[hS.G]at hfv;have hfv2:=mT (g:=true) rfl (λq hq=>hns q (qH.2 (.inl (by rw[hf]at hq;exact hq)))) hfv;rw[hf]at hfv2;have hfv3:a.eval f=.func (.yield l) #[] #[]:=hfv2;have one:∀(av:Operand) (v:AV) (m:List Prop),ug true (evT c.G y.s.sig.T av)=(v,m)->(∀q∈m,q)->v.rel S.P ⟨w,D,y.s.sig.m,E⟩ (a.eval av):=λav v m e hm=>by
  have h1:=dN hd av;rw[hS.G]at h1;have h2:=mT (g:=true) rfl (λq hq=>by rw[e]at hq;exact hm q hq) h1;rw[e]at h2;exact h2
 have hcell0:AV.relL S.P ⟨w,D,y.s.sig.m,E⟩ (EL it.t x) (args.toList.map a.eval):=by
  refine PN hx ?_;rcases hav with⟨b,v1,hargs,e,rfl⟩ | ⟨b1,b2,v1,v2,m1,m2,hargs,e1,e2,rfl,rfl⟩
  .rw[hargs];exact⟨_,_,rfl,one b v1 n2 e λq hq=>hns q (qH.2 (.inr hq)),rfl⟩
  .rw[hargs];exact⟨_,_,rfl,one b1 v1 m1 e1 λq hq=>hns q (qH.2 (.inr (qH.2 (.inl hq)))),_,_,rfl,one b2 v2 m2 e2 λq hq=>hns q (qH.2 (.inr (qH.2 (.inr hq)))),rfl⟩
 have hgn:=hg.now hS H hd;have hcell:AV.relL c.P ⟨w,D,noM,noE⟩ (EL it.t x) (args.toList.map a.eval):=by rw[<- hS.P];exact lP (vD _ _) (λ_ g=>g) (λ_ _=>rfl) hcell0
 have hyl:=H.yld y.k x w D fr.V (args.toList.map a.eval) hat (hgn.1 hon) hd.dlt hcell;obtain⟨fn,tmps,assign,body,hrun,hround⟩:=hyl;unfold Oper.wpIn;refine⟨λf _=>ZL _ f,?_⟩;have nodef:∀d,o.op≠.defer d:=λd e=>by rw[hop]at e;cases e
 rw[Oper.semAt_eq _ _ _ nodef];have hexec:(execOp a.eval o).run c.P w=.ok (.round l fn tmps assign body) w:=by
  obtain⟨dst,op,ty,pos,after,guard⟩:=o;simp only at hop;subst hop;have e1:args.map a.eval=(args.toList.map a.eval).toArray:=by
   apply yB;rw[qBf]
  simp only[execOp,resolve,e1,hfv3,Deferred.ofValue,wB,zU,vS,invoke,kW];simpa using hrun
 rw[hexec,Oper.uponIn_round];refine⟨λh=>(by rw[Ix]at h;cases h),?_⟩;refine RoundIn.mono (YA hround) ?_;rintro e w' ⟨hsz,hkeep,hres⟩;have hb:=hd.behindYield hmem hsz (λb hb=>hkeep b (.inl hb)) hS.nod hS.gd;have hnx:=hS.next hd hsz hkeep
 rcases hres with⟨rfl,hj⟩ | ⟨rfl,hj⟩ | ⟨ch,rfl,hj⟩
 .exact hK true w' y.s ⟨λ_=>hj,λe=>(by cases e)⟩ hnx hb
 .exact hK false w' y.s ⟨λe=>(by cases e),λ_=>hj⟩ hnx hb
 .exact hP ch a w' D ((hd.df.1.1 hS.nod).trans hS.gd) hj hnx.kept
theorem xq(H:Qo c it l N fr J JX JP){ops:Array Oper}{Q:Y->Prop}{R:Exit->Act->World->Prop}(hR:∀y',Q y'->y'.s.tm.length=N->∀a w,Zy c N fr J JX y' a w->R .normal a w)(hP:∀ch a w D,a.defers=[]->JP ch w D fr.V->Kept fr w->R (.panic ch) a w):
  ∀(os:List Oper) (j:Nat) (y:Y),(∀i o,os[i]?=some o->ops[j+i]?=some o)->Yh c it l ops os y Q->y.s.tm.length=N->∀a w,Zy c N fr J JX y a w->wpOpsIn (Fr fr.ro) 0 c.P ops R (List.range' j os.length) a w
 | [],j,y,_,h,hl,a,w,hs=>by
  simp only[yO,qCd,wpOpsIn];simp only[Yh]at h;exact hR y h hl a w hs
 | o::os,j,y,hops,h,hl,a,w,hs=>by
  have ho:ops[j]?=some o:=by simpa using hops 0 o rfl
  have hos:∀i o',os[i]?=some o'->ops[j+1+i]?=some o':=λi o' hi=>by
   have:=hops (i+1) o' (by simpa using hi);rw[show j+1+i=j+(i+1) by omega];exact this
  obtain⟨S,hS,hg,D,E,hd⟩:=hs;have hlS:y.s.tm.length=S.N:=hl.trans hS.N.symm;simp only[Yh]at h;split at h
  case h_2=>exact h.elim
  rename_i g hge;have hwant:=zj (o:=o) hd hge;rw[wV,qAz,wpOpsIn_cons];split at h
  ·
   rename_i l' ns v hy;split at h
   case isFalse=>exact h.elim
   rename_i hc;obtain⟨hdst,hmem⟩:=hc;have hmem:y.s.mem=[]:=wO.1 hmem;split at h
   case h_2=>exact h.elim
   rename_i x hx;unfold wpOpIn;rw[ho];simp only;rw[hwant];cases g with
   | false=>
    simp only[vT,yQ];refine⟨λf _=>ZL _ f,xq H hR hP os (j+1) _ hos (h.2 rfl) (by simp[setSlot];split<;>simp[hl]) _ _ ⟨S,hS,hg,D,E,?_⟩⟩;exact hd.slot hlS hdst ⟨λe=>(by cases e),λ_=>rfl⟩
   | true=>
    simp only[xU];obtain⟨hns,hll,hon,hat,hcont⟩:=bL (h.1 rfl);refine Aj H hS hg hd hmem hy hx hns hll hon hat hP λb w' _ hgh hnx hb=>?_
    exact xq H hR hP os (j+1) _ hos (hcont b) (by simp[setSlot];split<;>simp[hl]) _ _ ⟨{S with w0:=w',D0:=D,O:=λ_=>False},hnx,hgh,D,E,hb.slot hlS hdst rfl⟩
  ·
   split at h
   case h_2=>exact h.elim
   rename_i r hr;split at h
   case isFalse=>exact h.elim
   rename_i hok;obtain⟨hns,hcont⟩:=bL h;have hdst:∀d,o.dst=some d->d<S.N:=by
    intro d hdd;have e:r.dst=o.dst:=by
     unfold gn at hr;split at hr
     .split at hr
      .unfold EY at hr;split at hr
       .cases hr;rfl
       .split at hr
        .cases hr;rfl
        .cases hr
      .cases hr
     .cases hr
    have h2:=hok.1;unfold fX at h2;simp only[qC]at h2;have:=h2.1;rw[e,hdd]at this;rw[<- hlS];simpa using this
   have hK:ak S.P S.G c.K:=(hS.okS H).K;have hr':gn S.P S.G c.K (c.mt o) ops y.s.nx y.s.sig o=some r:=by rw[hS.P,hS.G];exact hr
   have:=nU (Q:=R) hK ho ⟨D,E,hd⟩ hdst hr' hns (λk hk=>by
    have:=hok.2;unfold BD at this;rw[hk]at this;exact G2 this)
   rw[hS.F,hS.P]at this;refine wpOpIn_mono (λa' w' h'=>xq H hR hP os (j+1) _ hos hcont (by rw[iQ];exact hl) a' w' ⟨S,hS,hg,?_⟩) this;show Sim S (cH r y.s).sig a' w';rw[fZ hok.1];exact h'
theorem sj(rs qs:List Rec)(s:St){j:Nat}(h:j<=rs.length): fF (rs++qs) s j=fF rs s j:=by
 unfold fF;rw[yK h]
theorem ry(s:St): cH dflt s=s:=rfl
theorem AH(s:St): ∀n,fF (List.replicate n dflt) s n=s
 | 0=>rfl
 | n+1=>by
  have h:=lE (List.replicate (n+1) dflt) s n dflt (by simp);rw[h,ry];have e:List.replicate (n+1) dflt=List.replicate n dflt++[dflt]:=by rw[List.replicate_succ']
  rw[e,sj _ _ _ (by simp)];exact AH s n
theorem AI(n:Nat)(rs:List Rec)(s:St)(j:Nat): fF (List.replicate n dflt++rs) s (n+j)=fF rs s j:=by
 have h0:=AH s n;unfold fF at h0 ⊢;rw[qDc,qBu];simp only[wJ,Nat.add_sub_cancel_left];rw[qO (by simp)];rw[qO (by simp)]at h0;rw[h0]
theorem A2{rs:List Rec}{d d':Nat->Bool}{σ:Sig}{n:Nat}(h:∀i,i<n->d i=d' i\/rs[i]?=some dflt): fh (bV rs) d n σ=fh (bV rs) d' n σ:=by
 induction n with
 | zero=>rfl
 | succ n ih=>
  have ih:=ih λi hi=>h i (by omega)
  simp only[fh];rw[ih];rcases h n (by omega)with e | e
  .rw[e]
  .have:∀σ,bV rs n σ=σ:=λσ=>by
    unfold bV;rw[e];show(⟨upT σ.T none .top,upM σ.m [],σ.sv⟩:Sig)=σ;have e1:upT σ.T none .top=σ.T:=by funext t;simp[upT]
    have e2:upM σ.m []=σ.m:=by funext t;simp[upM]
    rw[e1,e2]
   split<;>split<;>simp[this]
theorem Uy(H:Qo c it l N fr J JX JP){ops:Array Oper}{Q:Y->Prop}{R:Exit->Act->World->Prop}(hR:∀y',Q y'->y'.s.tm.length=N->∀a w,Zy c N fr J JX y' a w->R .normal a w)(hP:∀ch a w D,a.defers=[]->JP ch w D fr.V->Kept fr w->R (.panic ch) a w)
  {y:Y} (h:Zb c it l ops y Q) (hl:y.s.tm.length=N) {a:Act} {w:World} (hs:Zy c N fr J JX y a w) {id:Nat}:(Code.region id ops true).wpIn (Fr fr.ro) 0 c.P R a w:=by
 unfold Zb at h;split at h
 case h_2=>exact h.elim
 rename_i o rs ho hrs;obtain⟨q,hq⟩:∃q,q=ops.toList.findIdx cE:=⟨_,rfl⟩;obtain⟨tbl,htbl⟩:∃tbl,tbl=iR [] ops.toList:=⟨_,rfl⟩;rw[<- hq]at ho hrs;rw[<- hq,<- htbl]at h;split at h
 case isFalse=>exact h.elim
 rename_i hc;obtain⟨n1,n2,n3,n4,n5,n6⟩:=hc;split at h
 case h_2=>exact h.elim
 rename_i l' ns v hy;split at h
 case h_2=>exact h.elim
 rename_i x hx;obtain⟨hrn,h⟩:=bL h;obtain⟨hns,hll,hon,hat,hcont⟩:=bL h;have hqs:q<ops.size:=(vK.1 ho).1;have hqs':q<ops.toList.length:=by simpa using hqs
 have hgd:o.guard=none:=by simpa using n2
 have nk:∀j,j<ops.size->(j<q->(tbl.getD q 0).testBit j=true)/\(q<j->(tbl.getD j 0).testBit q=true):=λj hj=>by
  unfold aFp at n1;rw[qM]at n1;have:=n1 j (by simpa using hj);refine⟨λg=>?_,λg=>?_⟩
  .rw[if_pos g]at this;exact this
  .rw[if_neg (by omega)]at this;simp only[yE,xH]at this;rcases this with e | e
   .omega
   .exact e
 obtain⟨S,hS,hg,D,E,hd⟩:=hs;have hlS:y.s.tm.length=S.N:=hl.trans hS.N.symm;have HO:=hS.okS H;obtain⟨hlen,hatr⟩:=sB hrs;have hlen:rs.length=q:=by rw[hlen,qI];omega
 obtain⟨rsA,hA⟩:∃rsA,rsA=rs++List.replicate (ops.size-q) dflt:=⟨_,rfl⟩;rw[<- hA]at n5 n6;have lenA:rsA.length=ops.size:=by rw[hA,qG,wJ,hlen];omega
 have Bf:∀(j:Nat) o r,ops[j]?=some o->j<q->rsA[j]?=some r->rs[j]?=some r/\gn S.P S.G c.K (ZV c.mb o) ops (fF rsA y.s j).nx (fF rsA y.s j).sig o=some r/\fX r y.s.tm.length=true:=λj o r ho hj hr=>by
  have hr':rs[j]?=some r:=by rw[hA,vJ (by omega)]at hr;exact hr
  have h2:=hatr j o r (by rw[vM,if_pos hj];simpa using ho) hr';rw[HO.P,HO.G]at h2;rw[hA,sj _ _ _ (by omega)];exact⟨hr',h2⟩
 have okA:∀(j:Nat) (r:Rec),rsA[j]?=some r->fX r y.s.tm.length=true:=λj r hr=>by
  have hj:j<ops.size:=by rw[<- lenA];exact(qF.1 hr).1
  rcases zC j q with g | g
  .exact(Bf j _ r (zI hj) g hr).2.2
  .rw[hA,qW (by omega),wQ]at hr;split at hr
   .cases hr;rfl
   .cases hr
 have dstOf:∀{r:Rec} {o:Oper} {nx:Nat} {σ:Sig} {mt:Bool},gn S.P S.G c.K mt ops nx σ o=some r->fX r y.s.tm.length=true->∀d,o.dst=some d->d<S.N:=λ{r o nx σ mt} h1 h2 d hd=>by
  unfold fX at h2;simp only[qC]at h2;have h3:=h2.1;rw[(jz h1).1,hd]at h3;rw[<- hlS];simpa using h3
 rw[<- hS.F,<- hS.P];refine wpIn_region_any HO.m ?_;have hsA:Sim S y.s.sig a {w with drawn:=w.drawn+1}:=Sim.draw ⟨D,E,hd⟩;refine zn (mb:=c.mb) (rs:=rsA) (k:=0) (q:=q) HO.K lenA hlS (λj o r ho hr hlv=>?_) okA n5 n6 (λh=>absurd hqs (by omega)) (λ_ n listed a1 w1 hsz hqf hcnt hanc hdesc hrok hsim=>?_)
  ops.size (Array.replicate ops.size false) a _ (by simp) (wE (xB _ _) (by simp)) (λi hi=>by omega) (λ_=>?_) (λi j hij hj hb hl=>?_) ?_
 .have hj:j<ops.size:=(vK.1 ho).1;have hjq:j<q:=by
   rcases Nat.lt_trichotomy j q with g | g | g
   .exact g
   .exact(hlv.2.1 g).elim
   .have:=(nk j hj).2 g;rw[hlv.2.2]at this;cases this
  obtain⟨g0,g1,g2⟩:=Bf j o r ho hjq hr;exact⟨g1,dstOf g1 g2,λp hp=>hrn p (yJ.2 ⟨r,zD g0,hp⟩)⟩
 ·
  obtain⟨s1,hs1⟩:∃s1,s1=fF rs y.s q:=⟨_,rfl⟩;rw[<- hs1]at n4 hy hcont;have e1:fh (bV rsA) (λi=>listed.getD i false) ops.size y.s.sig=s1.sig:=by
   have e2:fh (bV rsA) (λi=>listed.getD i false) ops.size y.s.sig=fh (bV rsA) PZ ops.size y.s.sig:=A2 λi hi=>by
    rcases zC i q with g | g
    .exact .inl (hanc i ((nk i hi).1 g))
    .exact .inr (by rw[hA,qW (by omega),wQ,if_pos (by omega)])
   rw[e2,mq okA ops.size (by rw[lenA];exact qJ _),hs1];have e3:fF rsA y.s ops.size=fF rs y.s q:=by
    have:∀m,q+m<=ops.size->fF rsA y.s (q+m)=fF rs y.s q:=by
     intro m;induction m with
     | zero=>intro _;rw[hA];exact sj _ _ _ (by omega)
     | succ m ih=>
      intro hm;have hr:rsA[q+m]?=some dflt:=by rw[hA,qW (by omega),wQ,if_pos (by omega)]
      rw[show q+(m+1)=(q+m)+1 by omega,lE _ _ _ _ hr,ry];exact ih (by omega)
    have:=this (ops.size-q) (by omega)
    rwa [show q+(ops.size-q)=ops.size by omega]at this
   rw[e3]
  rw[e1]at hsim;obtain⟨D1,E1,hd1⟩:=(show Sim _ _ _ _ from hsim);have l1:s1.tm.length=S.N:=by rw[hs1,jT];exact hlS
  unfold wpOpIn;rw[ho];simp only;rw[show Region.wanted o (yielded ops a1.tmps)=true by unfold Region.wanted;rw[hgd]];simp only[xU];rw[hS.F,hS.P];refine Aj (y:=⟨s1,y.k,y.on⟩) H hS hg hd1 (wO.1 n4) hy hx hns hll hon hat hP λb w' _ hgh hnx hb=>?_
  have hc2:=hcont b;split at hc2
  case h_2=>exact hc2.elim
  rename_i rs2 hrs2;split at hc2
  case isFalse=>exact hc2.elim
  rename_i hk2;obtain⟨m1,m2⟩:=hk2;obtain⟨g1,g2⟩:=bL hc2;obtain⟨s2,hs2⟩:∃s2,s2=setSlot o.dst (.dat .bool b) s1:=⟨_,rfl⟩;rw[<- hs2]at hrs2 m1 g2;obtain⟨rsB,hB⟩:∃rsB,rsB=List.replicate (q+1) dflt++rs2:=⟨_,rfl⟩;rw[<- hB]at m1 m2;obtain⟨S2,hS2⟩:∃S2:Base,S2={S with w0:=w',D0:=D1,O:=λ_=>False}:=⟨_,rfl⟩;have hO2:OkY c N fr S2:=by rw[hS2];exact hnx
  have HO2:=hO2.okS H;have l2:s2.tm.length=S2.N:=by rw[hs2,hS2];simp[setSlot];split<;>simp[l1]
  have hd2:aH S2 s2.sig (a1.put o.dst (.bool b)) w' D1 E1:=by
   rw[hs2,hS2];have n3':nC o.dst s1.tm.length=true:=by rw[l1,<- hlS];exact n3
   exact hb.slot (show s1.tm.length=S.N from l1) n3' rfl
  obtain⟨hlen2,hatr2⟩:=sB hrs2;have hlen2:rs2.length=ops.size-(q+1):=by rw[hlen2,vY];simp
  have lenB:rsB.length=ops.size:=by rw[hB,qG,wJ,hlen2];omega
  have recB:∀(j:Nat) o r,ops[j]?=some o->q<j->rsB[j]?=some r->rs2[j-(q+1)]?=some r/\gn S2.P S2.G c.K (ZV c.mb o) ops (fF rsB s2 j).nx (fF rsB s2 j).sig o=some r/\fX r s2.tm.length=true:=λj o r ho hj hr=>by
   have hr':rs2[j-(q+1)]?=some r:=by rw[hB,qW (by simp;omega)]at hr;simpa using hr
   have h2:=hatr2 (j-(q+1)) o r (by rw[qY,show q+1+(j-(q+1))=j by omega];simpa using ho) hr';rw[HO2.P,HO2.G]at h2;have e5:fF rsB s2 j=fF rs2 s2 (j-(q+1)):=by
    have:=AI (q+1) rs2 s2 (j-(q+1));rw[show q+1+(j-(q+1))=j by omega]at this;rw[hB];exact this
   rw[e5];exact⟨hr',h2⟩
  have okB:∀(j:Nat) (r:Rec),rsB[j]?=some r->fX r s2.tm.length=true:=λj r hr=>by
   have hj:j<ops.size:=by rw[<- lenB];exact(qF.1 hr).1
   rcases zC q j with g | g
   .exact(recB j _ r (zI hj) g hr).2.2
   .rw[hB,vJ (by simp;omega),wQ]at hr;split at hr
    .cases hr;rfl
    .cases hr
  have eset:∀i,(listed.setIfInBounds q true).getD i false=if i=q then true else listed.getD i false:=by
   intro i;simp only[qK,zB];by_cases e:q=i
   .subst e;simp[hsz,hqs]
   .rw[if_neg e,if_neg (λh=>e h.symm)]
  have lst:∀i,i<ops.size->(listed.setIfInBounds q true).getD i false=decide (i<=q):=λi hi=>by
   rw[eset];rcases Nat.lt_trichotomy i q with g | g | g
   .rw[if_neg (by omega),hanc i ((nk i hi).1 g)];simp;omega
   .rw[if_pos g];simp;omega
   .rw[if_neg (by omega),hdesc i ((nk i hi).2 g) hi];simp;omega
  rw[<- hO2.F,<- hO2.P];refine zn (mb:=c.mb) (rs:=rsB) (k:=q+1) (q:=ops.size) HO2.K lenB l2 (λj o r ho hr hlv=>?_) okB m1 m2 (λ_ a3 w3 h3=>?_) (λh=>absurd h (by omega))
   n (listed.setIfInBounds q true) _ _ (by simpa using hsz) ?_ (λi hi hil=>?_) (λh=>absurd h (by omega)) (λi j hij hj hb hl=>?_) ?_
  .obtain⟨q0,q1,q2⟩:=recB j o r ho (by have:=hlv.1;omega) hr;refine⟨q1,λd hd=>?_,λp hp=>g1 p (yJ.2 ⟨r,zD q0,hp⟩)⟩;unfold fX at q2;simp only[qC]at q2;have h3:=q2.1;rw[(jz q1).1,hd]at h3;rw[<- l2];simpa using h3
  .refine hR _ g2 ?_ a3 w3 ⟨S2,hO2,?_,?_⟩
   .rw[show(Y.mk (fF rs2 s2 rs2.length) (y.k+1) b).s=fF rs2 s2 rs2.length from rfl,jT];exact l2.trans hO2.N
   .rw[hS2];exact hgh
   .have e6:fF rsB s2 rsB.length=fF rs2 s2 rs2.length:=by
     have:=AI (q+1) rs2 s2 rs2.length;rw[hB,qG,wJ];exact this
    rw[e6]at h3;exact h3
  .have hun:listed.getD q true=false:=by
    have:listed.getD q true=listed.getD q false:=by simp[Array.getD,hsz,hqs]
    rw[this];exact hqf
   have:=G1 hsz hqs hun;omega
  .rw[lst i hil];simp;omega
  .rw[lst j hj]at hl;rw[lst i (by omega)];simp only[qE]at hl ⊢;omega
  .have e7:fh (bV rsB) (λi=>(listed.setIfInBounds q true).getD i false) ops.size s2.sig=s2.sig:=by
    have e8:fh (bV rsB) (λi=>(listed.setIfInBounds q true).getD i false) ops.size s2.sig=fh (bV rsB) (λ_=>false) ops.size s2.sig:=A2 λi hi=>by
     rcases zC q i with g | g
     .refine .inl ?_;rw[lst i hi];simp;omega
     .exact .inr (by rw[hB,vJ (by simp;omega),wQ,if_pos (by omega)])
    rw[e8];have:∀n,fh (bV rsB) (λ_=>false) n s2.sig=s2.sig:=by
     intro n;induction n with
     | zero=>rfl
     | succ n ih=>simp only[fh,vT,yQ];exact ih
    exact this _
   rw[e7];exact⟨D1,E1,hd2⟩
 .rw[qK];simp[hqs]
 .rw[qK]at hl;simp[hj]at hl
 .have:∀n,fh (bV rsA) (λi=>(Array.replicate ops.size false).getD i false) n y.s.sig=y.s.sig:=by
   intro n;induction n with
   | zero=>rfl
   | succ n ih=>
    have:(Array.replicate ops.size false).getD n false=false:=by
     rw[qK];cases h:(Array.replicate ops.size false)[n]? with
     | none=>rfl
     | some v=>rw[yF]at h;split at h<;>cases h;rfl
    simp only[fh,this,vT,yQ];exact ih
  rw[this];exact hsA
theorem ri{rg:Array Oper->Bool->Y->(Y->Prop)->Prop}{F:Fence}{X:Y->Act->World->Prop}{PQ:List PanicEntry->Act->World->Prop}
  (HX:∀y a w,X y a w->∃S,OkS c S/\S.F=F/\S.N=N/\Sim S y.s.sig a w/\∀s' a' w',Sim S s'.sig a' w'->X ⟨s',y.k,y.on⟩ a' w')
  (Hr:∀(id:Nat) (ops:Array Oper) (draw:Bool) (y:Y) (Q:Y->Prop) (R:Exit->Act->World->Prop),rg ops draw y Q->y.s.tm.length=N->(∀y',Q y'->y'.s.tm.length=N->∀a w,X y' a w->R .normal a w)->(∀ch a w,PQ ch a w->R (.panic ch) a w)->∀a w,X y a w->(Code.region id ops draw).wpIn F 0 c.P R a w)
  {A:GQ}:∀(x:Code) (y:Y) (Q:Exit->Y->Prop) (R:Exit->Act->World->Prop),evZ c rg A x y Q->y.s.tm.length=N->
  (∀e y',Q e y'->y'.s.tm.length=N->∀a w,X y' a w->R e a w)->(∀ch a w,PQ ch a w->R (.panic ch) a w)->∀a w,X y a w->x.wpIn F 0 c.P R a w
 | .skip,y,Q,R,h,hl,hR,hP,a,w,hs=>by
  unfold evZ at h;exact wpIn_skip (hR _ y h hl a w hs)
 | .region id ops draw,y,Q,R,h,hl,hR,hP,a,w,hs=>by
  have key:∀y1:Y,y1.s.tm.length=N->X y1 a w->(if A.yr id=true then rg ops draw y1 (Q .normal)else ZT c ops draw y1.s λs'=>Q .normal ⟨s',y1.k,y1.on⟩)->(Code.region id ops draw).wpIn F 0 c.P R a w:=by
   intro y1 hl1 hs1 h1;split at h1
   .exact Hr id ops draw y1 _ R h1 hl1 (λy' hq hl' a' w' hs'=>hR .normal y' hq hl' a' w' hs') hP a w hs1
   .obtain⟨S,HO,hF,hN,hsim,hback⟩:=HX _ _ _ hs1;unfold ZT at h1;split at h1
    .rename_i ns s' he;obtain⟨g1,g2⟩:=bL h1;have:=VE (S:=S) HO.P HO.G HO.K HO.m he g1 (hl1.trans hN.symm) hsim (id:=id) (Q:=R) (λa' w' hs'=>hR .normal ⟨s',y1.k,y1.on⟩ g2 ((Nx he).trans hl1) a' w' (hback s' a' w' hs'));rw[hF,<- HO.P]at this;exact this
    .exact h1.elim
  unfold evZ at h;split at h
  .rename_i s1 _;split at h
   .rename_i ms hms;obtain⟨g1,g2⟩:=bL h;obtain⟨S,HO,hF,hN,hsim,hback⟩:=HX _ _ _ hs;exact key ⟨s1,y.k,y.on⟩ ((mD hms).symm.trans hl) (hback s1 a w (Ha hsim hms g1)) g2
   .exact h.elim
  .exact key y hl hs h
 | .seq x z,y,Q,R,h,hl,hR,hP,a,w,hs=>by
  unfold evZ at h;refine wpIn_seq (ri HX Hr x y _ (Exit.then (z.wpIn F 0 c.P R) R) h hl (λe y' hq hl' a' w' hs'=>?_) (λch a w h1=>hP ch a w h1) a w hs);cases e<;>first
   | exact ri HX Hr z y' Q R hq hl' hR hP a' w' hs'
   | exact hR _ y' hq hl' a' w' hs'
 | .cond t x z,y,Q,R,h,hl,hR,hP,a,w,hs=>by
  unfold evZ at h;split at h
  case h_2=>exact h.elim
  rename_i ns b hc;obtain⟨g1,g2,g3⟩:=bL h;obtain⟨S,HO,hF,hN,⟨D,E,hs0⟩,hback⟩:=HX _ _ _ hs;have hrel:=dN hs0 t;rw[<- HO.G]at hrel;have hb:a.eval t=.bool b:=by
   unfold UI at hc;split at hc
   .rename_i b' hv;cases hc;rw[hv]at hrel;simpa only[AV.rel,ah,qR,vP]using hrel
   .rename_i g b' hv;cases hc;rw[hv]at hrel;have hg:g=true:=g1 _ (by simp);simpa only[AV.rel,ah,qR,vP]using hrel.1 hg
   .cases hc
  exact wpIn_cond_split hb (λe=>ri HX Hr x y Q R (g2 e) hl hR hP a w hs) (λe=>ri HX Hr z y Q R (g3 e) hl hR hP a w hs)
 | .block id x,y,Q,R,h,hl,hR,hP,a,w,hs=>by
  unfold evZ at h;refine wpIn_block (ri HX Hr x y _ (Exit.inBlock id R) h hl (λe y' hq hl' a' w' hs'=>?_) (λch a w h1=>hP ch a w h1) a w hs);cases e<;>first
   | exact hR _ y' hq hl' a' w' hs'
   | (rename_i id'
      simp only[Exit.inBlock];simp only at hq;split at hq
      .rename_i e;rw[if_pos e];exact hR _ y' hq hl' a' w' hs'
      .rename_i e;rw[if_neg e];exact hR _ y' hq hl' a' w' hs')
 | .exit id,y,Q,R,h,hl,hR,hP,a,w,hs=>by unfold evZ at h;exact wpIn_exit (hR _ y h hl a w hs)
 | .ret,y,Q,R,h,hl,hR,hP,a,w,hs=>by unfold evZ at h;exact wpIn_ret (hR _ y h hl a w hs)
 | .loop x,y,Q,R,h,hl,hR,hP,a,w,hs=>by
  unfold evZ at h;split at h
  case h_2=>exact h.elim
  split at h
  case h_2=>exact h.elim
  rename_i sp _;obtain⟨⟨x0,i1,i2⟩,h2⟩:=h;have le:∀{y y':Y} {a:Act} {w:World},leY y y'->X y a w->X y' a w:=by
   rintro y ⟨s',k',on'⟩ a w ⟨l1,l2,l3⟩ hx;obtain⟨S,_,_,_,hsim,hback⟩:=HX _ _ _ hx;have:=hback s' a w (yy l1 hsim);rw[l2,l3]at this;exact this
  refine wpIn_loop_ghost (λn a w=>∃z,sp.inv z/\sp.μ z=n/\(sp.st z).s.tm.length=N/\X (sp.st z) a w) (sp.μ x0) ⟨x0,i1,rfl,(tL i2.1).symm.trans hl,le i2 hs⟩ ?_;rintro n a w ⟨z,j1,rfl,j2,j3⟩;refine ri HX Hr x (sp.st z) _ (Exit.then (λa' w'=>∃n',n'<sp.μ z/\∃z,sp.inv z/\sp.μ z=n'/\(sp.st z).s.tm.length=N/\X (sp.st z) a' w') R) (h2 z j1) j2 (λe y' hq hl' a' w' hs'=>?_) (λch a w h1=>hP ch a w h1) a w j3
  cases e<;>first
   | (obtain⟨z',k1,k2,k3⟩:=hq;exact⟨sp.μ z',k3,z',k1,rfl,(tL k2.1).symm.trans hl',le k2 hs'⟩)
   | exact hR _ y' hq hl' a' w' hs'
 | .rangeFunc _ _ _ _,_,_,_,h,_,_,_,_,_,_=>by unfold evZ at h;exact h.elim
 | .scope _,_,_,_,h,_,_,_,_,_,_=>by unfold evZ at h;exact h.elim
 | .label _,_,_,_,h,_,_,_,_,_,_=>by unfold evZ at h;exact h.elim
 | .goto _,_,_,_,h,_,_,_,_,_,_=>by unfold evZ at h;exact h.elim
 | .refuse _,_,_,_,h,_,_,_,_,_,_=>by unfold evZ at h;exact h.elim
theorem VX(H:Qo c it l N fr J JX JP){A:GQ}(x:Code)(y:Y)(Q:Exit->Y->Prop)(R:Exit->Act->World->Prop)(h:evY c it l A x y Q)(hl:y.s.tm.length=N)
  (hR:∀e y',Q e y'->y'.s.tm.length=N->∀a w,Zy c N fr J JX y' a w->R e a w) (hP:∀ch a w D,a.defers=[]->JP ch w D fr.V->Kept fr w->R (.panic ch) a w) (a:Act) (w:World) (hs:Zy c N fr J JX y a w):x.wpIn (Fr fr.ro) 0 c.P R a w:=by
 refine ri (X:=Zy c N fr J JX) (PQ:=λch a w=>a.defers=[]/\∃D,JP ch w D fr.V/\Kept fr w) (λy a w ⟨S,hS,hg,hsim⟩=>⟨S,hS.okS H,hS.F,hS.N,hsim,λs' a' w' hs'=>⟨S,hS,hg,hs'⟩⟩)
  (λid ops draw y Q R hr hl hR hP a w hs=>?_) x y Q R h hl hR (λch a w ⟨h1,D,h2,h3⟩=>hP ch a w D h1 h2 h3) a w hs
 have hP':∀ch a w D,a.defers=[]->JP ch w D fr.V->Kept fr w->R (.panic ch) a w:=λch a w D h1 h2 h3=>hP ch a w ⟨h1,D,h2,h3⟩
 unfold rgY at hr;split at hr
 .rename_i hdr;subst hdr;exact Uy H hR hP' hr hl hs
 .rename_i hdr;have hdr:draw=false:=by simpa using hdr
  subst hdr;refine wpIn_region ?_;have:=xq H (Q:=Q) (R:=R) hR hP' ops.toList 0 y (λi o ho=>by simpa using ho) hr hl a w hs;rw[qAy];simpa using this
end
theorem jF{c:Cfg}{A:GQ}{f:FuncId}{caps:List AV}{it:jr}(hK:ak c.P c.G c.K)(hI:bv c.P c.G c.KI)(hm:c.P.follows .mixedOrders=true)(h:evI c A f caps it)(hKP:c.KP=λ_ _ _=>none:=by rfl): mR c.P c.G f caps it:=by
 intro hpre l J JX JP w D us hD hG hcaps j1 j2 _ x1 x2 _ _ hyld h0;unfold evI at h;split at h
 case h_2=>exact h.elim
 rename_i fn hf;split at h
 case h_2=>exact h.elim
 rename_i b hb;obtain⟨hres,hnm,hone,hrng,h⟩:=h;have h:=h l hpre;obtain⟨fr,hfr⟩:∃fr:FrY,fr={ro:=none,sv:=[],V:=noV,Dv:=noV,W:=w}:=⟨_,rfl⟩;have H:Qo c it l ((caps.length+1)+(fn.ntmps-(caps.length+1))) fr J JX JP:=⟨hK,hI,(λf args m r h=>by rw[hKP]at h;cases h),hm,λ_=>hrng,λg=>(by rw[hfr]at g;exact(g rfl).elim),j1,j2,x1,x2,hyld⟩;have hlen:caps.length=us.length:=AV.relL_length hcaps
 have hargs:AV.relL c.P ⟨w,D,noM,noE⟩ (.yld l::caps) (.func (.yield l) #[] #[]::us):=⟨_,_,rfl,rfl,hcaps⟩;have earr:#[Value.func (.yield l) #[] #[]]++us.toArray=(Value.func (.yield l) #[] #[]::us).toArray:=by simp
 rw[earr];obtain⟨S,hS⟩:∃S:Base,S={P:=c.P,w0:=w,D0:=D,N:=(caps.length+1)+(fn.ntmps-(caps.length+1)),O:=λ_=>False,G:=c.G,sv:=[],rd:=none,nod:=true}:=⟨_,rfl⟩;refine callsIn_of_wp_marks hf hb trivial ?_
 suffices hsuf:b.wpIn (Fr fr.ro) 0 c.P (bodyPostM Fence.wide 0 c.P fn λe W'=>((∃v,e=.returned v)/\((∃D2,J it.L.length W' D2 noV)\/∃D2,JX W' D2 noV))\/∃ch,e=.panicked ch/\∃D2 V2,JP ch W' D2 V2) {tmps:=(Value.func (.yield l) #[] #[]::us).toArray++Array.replicate (fn.ntmps-(Value.func (.yield l) #[] #[]::us).toArray.size) undef,defers:=[]} w by
  rw[hfr]at hsuf;exact hsuf
 have hstart:aH S (qf fn l caps).s.sig {tmps:=(Value.func (.yield l) #[] #[]::us).toArray++Array.replicate (fn.ntmps-(Value.func (.yield l) #[] #[]::us).toArray.size) undef,defers:=[]} w D noE:=by
  rw[hS];refine⟨?_,⟨⟨λ_=>rfl,⟨[],rfl⟩,yL⟩,λd hd=>(by cases hd)⟩,λt=>?_,λnm b hm=>(by cases hm),λnm b hm=>(by cases hm),λnm nm' b b' hm=>(by cases hm),Chg.refl _ _,hD,λb hb=>hb,λb hb=>.inl hb,
   hG,rfl,fb.nil λk i b g=>(by obtain⟨_,_,_,_,_,_,g1,_⟩:=g;cases g1)⟩
  .simp[hlen]
  .show(((.yld l::caps)++List.replicate (fn.ntmps-(caps.length+1)) (AV.val undef)).getD t .top).rel c.P ⟨w,D,noM,noE⟩ _;rw[qA,qK];by_cases ht:t<(AV.yld l::caps).length
   .rw[vJ ht,xY (by simpa[hlen]using ht)];obtain⟨u,g1,g2⟩:=AV.relL_get hargs (qB ht);rw[qB ht];simp only[kG,g1,qQ];exact g2
   .rw[qW (by omega),xR (by simp[<- hlen]at ht ⊢;omega)];rw[wQ,yF];split
    .rename_i h1;rw[if_pos (by simp[<- hlen]at h1 ⊢;omega)];rfl
    .trivial
 refine VX (N:=(caps.length+1)+(fn.ntmps-(caps.length+1))) H b (qf fn l caps) (aC0 it) _ h (by simp[qf];omega) (λe y' hq hl a' w' hs'=>?_) (λch a w D hd hj _=>?_) _ w ⟨S,by rw[hS,hfr];exact⟨rfl,rfl,rfl,λ_ g=>g,rfl,rfl,rfl,rfl,⟨qJ _,λ_ g=>g.elim (λg=>g.elim) λg=>g.elim⟩,λ_ g=>g.elim (λg=>g.elim) λg=>g.elim,λ_ g=>g.elim,λ_ g=>g.elim⟩,⟨λ_=>by rw[hS,hfr];exact h0,λe=>by cases e⟩,D,noE,hstart⟩
 have key:(y'.on=true->y'.k=it.L.length)->LeavesInM Fence.wide 0 c.P fn a'.tmps (λe W'=>((∃v,e=.returned v)/\((∃D2,J it.L.length W' D2 noV)\/∃D2,JX W' D2 noV))\/∃ch,e=.panicked ch/\∃D2 V2,JP ch W' D2 V2) a'.defers .returning w':=by
  intro hq;obtain⟨S',hS',hg,D',E',hd⟩:=hs';have hdef:a'.defers=[]:=(hd.df.1.1 hS'.nod).trans hS'.gd;rw[hdef];have hgn:=hg.now hS' H hd;have hr:fn.results=#[]:=by
   apply yB;exact wO.1 hres
  refine⟨.tuple #[],by simp[results,hr],.inl ⟨⟨_,rfl⟩,?_⟩⟩;cases hon:y'.on with
  | true=>exact .inl ⟨D',by have:=hgn.1 hon;rw[hfr]at this;rw[<- hq hon];exact this⟩
  | false=>exact .inr ⟨D',by have:=hgn.2 hon;rw[hfr]at this;exact this⟩
 .cases e<;>first
   | exact key hq
   | exact hq.elim
 .show LeavesInM _ _ _ _ _ _ _ _ _;rw[hd];exact .inr ⟨ch,rfl,D,_,hj⟩
end Go.Eng
namespace Go.Eng
open Go.RowKit
structure ZM where
 A:Ann
 AY:GQ
 lp:St->Option St
 kf:Nat->Nat
def aEq(c:Cfg)(it:jr)(l:Nat)(A:ZM)(g:Operand)(ps:Array Tmp)(as b:Code)(s:St): Prop:=match evT c.G s.sig.T g,ps.toList with
 | .fn gf caps,[p]=>match c.KI gf caps with
  | some it2=>if Up c.P gf&&(AV.namesL caps).isEmpty&&s.sv.isEmpty&&s.mem.isEmpty&&one1 it2.t&&decide (p<s.tm.length)then
    it2.pre/\A.kf 0=0/\A.kf it2.L.length=it.L.length/\
    (∀j y,lu it2.L j y->ev c A.A as (sH p it2.t y s) (λe s1=>match e with
     | .normal=>s1.mem.isEmpty=true/\evY c it l A.AY b ⟨s1,A.kf j,true⟩ (λe y2=>match e with
      | .normal=>y2.on=true/\y2.k=A.kf (j+1)
      | .ret=>y2.on=true->y2.k=it.L.length
      | _=>False)
     | _=>False))
   else False
  | none=>False
 | _,_=>False
theorem TB{P:Program}{C:Ctx}{t:Ty}{x:t.den}{vs:Lv}(h:one1 t=true)(hr:AV.relL P C (EL t x) vs): ∃u,vs=[u]/\ah C.w C.D t x [u]:=by
 cases t with
 | pair a b=>simp[one1,aCZ]at h
 | _=>
  obtain⟨u,us,e,g1,g2⟩:=hr;cases g2;exact⟨u,e,g1⟩
def evN(c:Cfg)(it:jr)(l:Nat)(A:ZM): Code->St->Prop
 | .seq a b,s=>ev c A.A a s (λe s'=>match e with | .normal=>evN c it l A b s' | _=>False)
 | .rangeFunc g ps as b,s=>match A.lp s with
  | some s1=>match Qc s s1 with
   | some ms=>all ms (aEq c it l A g ps as b s1)
   | none=>False
  | none=>False
 | .block _ x,s=>evN c it l A x s
 | _,_=>False
def aEL(c:Cfg)(A:ZM)(f:FuncId)(caps:List AV)(it:jr): Prop:=match c.P.funcs[f]? with
 | some fn=>match fn.body with
  | some b=>fn.results.toList.isEmpty=true/\(AV.namesL caps).isEmpty=true/\one1 it.t=true/\c.rng=false/\∀l,it.pre->evN c it l A b (qf fn l caps).s
  | none=>False
 | none=>False
theorem Chg.put {V:Nat->Prop} {w:World} {k:Nat} {o:Obj} (h:V k):Chg V w (w.putObj k o)/\(w.putObj k o).heap.size=w.heap.size:=
 ⟨⟨rfl,rfl,rfl,by simp,λq _ hq=>World.putObj_heap_other λe=>hq (e▸h)⟩,by simp⟩
theorem YB{c:Cfg}{it:jr}{l:Nat}{A:ZM}{J:Nat->World->(Nat->Prop)->(Nat->Prop)->Prop}{JX:World->(Nat->Prop)->(Nat->Prop)->Prop}{JP:List PanicEntry->World->(Nat->Prop)->(Nat->Prop)->Prop}
  (H:∀(N:Nat) (fr:FrY),(fr.ro≠none->N<=fr.sv.length)->Qo c it l N fr J JX JP) (hKI:bv c.P c.G c.KI)
  (j3:∀k w1 w2 D1 V,J k w1 D1 V->Chg V w1 w2->w2.heap.size=w1.heap.size->J k w2 D1 V) (x3:∀w1 w2 D1 V,JX w1 D1 V->Chg V w1 w2->w2.heap.size=w1.heap.size->JX w2 D1 V)
  (p3:∀ch w1 w2 D1 V,JP ch w1 D1 V->Chg V w1 w2->w2.heap.size=w1.heap.size->JP ch w2 D1 V)
  {fn:Func} (hres:fn.results=#[]) {S:Base} (HO:OkS c S) (hSO:∀b,¬S.O b) (hSs:S.sv=[]) (hSr:S.rd=none) (hSg:S.gd=[]) (hSn:S.nod=true) {g:Operand} {ps:Array Tmp} {as b:Code} {s:St} (h:aEq c it l A g ps as b s) (hl:s.tm.length=S.N)
  {a:Act} {w:World} {D:Nat->Prop} {E:Nat->Ent} (hd:aH S s.sig a w D E) (hJ0:J 0 S.w0 S.D0 noV):
  At c.P none (.rangeFunc g ps as b) (bodyPostM Fence.wide 0 c.P fn λe W'=>((∃v,e=.returned v)/\((∃D2,J it.L.length W' D2 noV)\/∃D2,JX W' D2 noV))\/∃ch,e=.panicked ch/\∃D2 V2,JP ch W' D2 V2) a w:=by
 have H0:=H S.N {ro:=none,sv:=[],V:=noV,Dv:=noV,W:=w} (λe=>(e rfl).elim);have hP:S.P=c.P:=HO.P.symm;unfold aEq at h;split at h
 case h_2=>exact h.elim
 rename_i gf caps p hev hps;split at h
 case h_2=>exact h.elim
 rename_i it2 hki;split at h
 case isFalse=>exact h.elim
 rename_i hc;obtain⟨hpre,hk0,hkn,hround⟩:=h;simp only[qC,qE,wO]at hc;obtain⟨⟨⟨⟨⟨hgoes,hnm⟩,hsv⟩,hmem⟩,hone⟩,hp⟩:=hc;simp only[Up,qC,qE]at hgoes;obtain⟨hgoes,hgf⟩:=hgoes;have hone1:=hone;have hdef:a.defers=[]:=(hd.df.1.1 hSn).trans hSg;have em:s.sig.m=λ_=>none:=by
  funext k
  show s.mem.lookup k=none;rw[hmem];rfl
 have noAll:∀(E:Nat->Ent) b,¬aG s.sig.m E b:=λE b g=>by
  rw[em]at g;rcases g with⟨_,_,g,_⟩ | ⟨nm,i,g⟩
  .cases g
  .exact jY g
 have hgv:=dN hd g;rw[<- HO.G,hev]at hgv;obtain⟨cs,hga,hcaps⟩:=hgv;rw[hP]at hcaps;refine at_range λfn2 hfn2=>?_
 obtain⟨l2,hl2⟩:∃l2,l2=w.heap.size+1:=⟨_,rfl⟩;obtain⟨rec,hrec⟩:∃rec:LoopState->Option Code->Loop,rec=λst pe=>{state:=st,pending:=pe,fn:=fn2,tmps:=a.tmps,params:=ps,assign:=as,body:=b,defers:=w.heap.size}:=⟨_,rfl⟩
 obtain⟨W1,hW1⟩:∃W1,(w.alloc (.deferred (some []))).alloc (.loop (rec .ready none))=W1:=⟨_,rfl⟩;have hsz1:W1.heap.size=w.heap.size+2:=by rw[<- hW1];simp
 have hL1:W1.heap[l2]?=some (.loop (rec .ready none)):=by
  rw[<- hW1,hl2];have:=World.alloc_heap_new (w.alloc (.deferred (some []))) (.loop (rec .ready none));rwa [zO]at this
 have hK1:W1.heap[w.heap.size]?=some (.deferred (some [])):=by
  rw[<- hW1];exact(Below.heap_alloc _ _ _ (by simp)).trans (World.alloc_heap_new w _)
 have hb1:Below w.heap.size w W1:=by
  rw[<- hW1];exact((Below.refl _ w).alloc (qJ _) _).alloc (by simp) _
 refine⟨l2,[{target:=.collected w.heap.size,args:=#[]}],W1,{target:=.fn (.func gf) cs.toArray,args:=#[.func (.yield l2) #[] #[]]},W1,gf,
  #[.func (.yield l2) #[] #[]]++cs.toArray,W1,?_,?_,?_,?_⟩
 .rw[<- hW1,hrec,hl2];exact run_enterLoop_outer _ _ _ _ _
 .simp only[resolve,hga];simp[go_sem]
 .have:=jG (P:=c.P) hgoes W1 (#[.func (.yield l2) #[] #[]]++cs.toArray);simp only[invoke];exact this
 have hsz0:a.tmps.size=S.N:=hd.sz;have act0:a={tmps:=a.tmps,defers:=[]}:=by cases a;simp only at hdef;rw[hdef]
 rw[act0]at hd;have grow:∀{S:Base} {a:Act} {W W2:World} {σ:Sig} {D:Nat->Prop} {E:Nat->Ent},aH S σ a W D E->Below W.heap.size W W2->∀X:Nat->Prop,aH S σ a W2 (λb=>D b\/(gk W W2 b/\¬X b)) E:=λ{S a W W2 σ D E} h hb X=>
  h.world (D':=λb=>D b\/(gk W W2 b/\¬X b)) hb (λb=>⟨λg=>g.imp id λg=>⟨g.1,.inr g⟩,λg=>g.elim .inl (·.2)⟩) λb g=>by
   rcases g with g | g
   .exact qN (h.dlt b g) hb.size
   .exact g.1.2
 obtain⟨PV,hPV⟩:∃PV:(Nat->Prop)->Nat->Prop,PV=λV2 b=>b=w.heap.size\/b=l2\/V2 b:=⟨_,rfl⟩
 obtain⟨Fm,hFm⟩:∃Fm:World->(Nat->Prop)->(Nat->Prop)->(Nat->Prop)->Prop,Fm=λW D Dit V2=>(∀b,Dit b->D b)/\W.heap[w.heap.size]?=some (.deferred (some []))/\(∀b,V2 b->l2<b/\b<W.heap.size)/\(∀b,PV V2 b->¬D b)/\l2<W.heap.size:=⟨_,rfl⟩
 obtain⟨J2,hJ2⟩:∃J2:Nat->World->(Nat->Prop)->(Nat->Prop)->Prop,J2=λj W Dit V2=>∃(w0:World) (D0 D:Nat->Prop) (E:Nat->Ent),aH {S with w0:=w0,D0:=D0,O:=noV} s.sig {tmps:=a.tmps,defers:=[]} W D E/\Fm W D Dit V2/\
   W.heap[l2]?=some (.loop (rec .ready none))/\J (A.kf j) W D (PV V2):=⟨_,rfl⟩
 obtain⟨JX2,hJX2⟩:∃JX2:World->(Nat->Prop)->(Nat->Prop)->Prop,JX2=λW Dit V2=>∃(D:Nat->Prop),(∀b,D b->b<W.heap.size)/\Fm W D Dit V2/\
   W.heap[l2]?=some (.loop (rec .done (some .ret)))/\(J it.L.length W D (PV V2)\/JX W D (PV V2)):=⟨_,rfl⟩
 obtain⟨JP2,hJP2⟩:∃JP2:List PanicEntry->World->(Nat->Prop)->(Nat->Prop)->Prop,JP2=λch W _ V2=>W.heap[w.heap.size]?=some (.deferred (some []))/\w.heap.size<W.heap.size/\(∀b,V2 b->l2<b)/\∃D0 V0,JP ch W D0 V0/\V0 w.heap.size/\∀b,V2 b->V0 b:=⟨_,rfl⟩
 have anew:∀{S2:Base} {W W2:World} {D:Nat->Prop} {E:Nat->Ent},S2.P=S.P->S2.G=S.G->S2.N=S.N->S2.sv=[]->S2.rd=none->S2.nod=true->S2.gd=[]->aH S2 s.sig {tmps:=a.tmps,defers:=[]} W D E->W.heap.size<=W2.heap.size->(∀b,D b->W2.heap[b]?=W.heap[b]?)->
   aH {S with w0:=W2,D0:=D,O:=noV} s.sig {tmps:=a.tmps,defers:=[]} W2 D E:=λ{S2 W W2 D E} e1 e2 e3 e4 e5 e6 e7 hh hs hk=>by
  have:=hh.behindYield hmem hs hk e6 e7;have e:({S2 with w0:=W2,D0:=D,O:=λ_=>False}:Base)={S with w0:=W2,D0:=D,O:=noV}:=by
   cases S2;cases S;simp only at e1 e2 e3 e4 e5 e6 e7 hSs hSr hSn hSg;subst e1 e2 e3 e4 e5 e6 e7 hSs hSr hSn hSg;rfl
  rw[<- e];exact this
 have incl:∀{V2 V3:Nat->Prop},(∀b,V2 b->V3 b)->∀b,PV V2 b->PV V3 b:=λ{V2 V3} h b g=>by
  rw[hPV]at g ⊢;rcases g with g | g | g
  .exact .inl g
  .exact .inr (.inl g)
  .exact .inr (.inr (h b g))
 have pvx:∀{W W2:World} {V2 X:Nat->Prop} {b:Nat},PV (λb=>V2 b\/(gk W W2 b/\X b)) b->PV V2 b\/(gk W W2 b/\X b):=λ{W W2 V2 X b} g=>by
  rw[hPV]at g ⊢;rcases g with g | g | g | g
  .exact .inl (.inl g)
  .exact .inl (.inr (.inl g))
  .exact .inl (.inr (.inr g))
  .exact .inr g
 have fmBelow:∀{W W2:World} {D Dit V2:Nat->Prop},Fm W D Dit V2->(∀b,D b->b<W.heap.size)->Below W.heap.size W W2->∀X:Nat->Prop,Fm W2 (λb=>D b\/(gk W W2 b/\¬X b)) (λb=>Dit b\/(gk W W2 b/\¬X b)) (λb=>V2 b\/(gk W W2 b/\X b)):=λ{W W2 D Dit V2} hf hlt hb X=>by
  rw[hFm]at hf ⊢;obtain⟨f1,f2,f3,f4,f5⟩:=hf;refine⟨λb g=>g.imp (f1 b) id,(hb.block _ (by omega)).trans f2,λb g=>?_,λb g g2=>?_,qN f5 hb.size⟩
  .rcases g with g | g
   .exact⟨(f3 b g).1,qN (f3 b g).2 hb.size⟩
   .exact⟨qN f5 g.1.1,g.1.2⟩
  .rcases pvx g with g | g
   .rcases g2 with g2 | g2
    .exact f4 b g g2
    .have h1:=g2.1.1;rw[hPV]at g;rcases g with g | g | g
     .omega
     .omega
     .have:=(f3 b g).2;omega
   .rcases g2 with g2 | g2
    .have:=hlt b g2;have:=g.1.1;omega
    .exact g2.2 g.2
 have fmSub:∀{W:World} {D Dit Dit2 V2 V3:Nat->Prop},Fm W D Dit V2->(∀b,Dit2 b->Dit b)->(∀b,V3 b->V2 b)->Fm W D Dit2 V3:=λ{W D Dit Dit2 V2 V3} hf h1 h2=>by
  rw[hFm]at hf ⊢;obtain⟨f1,f2,f3,f4,f5⟩:=hf;exact⟨λb g=>f1 b (h1 b g),f2,λb g=>f3 b (h2 b g),λb g=>f4 b (incl h2 b g),f5⟩
 have fmChg:∀{W W2:World} {D Dit V2:Nat->Prop},Fm W D Dit V2->Chg V2 W W2->W2.heap.size=W.heap.size->Fm W2 D Dit V2/\W2.heap[l2]?=W.heap[l2]?:=λ{W W2 D Dit V2} hf hc hs=>by
  rw[hFm]at hf ⊢;obtain⟨f1,f2,f3,f4,f5⟩:=hf;exact⟨⟨f1,(hc.block _ (by omega) λg=>(by have:=(f3 _ g).1;omega)).trans f2,λb g=>by rw[hs];exact f3 b g,f4,by rw[hs];exact f5⟩,hc.block _ f5 λg=>(by have:=(f3 _ g).1;omega)⟩
 have chgPV:∀{W W2:World} {V2:Nat->Prop},Chg V2 W W2->Chg (PV V2) W W2:=λ{W W2 V2} hc=>⟨hc.os,hc.tape,hc.output,hc.size,λk hk hn=>hc.block k hk λg=>hn (by rw[hPV];exact .inr (.inr g))⟩
 have pvF:∀b,PV noV b->b=w.heap.size\/b=l2:=λb g=>by
  rw[hPV]at g;rcases g with g | g | g
  .exact .inl g
  .exact .inr g
  .exact g.elim
 have hlow:Below S.w0.heap.size S.w0 W1:=by
  have h1:Below S.w0.heap.size S.w0 w:=⟨hd.low.os,hd.low.tape,hd.low.output,hd.low.size,λk hk=>hd.low.block k hk (hSO k)⟩;exact⟨hb1.os.trans h1.os,hb1.tape.trans h1.tape,hb1.output.trans h1.output,wE h1.size hb1.size,λk hk=>(hb1.block k (qN hk h1.size)).trans (h1.block k hk)⟩
 have hbase:S.w0.heap.size<=w.heap.size:=hd.low.size;have hJ1:J 0 W1 D (PV noV):=by
  refine H0.j2 _ _ _ _ _ _ (H0.j1 _ _ _ _ _ hJ0 hlow (PV noV)) (λb hb=>?_) (λb hb=>.inr ⟨?_,hb⟩)
  .rcases hd.dhi b hb with g | g | g
   .exact .inl g
   .have:=hd.dlt b hb;refine .inr ⟨⟨g,by omega⟩,λg2=>?_⟩;rcases pvF b g2 with g2 | g2<;>omega
   .exact(hSO b g).elim
  .rcases pvF b hb with g | g
   .exact⟨by omega,by omega⟩
   .exact⟨by omega,by omega⟩
 have hd1:aH {S with w0:=W1,D0:=D,O:=noV} s.sig {tmps:=a.tmps,defers:=[]} W1 D E:=anew rfl rfl rfl hSs hSr hSn hSg hd (by omega) λb hb=>hb1.block b (hd.dlt b hb)
 have hcaps1:AV.relL c.P ⟨W1,D,noM,noE⟩ caps cs:=
  AV.relL_mono (C:=⟨w,D,s.sig.m,E⟩) (C':=⟨W1,D,noM,noE⟩) ⟨λb g=>g,λb g=>hb1.block b (hd.dlt b g)⟩ (λk hk=>by rw[hnm]at hk;cases hk) hcaps
 have hG1:jX c.P ⟨W1,D,noM,noE⟩ c.G:=by
  have:=jX.mono (C:=⟨w,D,s.sig.m,E⟩) (C':=⟨W1,D,noM,noE⟩) ⟨λb g=>g,λb g=>hb1.block b (hd.dlt b g)⟩ hd.gl;rw[hP,<- HO.G]at this;exact this
 refine(hKI.at hgf hki hpre l2 J2 JX2 JP2 W1 D cs (λb g=>?_) hG1 hcaps1 ?_ ?_ ?_ ?_ ?_ ?_ ?_ ?_ ?_).mono ?_
 .have:=hd.dlt b g;omega
 .subst hJ2;rintro k W W2 Dit V ⟨w0,D0,D',E',q1,q2,q3,q5⟩ hb X;have hlt:l2<W.heap.size:=(vK.1 q3).1;refine⟨w0,D0,_,E',grow q1 hb X,fmBelow q2 q1.dlt hb X,(hb.block _ hlt).trans q3,?_⟩;exact H0.j2 _ _ _ _ _ _ (H0.j1 _ _ _ _ _ q5 hb X) (λb g=>g) λb g=>pvx g
 .subst hJ2;rintro k W Dit Dit2 V V2 ⟨w0,D0,D',E',q1,q2,q3,q5⟩ hsub hsubV;exact⟨w0,D0,D',E',q1,fmSub q2 hsub hsubV,q3,H0.j2 _ _ _ _ _ _ q5 (λ_ g=>g) (incl hsubV)⟩
 .subst hJ2;rintro k W W2 Dit V ⟨w0,D0,D',E',q1,q2,q3,q5⟩ hc hsz;obtain⟨r1,r2⟩:=fmChg q2 hc hsz;have q2':=q2;rw[hFm]at q2';refine⟨W2,D',D',E',anew (S2:={S with w0:=w0,D0:=D0,O:=noV}) rfl rfl rfl hSs hSr hSn hSg q1 (by omega) λb hb=>hc.block b (q1.dlt b hb) λg=>q2'.2.2.2.1 b (by rw[hPV];exact .inr (.inr g)) hb,r1,r2.trans q3,j3 _ _ _ _ _ q5 (chgPV hc) hsz⟩
 .subst hJX2;rintro W W2 Dit V ⟨D',q1,q2,q3,q4⟩ hb X;have hlt:l2<W.heap.size:=(vK.1 q3).1;refine⟨_,λb g=>?_,fmBelow q2 q1 hb X,(hb.block _ hlt).trans q3,?_⟩
  .rcases g with g | g
   .exact qN (q1 b g) hb.size
   .exact g.1.2
  .rcases q4 with q4 | q4
   .exact .inl (H0.j2 _ _ _ _ _ _ (H0.j1 _ _ _ _ _ q4 hb X) (λb g=>g) λb g=>pvx g)
   .exact .inr (H0.x2 _ _ _ _ _ (H0.x1 _ _ _ _ q4 hb X) (λb g=>g) λb g=>pvx g)
 .subst hJX2;rintro W Dit Dit2 V V2 ⟨D',q1,q2,q3,q4⟩ hsub hsubV;exact⟨D',q1,fmSub q2 hsub hsubV,q3,q4.imp (λq=>H0.j2 _ _ _ _ _ _ q (λ_ g=>g) (incl hsubV)) λq=>H0.x2 _ _ _ _ _ q (λ_ g=>g) (incl hsubV)⟩
 .subst hJX2;rintro W W2 Dit V ⟨D',q1,q2,q3,q4⟩ hc hsz;obtain⟨r1,r2⟩:=fmChg q2 hc hsz;exact⟨D',λb g=>by rw[hsz];exact q1 b g,r1,r2.trans q3,q4.imp (λq=>j3 _ _ _ _ _ q (chgPV hc) hsz) λq=>x3 _ _ _ _ q (chgPV hc) hsz⟩
 .subst hJP2;rintro ch W W2 Dit V ⟨q1,q2,q3,D0,V0,q4,q5,q6⟩ hc hsz;refine⟨(hc.block _ q2 λg=>(by have:=q3 _ g;omega)).trans q1,by rw[hsz];exact q2,q3,D0,V0,p3 _ _ _ _ _ q4 ⟨hc.os,hc.tape,hc.output,hc.size,λk hk hn=>hc.block k hk λg=>hn (q6 k g)⟩ hsz,q5,q6⟩
 ·
  intro k y W Dit V vs hy hj hltd hu0;obtain⟨u,rfl,hu⟩:=TB hone1 hu0;rw[hJ2]at hj;obtain⟨w0,D0,D',E',q1,q2,q3,q5⟩:=hj;have q2':=q2;rw[hFm]at q2';obtain⟨f1,f2,f3,f4,f5⟩:=q2';have hpsz:ps.size=1:=by have:=yA List.length hps;simpa using this
  have hyl:=run_yield (P:=c.P) (args:=#[u]) q3 (by rw[hrec];simp[hpsz]);rw[hrec]at hyl;have htm:(ps.zip #[u]).foldl (λt (p,v)=>t.setIfInBounds p v) a.tmps=a.tmps.setIfInBounds p u:=by
   have e:ps=#[p]:=by apply yB;exact hps
   rw[e];simp
  refine⟨fn2,_,as,b,hyl,?_⟩;rw[htm];refine Hn hfn2 ?_;have hpN:p<S.N:=by rw[<- hl];exact hp
  have tms:∀t,((sH p it2.t y s).sig.T t).rel S.P ⟨W,D',s.sig.m,E'⟩ ((a.tmps.setIfInBounds p u).getD t undef):=by
   intro t;show((s.tm.set p (.dat it2.t y)).getD t .top).rel S.P _ _;by_cases e:t=p
   .subst e;have h1:(s.tm.set t (.dat it2.t y)).getD t .top=.dat it2.t y:=by
     rw[qA,qBy (by rw[hl];exact hpN)];rfl
    have h2:(a.tmps.setIfInBounds t u).getD t undef=u:=by simp[Array.getD,hsz0,hpN]
    rw[h1,h2];exact al f1 (λ_ _=>rfl) hu
   .have h1:(s.tm.set p (.dat it2.t y)).getD t .top=s.tm.getD t .top:=by
     simp only[qA];rw[qBc (λh=>e h.symm)]
    have h2:(a.tmps.setIfInBounds p u).getD t undef=a.tmps.getD t undef:=by
     simp only[qK,zB];rw[if_neg (λh=>e h.symm)]
    rw[h1,h2];exact q1.tm t
  have svs:AV.relL S.P ⟨W,D',s.sig.m,E'⟩ s.tm a.tmps.toList:=by
   refine AV.relL_mk (by rw[hl,vI,hsz0]) λi av v hi hv=>?_
   have:=q1.tm i;have e1:s.sig.T i=av:=by show s.tm.getD i .top=av;rw[qA,hi];rfl
   have e2:a.tmps.getD i undef=v:=by
    rw[qK];simp only[zX]at hv;rw[hv];rfl
   rw[e1]at this;simpa only[e2]using this
  have hent:=q1.enter l2 (tm:=(sH p it2.t y s).sig.T) (tmps:=a.tmps.setIfInBounds p u) (by simpa using hsz0) tms svs;obtain⟨Sr,hSr'⟩:∃Sr:Base,Sr={P:=S.P,w0:=W,D0:=D',N:=S.N,O:=aG s.sig.m E',G:=S.G,sv:=a.tmps.toList,rd:=some l2,nod:=true}:=⟨_,rfl⟩;have hent:aH Sr (sH p it2.t y s).sig {tmps:=a.tmps.setIfInBounds p u,defers:=[]} W D' E':=by rw[hSr'];exact hent
  have hSrO:∀b,¬Sr.O b:=λb g=>by rw[hSr']at g;exact noAll _ _ g
  have hNpos:S.N<=a.tmps.toList.length:=by rw[vI,hsz0];omega
  have HOr:OkS c Sr:=by
   subst hSr';exact⟨HO.P,HO.G,HO.K,HO.I,HO.m,λ_=>hNpos,λh=>(by cases h),HO.KP⟩
  have hlr:(sH p it2.t y s).tm.length=Sr.N:=by
   subst hSr';show(s.tm.set p (.dat it2.t y)).length=S.N;rw[yD];exact hl
  have hrr:Sr.rd=some l2:=by rw[hSr']
  have hPr:Sr.P=c.P:=by rw[hSr'];exact hP
  rw[<- hrr,<- hPr];refine kq as Sr _ _ _ HOr (hround k y hy) hlr (λe s1 hq hl1 a1 w1 hs1=>?_) _ W ⟨D',E',hent⟩;cases e<;>first
   | exact hq.elim
   | skip
  obtain⟨hm1,hq⟩:=hq;have hm1:s1.mem=[]:=wO.1 hm1;obtain⟨D3,E3,h3⟩:=hs1;have noAll1:∀b,¬aG s1.sig.m E3 b:=λb g=>by
   have em1:s1.sig.m=λ_=>none:=by
    funext k
    show s1.mem.lookup k=none;rw[hm1];rfl
   rw[em1]at g;rcases g with⟨_,_,g,_⟩ | ⟨nm,i,g⟩
   .cases g
   .exact jY g
  have same1:∀b,b<W.heap.size->w1.heap[b]?=W.heap[b]?:=λb hb=>by
   have:=h3.low.block b (by rw[hSr'];exact hb) (hSrO b);rw[this,hSr']
  have szW1:W.heap.size<=w1.heap.size:=by have:=h3.low.size;rw[hSr']at this;exact this
  have bel1:Below W.heap.size W w1:=⟨by have:=h3.low.os;rw[hSr']at this;exact this,by have:=h3.low.tape;rw[hSr']at this;exact this,by have:=h3.low.output;rw[hSr']at this;exact this,szW1,same1⟩;have hdhi:∀b,D3 b->D' b\/W.heap.size<=b:=λb hb=>by
   have:=h3.dhi b hb;rw[hSr']at this;rcases this with g | g | g
   .exact .inl g
   .exact .inr g
   .exact(noAll _ _ g).elim
  have hl3:w1.heap[l2]?=some (.loop (rec .ready none)):=(same1 _ f5).trans q3;have hlt3:l2<w1.heap.size:=qN f5 szW1;have hdef3:a1.defers=[]:=(h3.df.1.1 (by rw[hSr'])).trans (by rw[hSr']);have hbr:=run_beginRound (P:=c.P) hl3 (by rw[hrec]);rw[hPr];refine⟨_,hbr,?_⟩;have pvLt:∀b,PV V b->b<W.heap.size:=λb g=>by
   rw[hPV]at g;rcases g with g | g | g
   .omega
   .omega
   .exact(f3 b g).2
  have pvl2:PV V l2:=by rw[hPV];exact .inr (.inl rfl)
  have pvmk:PV V w.heap.size:=by rw[hPV];exact .inl rfl
  have nl3:¬D3 l2:=λg=>by
   rcases hdhi _ g with g | g
   .exact f4 _ pvl2 g
   .omega
  have h4:=h3.again (.loop {rec .ready none with state:=.busy}) (by rw[hSr']) hdef3 nl3 (noAll1 _);obtain⟨Wb,hWb⟩:∃Wb,Wb=w1.putObj l2 (.loop {rec .ready none with state:=.busy}):=⟨_,rfl⟩;obtain⟨Sq,hSq⟩:∃Sq:Base,Sq={Sr with w0:=Wb,D0:=D3,O:=aG s1.sig.m E3}:=⟨_,rfl⟩;rw[show({rec .ready none with state:=.busy}:Loop)={rec .ready none with state:=.busy} from rfl,<- hWb]at h4;rw[<- hSq]at h4;rw[<- hWb]
  have szb:Wb.heap.size=w1.heap.size:=by rw[hWb];simp
  obtain⟨fr,hfr⟩:∃fr:FrY,fr={ro:=some l2,sv:=a.tmps.toList,V:=PV V,Dv:=D',W:=Wb}:=⟨_,rfl⟩;have HF:=H S.N fr (λ_=>by rw[hfr];exact hNpos);have hOkq:OkY c S.N fr Sq:=by
   refine⟨by rw[hSq,hSr'];exact hP,by rw[hSq,hSr'];exact HO.G.symm,by rw[hSq,hSr'],λb g=>by rw[hSq]at g;exact noAll1 _ g,by rw[hSq,hSr',hfr],by rw[hSq,hSr',hfr],by rw[hSq,hSr'],by rw[hSq,hSr'],?_,λb hb=>?_,λb hb=>?_,λb hb g=>?_⟩
   .rw[hfr,hSq];exact⟨qJ _,λ_ _=>rfl⟩
   .rw[hfr]at hb;rw[hSq];show b<Wb.heap.size;rw[szb];rcases hb with g | g
    .exact qN (q1.dlt b g) szW1
    .exact qN (pvLt b g) szW1
   .rw[hfr]at hb;rw[hSq];exact h3.dlo b (by rw[hSr'];exact hb)
   .rw[hfr]at hb;rw[hSq]at g;rcases hdhi b g with g | g
    .exact f4 b hb g
    .have:=pvLt b hb;omega
  have hgq:GL fr J JX ⟨s1,A.kf k,true⟩ Sq.w0 Sq.D0:=by
   refine⟨λ_=>?_,λe=>by cases e⟩;rw[hfr,hSq];obtain⟨c1,c2⟩:=Chg.put (V:=PV V) (w:=w1) (o:=.loop {rec .ready none with state:=.busy}) pvl2;rw[<- hWb]at c1 c2;refine j3 _ _ _ _ _ (H0.j2 _ _ _ _ _ _ (H0.j1 _ _ _ _ _ q5 bel1 noV) (λb hb=>?_) λb hb=>.inl hb) c1 c2;rcases hdhi b hb with g | g
   .exact .inl g
   .exact .inr ⟨⟨g,h3.dlt b hb⟩,id⟩
  have notl:∀b,D' b->b≠l2:=λb hb e=>f4 l2 pvl2 (by rw[<- e];exact hb)
  have keptW:∀{w2:World},Kept fr w2->(W.heap.size<=w2.heap.size)/\(∀b,Dit b\/V b->w2.heap[b]?=W.heap[b]?)/\w2.heap[l2]?=some (.loop {rec .ready none with state:=.busy})/\w2.heap[w.heap.size]?=some (.deferred (some []))/\l2<w2.heap.size/\∀b,D' b->w2.heap[b]?=W.heap[b]?:=by
   intro w2 hk;rw[hfr]at hk;obtain⟨k1,k2⟩:=hk;have k1:Wb.heap.size<=w2.heap.size:=k1;have k2:∀b,D' b\/PV V b->w2.heap[b]?=Wb.heap[b]?:=k2;have wb:∀b,b≠l2->b<W.heap.size->Wb.heap[b]?=W.heap[b]?:=λb h1 h2=>by
    rw[hWb,World.putObj_heap_other h1];exact same1 b h2
   have hD:∀b,D' b->w2.heap[b]?=W.heap[b]?:=λb hb=>(k2 b (.inl hb)).trans (wb b (notl b hb) (q1.dlt b hb))
   refine⟨by omega,λb hb=>?_,?_,?_,by omega,hD⟩
   .rcases hb with hb | hb
    .exact hD b (f1 b hb)
    .exact(k2 b (.inr (by rw[hPV];exact .inr (.inr hb)))).trans (wb b (λe=>by have:=(f3 b hb).1;omega) (f3 b hb).2)
   .rw[k2 l2 (.inr pvl2),hWb];exact World.putObj_heap_same hlt3
   .exact((k2 _ (.inr pvmk)).trans (wb _ (by omega) (by omega))).trans f2
  have fin:∀{w2:World} (jump:Option Code),Kept fr w2->(Instr.endRound l2 jump).run c.P w2=.ok (.bool jump.isNone) (w2.putObj l2 (.loop (rec (if jump.isNone then .ready else .done) jump))):=λ{w2} jump hk=>by
   have:=run_endRound (P:=c.P) jump (keptW hk).2.2.1;rw[hrec]at this ⊢;exact this
  have after:∀{w2:World} (o:Obj),Kept fr w2->W.heap.size<=(w2.putObj l2 o).heap.size/\(∀b,Dit b\/V b->(w2.putObj l2 o).heap[b]?=W.heap[b]?)/\Fm (w2.putObj l2 o) D' Dit V/\(w2.putObj l2 o).heap[l2]?=some o/\∀b,D' b->(w2.putObj l2 o).heap[b]?=W.heap[b]?:=λ{w2} o hk=>by
   obtain⟨k1,k2,k3,k4,k5,k6⟩:=keptW hk;have hD:∀b,D' b->(w2.putObj l2 o).heap[b]?=W.heap[b]?:=λb hb=>by rw[World.putObj_heap_other (notl b hb)];exact k6 b hb
   refine⟨by simpa using k1,λb hb=>?_,?_,World.putObj_heap_same k5,hD⟩
   .rcases hb with g | g
    .exact hD b (f1 b g)
    .rw[World.putObj_heap_other (λe=>by have:=(f3 b g).1;omega)];exact k2 b (.inr g)
   .rw[hFm];exact⟨f1,by rw[World.putObj_heap_other (by omega)];exact k4,λb g=>⟨(f3 b g).1,by have:=(f3 b g).2;simp;omega⟩,f4,by simpa using k5⟩
  have hsimq:Sim Sq s1.sig a1 Wb:=⟨D3,E3,h4⟩;have hlq:s1.tm.length=S.N:=by rw[hl1,hSr']
  have hbody:=VX (N:=S.N) HF b ⟨s1,A.kf k,true⟩ _ (VC c.P l2 λe W'=>W.heap.size<=W'.heap.size/\(∀b,Dit b\/V b->W'.heap[b]?=W.heap[b]?)/\((e=.returned (.bool true)/\J2 (k+1) W' Dit V)\/(e=.returned (.bool false)/\JX2 W' Dit V)\/∃ch,e=.panicked ch/\JP2 ch W' Dit V)) hq hlq (λe y2 hq2 hl2' a2 w2 hs2=>?_) (λch a2 w2 D2 hdf hj hk=>?_) a1 Wb ⟨Sq,hOkq,hgq,hsimq⟩
  .have e1:fr.ro=some l2:=by rw[hfr]
   rw[e1]at hbody;exact PI (F:=Fr (some l2)) (by rw[hrr];exact Vi _) (ZL _) (Ix _) hbody
  .obtain⟨S5,ho5,hg5,D5,E5,h5⟩:=hs2;have hnow:=hg5.now ho5 HF h5;obtain⟨o1,o2,o3,o4⟩:=ho5.now h5;have hk:Kept fr w2:=⟨o4,λb hb=>(o1 b hb).2⟩;have sub5:∀b,D' b->D5 b:=λb hb=>o2 b (by rw[hfr];exact hb)
   have eV:fr.V=PV V:=by rw[hfr]
   cases e with
   | normal=>
    obtain⟨n1,n2⟩:=hq2;obtain⟨r1,r2,r3,r4,r5⟩:=after (.loop (rec .ready none)) hk;have hJ:=hnow.1 n1;rw[n2,eV]at hJ;obtain⟨c1,c2⟩:=Chg.put (V:=PV V) (w:=w2) (o:=.loop (rec .ready none)) pvl2;refine⟨_,_,fin none hk,r1,r2,.inl ⟨rfl,?_⟩⟩;rw[hJ2]
    exact⟨_,D',D',E',anew (S2:={S with w0:=w0,D0:=D0,O:=noV}) rfl rfl rfl hSs hSr hSn hSg q1 r1 r5,r3,r4,j3 _ _ _ _ _ (H0.j2 _ _ _ _ _ _ hJ sub5 λ_ g=>g) c1 c2⟩
   | ret=>
    obtain⟨r1,r2,r3,r4,r5⟩:=after (.loop (rec .done (some .ret))) hk;obtain⟨c1,c2⟩:=Chg.put (V:=PV V) (w:=w2) (o:=.loop (rec .done (some .ret))) pvl2;refine⟨_,_,fin (some .ret) hk,r1,r2,.inr (.inl ⟨rfl,?_⟩)⟩;rw[hJX2];refine⟨D',λb hb=>qN (q1.dlt b hb) r1,r3,r4,?_⟩;cases hon:y2.on with
    | true=>
     have hJ:=hnow.1 hon;rw[hq2 hon,eV]at hJ;exact .inl (j3 _ _ _ _ _ (H0.j2 _ _ _ _ _ _ hJ sub5 λ_ g=>g) c1 c2)
    | false=>
     have hJ:=hnow.2 hon;rw[eV]at hJ;exact .inr (x3 _ _ _ _ (H0.x2 _ _ _ _ _ hJ sub5 λ_ g=>g) c1 c2)
   | exit i=>exact hq2.elim
   | goto t=>exact hq2.elim
   | panic ch=>exact hq2.elim
   | outgrown=>exact hq2.elim
  .obtain⟨k1,k2,k3,k4,k5,k6⟩:=keptW hk;refine⟨hdf,k1,k2,.inr (.inr ⟨ch,rfl,?_⟩)⟩;rw[hJP2];have eV:fr.V=PV V:=by rw[hfr]
   rw[eV]at hj;exact⟨k4,by omega,λb g=>(f3 b g).1,D2,PV V,hj,pvmk,λb g=>by rw[hPV];exact .inr (.inr g)⟩
 .rw[hJ2];refine⟨_,_,D,E,hd1,?_,hL1,by rw[hk0];exact hJ1⟩;rw[hFm];refine⟨λ_ g=>g,hK1,λ_ g=>g.elim,λb g hb=>?_,by omega⟩;have:=hd.dlt b hb;rcases pvF b g with g | g<;>omega
 ·
  have runs:∀w3:World,(results fn a.tmps).run c.P w3=.ok (.tuple #[]) w3:=λw3=>by simp[results,hres]
  have marks:∀{w3:World} {m:FrameMode} {POST:Ending->World->Prop},w3.heap[w.heap.size]?=some (.deferred (some []))->m≠.run->LeavesInM Fence.wide 0 c.P fn a.tmps POST [] m (w3.putObj w.heap.size (.deferred none))->LeavesInM Fence.wide 0 c.P fn a.tmps POST ([{target:=.collected w.heap.size,args:=#[]}]++a.defers) m w3:=λ{w3 m POST} h1 hm h2=>by
   rw[hdef];exact⟨hm,.inl ⟨w.heap.size,_,rfl,run_takeDeferred h1,h2⟩⟩
  have pvm:PV noV w.heap.size:=by rw[hPV];exact .inl rfl
  have pvl:PV noV l2:=by rw[hPV];exact .inr (.inl rfl)
  rintro e W2 (⟨⟨v,rfl⟩,hj⟩ | ⟨ch,rfl,D2,V2,hj⟩)
  case inr=>
   rw[hJP2]at hj;obtain⟨q1,q2,q3,D0,V0,q4,q5,q6⟩:=hj;obtain⟨c1,c2⟩:=Chg.put (V:=V0) (w:=W2) (o:=.deferred none) q5;exact marks q1 (by simp) (.inr ⟨ch,rfl,D0,V0,p3 _ _ _ _ _ q4 c1 c2⟩)
  rcases hj with⟨D2,hj⟩ | ⟨D2,hj⟩
  .rw[hJ2]at hj;obtain⟨w0,D0,D',E',q1,q2,q3,q5⟩:=hj;rw[hFm]at q2;have hel:=run_endLoop (P:=c.P) q3 (by rw[hrec];simp);refine⟨none,_,(by rw[hrec]at hel;exact hel),?_⟩;refine marks (by rw[World.putObj_heap_other (by omega)];exact q2.2.1) (by simp) ⟨_,runs _,.inl ⟨⟨_,rfl⟩,.inl ⟨D',?_⟩⟩⟩;rw[hkn]at q5
   exact H0.j2 _ _ _ _ _ _ (j3 _ _ _ _ _ (j3 _ _ _ _ _ q5 (Chg.put pvl).1 (Chg.put pvl).2) (Chg.put pvm).1 (Chg.put pvm).2) (λ_ g=>g) λ_ g=>g.elim
  .rw[hJX2]at hj;obtain⟨D',q1,q2,q3,q5⟩:=hj;rw[hFm]at q2;have hel:=run_endLoop (P:=c.P) q3 (by rw[hrec];simp);refine⟨some .ret,_,(by rw[hrec]at hel;exact hel),?_⟩;refine PI (F:=Fence.wide) (n:=0) rfl (λ_=>trivial) rfl (wpIn_ret ?_);refine marks (by rw[World.putObj_heap_other (by omega)];exact q2.2.1) (by simp) ⟨_,runs _,.inl ⟨⟨_,rfl⟩,?_⟩⟩;rcases q5 with q5 | q5
   .exact .inl ⟨D',H0.j2 _ _ _ _ _ _ (j3 _ _ _ _ _ (j3 _ _ _ _ _ q5 (Chg.put pvl).1 (Chg.put pvl).2) (Chg.put pvm).1 (Chg.put pvm).2) (λ_ g=>g) λ_ g=>g.elim⟩
   .exact .inr ⟨D',H0.x2 _ _ _ _ _ (x3 _ _ _ _ (x3 _ _ _ _ q5 (Chg.put pvl).1 (Chg.put pvl).2) (Chg.put pvm).1 (Chg.put pvm).2) (λ_ g=>g) λ_ g=>g.elim⟩
theorem OR{c:Cfg}{it:jr}{l:Nat}{A:ZM}{J:Nat->World->(Nat->Prop)->(Nat->Prop)->Prop}{JX:World->(Nat->Prop)->(Nat->Prop)->Prop}{JP:List PanicEntry->World->(Nat->Prop)->(Nat->Prop)->Prop}
  (H:∀(N:Nat) (fr:FrY),(fr.ro≠none->N<=fr.sv.length)->Qo c it l N fr J JX JP) (hKI:bv c.P c.G c.KI)
  (j3:∀k w1 w2 D1 V,J k w1 D1 V->Chg V w1 w2->w2.heap.size=w1.heap.size->J k w2 D1 V) (x3:∀w1 w2 D1 V,JX w1 D1 V->Chg V w1 w2->w2.heap.size=w1.heap.size->JX w2 D1 V)
  (p3:∀ch w1 w2 D1 V,JP ch w1 D1 V->Chg V w1 w2->w2.heap.size=w1.heap.size->JP ch w2 D1 V)
  {fn:Func} (hres:fn.results=#[]) {S:Base} (HO:OkS c S) (hSO:∀b,¬S.O b) (hSs:S.sv=[]) (hSr:S.rd=none) (hSg:S.gd=[]) (hSn:S.nod=true) (hJ0:J 0 S.w0 S.D0 noV):
  ∀(x:Code) (s:St),evN c it l A x s->s.tm.length=S.N->∀a w,Sim S s.sig a w->
  At c.P none x (bodyPostM Fence.wide 0 c.P fn λe W'=>((∃v,e=.returned v)/\((∃D2,J it.L.length W' D2 noV)\/∃D2,JX W' D2 noV))\/∃ch,e=.panicked ch/\∃D2 V2,JP ch W' D2 V2) a w
 | .seq x y,s,h,hl,a,w,hs=>by
  unfold evN at h;have hx:=kq (A:=A.A) x S s _ (Exit.then (At c.P none y (bodyPostM Fence.wide 0 c.P fn λe W'=>((∃v,e=.returned v)/\((∃D2,J it.L.length W' D2 noV)\/∃D2,JX W' D2 noV))\/∃ch,e=.panicked ch/\∃D2 V2,JP ch W' D2 V2))
   (bodyPostM Fence.wide 0 c.P fn λe W'=>((∃v,e=.returned v)/\((∃D2,J it.L.length W' D2 noV)\/∃D2,JX W' D2 noV))\/∃ch,e=.panicked ch/\∃D2 V2,JP ch W' D2 V2)) HO h hl (λe s' hq hl' a' w' hs'=>by
    cases e<;>first
     | exact OR H hKI j3 x3 p3 hres HO hSO hSs hSr hSg hSn hJ0 y s' hq hl' a' w' hs'
     | exact hq.elim) a w hs
  rw[HO.P.symm,hSr]at hx;exact uA hx
 | .rangeFunc g ps as b,s,h,hl,a,w,hs=>by
  unfold evN at h;split at h
  case h_2=>exact h.elim
  rename_i s1 _;split at h
  case h_2=>exact h.elim
  rename_i ms hms;obtain⟨g1,g2⟩:=bL h;obtain⟨D,E,hd⟩:=Ha hs hms g1;exact YB H hKI j3 x3 p3 hres HO hSO hSs hSr hSg hSn g2 ((mD hms).symm.trans hl) hd hJ0
 | .skip,_,h,_,_,_,_=>by unfold evN at h;exact h.elim
 | .region _ _ _,_,h,_,_,_,_=>by unfold evN at h;exact h.elim
 | .cond _ _ _,_,h,_,_,_,_=>by unfold evN at h;exact h.elim
 | .block id x,s,h,hl,a,w,hs=>by
  unfold evN at h;refine Iq λb k cs hb hf=>?_
  obtain⟨e,a1,w1,hq,r⟩:=OR H hKI j3 x3 p3 hres HO hSO hSs hSr hSg hSn hJ0 x s h hl a w hs b k cs hb hf;refine⟨e,a1,w1,?_,r⟩;cases e<;>first
   | exact hq
   | exact hq.elim
 | .exit _,_,h,_,_,_,_=>by unfold evN at h;exact h.elim
 | .ret,_,h,_,_,_,_=>by unfold evN at h;exact h.elim
 | .loop _,_,h,_,_,_,_=>by unfold evN at h;exact h.elim
 | .scope _,_,h,_,_,_,_=>by unfold evN at h;exact h.elim
 | .label _,_,h,_,_,_,_=>by unfold evN at h;exact h.elim
 | .goto _,_,h,_,_,_,_=>by unfold evN at h;exact h.elim
 | .refuse _,_,h,_,_,_,_=>by unfold evN at h;exact h.elim
theorem FG{c:Cfg}{A:ZM}{f:FuncId}{caps:List AV}{it:jr}(hK:ak c.P c.G c.K)(hI:bv c.P c.G c.KI)(hm:c.P.follows .mixedOrders=true)(h:aEL c A f caps it)(hKP:c.KP=λ_ _ _=>none:=by rfl): mR c.P c.G f caps it:=by
 intro hpre l J JX JP w D us hD hG hcaps j1 j2 j3 x1 x2 x3 p3 hyld h0;unfold aEL at h;split at h
 case h_2=>exact h.elim
 rename_i fn hf;split at h
 case h_2=>exact h.elim
 rename_i b hb;obtain⟨hres,hnm,hone,hrng,h⟩:=h;have h:=h l hpre;have hKP':bO c.P c.G c.KP:=λf args m r h=>by rw[hKP]at h;cases h
 have H:∀(N:Nat) (fr:FrY),(fr.ro≠none->N<=fr.sv.length)->Qo c it l N fr J JX JP:=λN fr hrs=>⟨hK,hI,hKP',hm,λ_=>hrng,hrs,j1,j2,x1,x2,hyld⟩
 have hlen:caps.length=us.length:=AV.relL_length hcaps;have hargs:AV.relL c.P ⟨w,D,noM,noE⟩ (.yld l::caps) (.func (.yield l) #[] #[]::us):=⟨_,_,rfl,rfl,hcaps⟩;have earr:#[Value.func (.yield l) #[] #[]]++us.toArray=(Value.func (.yield l) #[] #[]::us).toArray:=by simp
 rw[earr];obtain⟨S,hS⟩:∃S:Base,S={P:=c.P,w0:=w,D0:=D,N:=(caps.length+1)+(fn.ntmps-(caps.length+1)),O:=λ_=>False,G:=c.G,sv:=[],rd:=none,nod:=true}:=⟨_,rfl⟩;have hstart:aH S (qf fn l caps).s.sig {tmps:=(Value.func (.yield l) #[] #[]::us).toArray++Array.replicate (fn.ntmps-(Value.func (.yield l) #[] #[]::us).toArray.size) undef,defers:=[]} w D noE:=by
  rw[hS];refine⟨?_,⟨⟨λ_=>rfl,⟨[],rfl⟩,yL⟩,λd hd=>(by cases hd)⟩,λt=>?_,λnm b hm=>(by cases hm),λnm b hm=>(by cases hm),λnm nm' b b' hm=>(by cases hm),Chg.refl _ _,hD,λb hb=>hb,λb hb=>.inl hb,
   hG,rfl,fb.nil λk i b g=>(by obtain⟨_,_,_,_,_,_,g1,_⟩:=g;cases g1)⟩
  .simp[hlen]
  .show(((.yld l::caps)++List.replicate (fn.ntmps-(caps.length+1)) (AV.val undef)).getD t .top).rel c.P ⟨w,D,noM,noE⟩ _;rw[qA,qK];by_cases ht:t<(AV.yld l::caps).length
   .rw[vJ ht,xY (by simpa[hlen]using ht)];obtain⟨u,g1,g2⟩:=AV.relL_get hargs (qB ht);rw[qB ht];simp only[kG,g1,qQ];exact g2
   .rw[qW (by omega),xR (by simp[<- hlen]at ht ⊢;omega)];rw[wQ,yF];split
    .rename_i h1;rw[if_pos (by simp[<- hlen]at h1 ⊢;omega)];rfl
    .trivial
 have HO:OkS c S:=by
  rw[hS];exact⟨rfl,rfl,hK,hI,hm,λe=>(e rfl).elim,λ_=>by rw[hrng];rfl,hKP'⟩
 have hr:fn.results=#[]:=by
  apply yB;exact wO.1 hres
 exact rR hf hb (OR H hI j3 x3 p3 hr HO (λb g=>by rw[hS]at g;exact g) (by rw[hS]) (by rw[hS]) (by rw[hS]) (by rw[hS]) (by rw[hS];exact h0) b (qf fn l caps).s h (by rw[hS];simp[qf];omega) _ w ⟨D,noE,hstart⟩)
end Go.Eng
namespace Go.Eng
open Go.RowKit
def aCM(u:Nat->Value)(n:Nat): Lv:=(List.range n).map u
def vB: Lv->List AV->List AV
 | u::us,a::as=>.pin u a::vB us as
 | _,_=>[]
def qp: Lv->List AV->Option (List Prop)
 | [],_=>some []
 | u::us,.pin u' _::as=>match qp us as with
  | some q=>some ((u'=u)::q)
  | none=>none
 | _,_=>none
def lk: AV->AV
 | .yld l=>.yld l
 | a=>I9 a
def anew(us:Lv)(caps:List AV)(s:St): St:={s with tm:=(s.tm.take 1).map lk++vB us caps++(s.tm.drop (caps.length+1)).map lk}
def bare(s:St): St:={s with tm:=s.tm.map lk}
def Vx(c:Cfg)(it:jr)(l:Nat)(us:Lv)(caps:List AV)(ops:Array Oper): List Oper->Y->(Y->Prop)->Prop
 | [],y,Q=>Q y
 | o::os,y,Q=>match KG y.s.sig.T ops o.guard with
  | some g=>match yieldOf c.G y.s.sig.T g o.op with
   | some (l',ns,v)=>if nC o.dst y.s.tm.length=true/\(y.s.mem.isEmpty&&y.s.sv.isEmpty)=true/\caps.length<y.s.tm.length then match asY it.t v,qp us (y.s.tm.drop 1)with
    | some x,some ps=>UJ g (all (ns++ps) (l'=l/\y.on=true/\lu it.L y.k x/\Vx c it l us caps ops os ⟨setSlot o.dst (.dat .bool true) (anew us caps y.s),y.k+1,true⟩ Q/\Vx c it l us caps ops os ⟨setSlot o.dst (.dat .bool false) (bare y.s),y.k+1,false⟩ Q))
      (Vx c it l us caps ops os ⟨setSlot o.dst (.grd g (.dat .bool false)) y.s,y.k,y.on⟩ Q)
    | _,_=>False
    else False
   | none=>match gn c.P c.G c.K (c.mt o) ops y.s.nx y.s.sig o with
    | some r=>if fX r y.s.tm.length=true/\BD r y.s=true then all r.need (Vx c it l us caps ops os ⟨cH r y.s,y.k,y.on⟩ Q)else False
    | none=>False
  | none=>False
def rgL(c:Cfg)(it:jr)(l:Nat)(us:Lv)(caps:List AV)(ops:Array Oper)(draw:Bool)(y:Y)(Q:Y->Prop): Prop:=if draw=true then False else Vx c it l us caps ops ops.toList y Q
def AB(fn:Func)(l:Nat)(us:Lv)(caps:List AV): Y:=⟨⟨(.yld l::vB us caps)++List.replicate (fn.ntmps-(caps.length+1)) (.val undef),[],0,[]⟩,0,true⟩
def evL(c:Cfg)(A:GQ)(f:FuncId)(caps:List AV)(it:jr): Prop:=match c.P.funcs[f]? with
 | some fn=>match fn.body with
  | some b=>fn.results.toList.isEmpty=true/\zc it.t=true/\c.rng=false/\∀(l:Nat) (u:Nat->Value),it.pre->evZ c (rgL c it l (aCM u caps.length) caps) A b (AB fn l (aCM u caps.length) caps) (aC0 it)
  | none=>False
 | none=>False
theorem tO{P:Program}{C C':Ctx}{a:AV}{v:Value}(h:a.rel P C v): (lk a).rel P C' v:=by
 unfold lk;split
 .exact h
 .exact sw h
theorem iG: ∀{us:Lv} {as:List AV},us.length=as.length->(vB us as).length=as.length
 | [],[],_=>rfl
 | _::us,_::as,h=>by simp[vB,iG (us:=us) (as:=as) (by simpa using h)]
theorem EJ: ∀{us:Lv} {as:List AV} {i:Nat} {x:AV},(vB us as)[i]?=some x->∃u a,us[i]?=some u/\as[i]?=some a/\x=.pin u a
 | [],_,_,_,h=>by simp[vB]at h
 | _::_,[],_,_,h=>by simp[vB]at h
 | u::us,a::as,0,x,h=>by simp[vB]at h;exact⟨u,a,rfl,rfl,h.symm⟩
 | u::us,a::as,i+1,x,h=>by simp only[vB,List.getElem?_cons_succ]at h ⊢;exact EJ h
theorem Bh: ∀{us:Lv} {as:List AV} {q:List Prop},qp us as=some q->(∀p∈q,p)->∀{i:Nat} {u:Value},us[i]?=some u->∃a,as[i]?=some (.pin u a)
 | [],_,_,_,_,i,u,h=>by simp at h
 | u'::us,[],q,h,_,_,_,_=>by simp[qp]at h
 | u'::us,x::as,q,h,hq,i,u,hi=>by
  cases x<;>first
   | (simp[qp]at h;done)
   | skip
  rename_i u2 a2;simp only[qp]at h;split at h
  .rename_i q' hq';cases h;have e:u2=u':=hq _ (wL ..);cases i with
   | zero=>simp at hi;subst hi e;exact⟨a2,rfl⟩
   | succ i=>simpa using Bh hq' (λp hp=>hq p (zA _ hp)) (by simpa using hi)
  .cases h
theorem Uw{t:Ty}(h:zc t=true){w:World}{D:Nat->Prop}{x:t.den}{us:Lv}(hr:ah w D t x us): ah w noV t x us:=by
 cases t<;>first | exact hr | cases h
section
variable {c:Cfg} {it:jr} {l N:Nat} {us:Lv} {caps:List AV} {J:Nat->World->Prop} {JX:World->Prop} {JP:List PanicEntry->World->Prop}
structure Z7 (c:Cfg) (it:jr) (l:Nat) (us:Lv) (caps:List AV) (J:Nat->World->Prop) (JX:World->Prop) (JP:List PanicEntry->World->Prop):Prop where
 K:ak c.P c.G c.K
 I:bv c.P c.G c.KI
 KP:bO c.P c.G c.KP
 m:c.P.follows .mixedOrders=true
 rng:c.rng=false
 flat:zc it.t=true
 len:us.length=caps.length
 jc:∀k w1,J k w1->∃D:Nat->Prop,(∀b,D b->b<w1.heap.size)/\jX c.P ⟨w1,D,noM,noE⟩ c.G/\AV.relL c.P ⟨w1,D,noM,noE⟩ caps us
 xc:∀w1,JX w1->∃D:Nat->Prop,(∀b,D b->b<w1.heap.size)/\jX c.P ⟨w1,D,noM,noE⟩ c.G
 j1:∀k w1 w2,J k w1->Below w1.heap.size w1 w2->J k w2
 x1:∀w1 w2,JX w1->Below w1.heap.size w1 w2->JX w2
 yld:∀k y W u,it.L[k]?=some y->J k W->ah W noV it.t y [u]->YieldAt Fence.wide 0 c.P l #[u] W λe W' =>
   W.heap.size<=W'.heap.size/\((e=.returned (.bool true)/\J (k+1) W')\/(e=.returned (.bool false)/\JX W')\/∃ch,e=.panicked ch/\JP ch W')
def pg(c:Cfg)(N:Nat)(w:World)(D:Nat->Prop): Base:={P:=c.P,w0:=w,D0:=D,N:=N,O:=λ_=>False,G:=c.G,sv:=[],rd:=none,nod:=true}
def Da(J:Nat->World->Prop)(JX:World->Prop)(y:Y)(w:World): Prop:=(y.on=true->J y.k w)/\(y.on=false->JX w)
def aC7(c:Cfg)(N:Nat)(J:Nat->World->Prop)(JX:World->Prop)(y:Y)(a:Act)(w:World): Prop:=∃w0 D0,Da J JX y w0/\Sim (pg c N w0 D0) y.s.sig a w
theorem Z7.okS (H:Z7 c it l us caps J JX JP) (w:World) (D:Nat->Prop):OkS c (pg c N w D):=
 ⟨rfl,rfl,H.K,H.I,H.m,λe=>(e rfl).elim,λ_=>by rw[H.rng];rfl,H.KP⟩
theorem V9{w0:World}{D0:Nat->Prop}{σ:Sig}{a:Act}{w:World}{D:Nat->Prop}{E:Nat->Ent}(h:aH (pg c N w0 D0) σ a w D E): Below w0.heap.size w0 w:=
 ⟨h.low.os,h.low.tape,h.low.output,h.low.size,λk hk=>h.low.block k hk id⟩
theorem Da.now (H:Z7 c it l us caps J JX JP) {y:Y} {w0 w:World} (hg:Da J JX y w0) (hb:Below w0.heap.size w0 w):Da J JX y w:=
 ⟨λe=>H.j1 _ _ _ (hg.1 e) hb,λe=>H.x1 _ _ (hg.2 e) hb⟩
theorem MU{tm:List AV}{a:Act}{w:World}{D:Nat->Prop}(hsz:a.tmps.size=N)(hd:a.defers=[])(hD:∀b,D b->b<w.heap.size)(hG:jX c.P ⟨w,D,noM,noE⟩ c.G)
  (ht:∀t,(tm.getD t .top).rel c.P ⟨w,D,noM,noE⟩ (a.tmps.getD t undef)) (nx:Nat):aH (pg c N w D) (St.sig ⟨tm,[],nx,[]⟩) a w D noE:=
 ⟨hsz,⟨⟨λ_=>hd,⟨[],hd⟩,by rw[hd];exact yL⟩,λd h=>by rw[hd]at h;cases h⟩,ht,λnm b hm=>(by cases hm),λnm b hm=>(by cases hm),λnm nm' b b' hm=>(by cases hm),Chg.refl _ _,hD,λb hb=>hb,λb hb=>.inl hb,
  hG,rfl,fb.nil λk i b g=>(by obtain⟨_,_,_,_,_,_,g1,_⟩:=g;cases g1)⟩
theorem getD_map{f:AV->AV}(hf:f .top=.top)(l:List AV)(t:Nat): (l.map f).getD t .top=f (l.getD t .top):=by
 simp only[qA,qP];cases l[t]?<;>simp[hf]
theorem Vb{P:Program}{C C':Ctx}{s:St}{tmps:Array Value}{q:List Prop}(hl:us.length=caps.length)(hlt:caps.length<s.tm.length)(h:∀t,(s.tm.getD t .top).rel P C (tmps.getD t undef))
  (hp:qp us (s.tm.drop 1)=some q) (hq:∀p∈q,p) (hc:AV.relL P C' caps us) (t:Nat):((anew us caps s).tm.getD t .top).rel P C' (tmps.getD t undef):=by
 have k0:lk .top=.top:=rfl;have l1:((s.tm.take 1).map lk).length=1:=by rw[vW,qI];omega
 have l2:(vB us caps).length=caps.length:=iG hl;show(((s.tm.take 1).map lk++vB us caps++(s.tm.drop (caps.length+1)).map lk).getD t .top).rel P C' _;rcases zC t 1 with g | g
 .have e:((s.tm.take 1).map lk++vB us caps++(s.tm.drop (caps.length+1)).map lk).getD t .top=lk (s.tm.getD t .top):=by
   rw[qA,wG,vJ (by omega),<- qA,getD_map k0]
   congr 1
   rw[qA,qA,vM,if_pos g]
  rw[e];exact tO (h t)
 rcases zC t (caps.length+1)with g2 | g2
 .have hi:t-1<(vB us caps).length:=by omega
  obtain⟨u,av,h1,h2,h3⟩:=EJ (qB hi);have e:((s.tm.take 1).map lk++vB us caps++(s.tm.drop (caps.length+1)).map lk).getD t .top=.pin u av:=by
   rw[qA,wG,qW (by omega),l1,vJ hi,qB hi,h3];rfl
  rw[e];obtain⟨ov,h4⟩:=Bh hp hq h1;rw[qY,show 1+(t-1)=t by omega]at h4;have h5:=h t;rw[qA,h4]at h5;have h6:tmps.getD t undef=u:=h5.1;obtain⟨u',h7,h8⟩:=AV.relL_get hc h2;rw[h1]at h7;cases h7;exact⟨h6,by rw[h6];exact h8⟩
 .have e:((s.tm.take 1).map lk++vB us caps++(s.tm.drop (caps.length+1)).map lk).getD t .top=lk (s.tm.getD t .top):=by
   rw[qA,wG,qW (by omega),l1,qW (by omega),l2,<- qA,getD_map k0]
   congr 1
   rw[qA,qA,qY,show caps.length+1+(t-1-caps.length)=t by omega]
  rw[e];exact tO (h t)
theorem Uu: ∀{t:Ty} {v w:AV} {x:t.den},zc t=true->asY t [v,w]=some x->False
 | .pair _ _,_,_,_,h,_ | .str,_,_,_,h,_ | .sl _,_,_,_,h,_=>by cases h
 | .int _,_,_,_,_,h | .bool,_,_,_,_,h=>by simp[asY]at h
theorem OJ{P:Program}{C:Ctx}{t:Ty}{x:t.den}{u:Value}(h:zc t=true)(hr:AV.relL P C (EL t x) [u]): ah C.w C.D t x [u]:=by
 cases t with
 | pair a b=>cases h
 | _=>
  obtain⟨u',us',e,g1,_⟩:=hr;cases e;exact g1
theorem Iy(H:Z7 c it l us caps J JX JP){y:Y}{w0:World}{D0:Nat->Prop}(hg:Da J JX y w0){a:Act}{w:World}{D:Nat->Prop}{E:Nat->Ent}(hd:aH (pg c N w0 D0) y.s.sig a w D E)(hmem:y.s.mem=[])(hsv:y.s.sv=[])(hlt:caps.length<y.s.tm.length)
  (hl:y.s.tm.length=N) {o:Oper} (hdst:nC o.dst y.s.tm.length=true) {l':Nat} {ns ps:List Prop} {v:List AV} (hy:yieldOf c.G y.s.sig.T true o.op=some (l',ns,v)) {x:it.t.den} (hx:asY it.t v=some x) (hps:qp us (y.s.tm.drop 1)=some ps) (hns:∀q∈ns++ps,q) (hll:l'=l) (hon:y.on=true) (hat:lu it.L y.k x)
  {K:Act->World->Prop} {R:Exit->Act->World->Prop} (hP:∀ch a w,a.defers=[]->JP ch w->R (.panic ch) a w)
  (hK:∀(b:Bool) (s':St) (a':Act) (w':World),s'=setSlot o.dst (.dat .bool b) (if b=true then anew us caps y.s else bare y.s)->aC7 c N J JX ⟨s',y.k+1,b⟩ a' w'->K a' w'):o.wpIn Fence.wide 0 c.P a w K R:=by
 obtain⟨f,args,at_,n1,n2,hop,hf,rfl,hav⟩:=rW hy;obtain⟨av,v1,hargs,ea,rfl⟩:∃av v1,args.toList=[av]/\ug true (evT c.G y.s.sig.T av)=(v1,n2)/\v=[v1]:=by
  rcases hav with g | ⟨_,_,_,_,_,_,_,_,_,rfl,_⟩
  .exact g
  .exact(Uu H.flat hx).elim
 rw[hll]at hf;have hfv:=dN hd f;have hav0:=dN hd av;have hfv2:=mT (g:=true) rfl (λq hq=>hns q (qH.2 (.inl (qH.2 (.inl (by have hq':=hq;rw[show(pg c N w0 D0).G=c.G from rfl,hf]at hq';exact hq')))))) hfv;have hav2:=mT (g:=true) rfl (λq hq=>hns q (qH.2 (.inl (qH.2 (.inr (by have hq':=hq;rw[show(pg c N w0 D0).G=c.G from rfl,ea]at hq';exact hq')))))) hav0;rw[show(pg c N w0 D0).G=c.G from rfl,hf]at hfv2
 have hfv3:a.eval f=.func (.yield l) #[] #[]:=hfv2;rw[show(pg c N w0 D0).G=c.G from rfl,ea]at hav2;have hcell:=Uw H.flat (OJ H.flat (PN hx (us:=[a.eval av]) ⟨_,_,rfl,hav2,rfl⟩));have hyl:=H.yld y.k x w (a.eval av) hat ((hg.now H (V9 hd)).1 hon) hcell;obtain⟨fn,tmps,assign,body,hrun,hround⟩:=hyl;unfold Oper.wpIn;refine⟨λf _=>trivial,?_⟩;have nodef:∀d,o.op≠.defer d:=λd e=>by rw[hop]at e;cases e
 rw[Oper.semAt_eq _ _ _ nodef];have hexec:(execOp a.eval o).run c.P w=.ok (.round l fn tmps assign body) w:=by
  obtain⟨dst,op,ty,pos,after,guard⟩:=o;simp only at hop;subst hop;have e1:args.map a.eval=#[a.eval av]:=by
   apply yB;rw[qBf,hargs];rfl
  simp only[execOp,resolve,e1,hfv3,Deferred.ofValue,wB,zU,vS,invoke,kW];simpa using hrun
 rw[hexec,Oper.uponIn_round];refine⟨λh=>(by cases h),?_⟩;have hdef:a.defers=[]:=hd.df.1.1 rfl;have hsz:a.tmps.size=N:=hd.sz;have fin:∀(b:Bool) (tm:List AV) (w':World) (D':Nat->Prop),tm.length=N->(∀b,D' b->b<w'.heap.size)->jX c.P ⟨w',D',noM,noE⟩ c.G->(∀t,(tm.getD t .top).rel c.P ⟨w',D',noM,noE⟩ (a.tmps.getD t undef))->
   Sim (pg c N w' D') (setSlot o.dst (.dat .bool b) ⟨tm,[],y.s.nx,[]⟩).sig (a.put o.dst (.bool b)) w':=λb tm w' D' h1 h2 h3 h4=>
  ⟨D',noE,(MU hsz hdef h2 h3 h4 y.s.nx).slot (s:=⟨tm,[],y.s.nx,[]⟩) h1 (by rw[show(St.mk tm [] y.s.nx []).tm.length=y.s.tm.length from h1.trans hl.symm];exact hdst) rfl⟩
 refine RoundIn.mono hround ?_;rintro e w' ⟨hsz',hres⟩;rcases hres with⟨rfl,hj⟩ | ⟨rfl,hj⟩ | ⟨ch,rfl,hj⟩
 .obtain⟨D',d1,d2,d3⟩:=H.jc _ _ hj;refine hK true _ _ w' rfl ⟨w',D',⟨λ_=>hj,λe=>(by cases e)⟩,?_⟩;have e:(if true=true then anew us caps y.s else bare y.s)=⟨(anew us caps y.s).tm,[],y.s.nx,[]⟩:=by rw[if_pos rfl];unfold anew;rw[hmem,hsv]
  rw[e];refine fin true _ w' D' ?_ d1 d2 λt=>Vb H.len hlt hd.tm hps (λp hp=>hns p (qH.2 (.inr hp))) d3 t
  unfold anew;simp only[qG,vW,qI,vY,iG H.len];omega
 .obtain⟨D',d1,d2⟩:=H.xc _ hj;refine hK false _ _ w' rfl ⟨w',D',⟨λe=>(by cases e),λ_=>hj⟩,?_⟩;have e:(if false=true then anew us caps y.s else bare y.s)=⟨(bare y.s).tm,[],y.s.nx,[]⟩:=by rw[if_neg (by decide)];unfold bare;rw[hmem,hsv]
  rw[e];refine fin false _ w' D' (by unfold bare;simp[hl]) d1 d2 λt=>?_
  show((y.s.tm.map lk).getD t .top).rel _ _ _;rw[getD_map rfl];exact tO (hd.tm t)
 .exact hP ch a w' hdef hj
theorem sn(H:Z7 c it l us caps J JX JP){ops:Array Oper}{Q:Y->Prop}{R:Exit->Act->World->Prop}(hR:∀y',Q y'->y'.s.tm.length=N->∀a w,aC7 c N J JX y' a w->R .normal a w)(hP:∀ch a w,a.defers=[]->JP ch w->R (.panic ch) a w):
  ∀(os:List Oper) (j:Nat) (y:Y),(∀i o,os[i]?=some o->ops[j+i]?=some o)->Vx c it l us caps ops os y Q->y.s.tm.length=N->∀a w,aC7 c N J JX y a w->wpOpsIn Fence.wide 0 c.P ops R (List.range' j os.length) a w
 | [],j,y,_,h,hl,a,w,hs=>by
  simp only[yO,qCd,wpOpsIn];simp only[Vx]at h;exact hR y h hl a w hs
 | o::os,j,y,hops,h,hl,a,w,hs=>by
  have ho:ops[j]?=some o:=by simpa using hops 0 o rfl
  have hos:∀i o',os[i]?=some o'->ops[j+1+i]?=some o':=λi o' hi=>by
   have:=hops (i+1) o' (by simpa using hi);rw[show j+1+i=j+(i+1) by omega];exact this
  obtain⟨w0,D0,hg,D,E,hd⟩:=hs;simp only[Vx]at h;split at h
  case h_2=>exact h.elim
  rename_i g hge;have hwant:=zj (o:=o) hd hge;rw[wV,qAz,wpOpsIn_cons];split at h
  ·
   rename_i l' ns v hy;split at h
   case isFalse=>exact h.elim
   rename_i hc;obtain⟨hdst,hms,hlt⟩:=hc;simp only[qC,wO]at hms;split at h
   case h_2=>exact h.elim
   rename_i x ps hx hps;unfold wpOpIn;rw[ho];simp only;rw[hwant];cases g with
   | false=>
    simp only[vT,yQ];refine⟨λf _=>trivial,sn H hR hP os (j+1) _ hos (h.2 rfl) (by simp[setSlot];split<;>simp[hl]) _ _ ⟨w0,D0,hg,D,E,?_⟩⟩;exact hd.slot hl hdst ⟨λe=>(by cases e),λ_=>rfl⟩
   | true=>
    simp only[xU];obtain⟨hns,hll,hon,hat,h1,h2⟩:=bL (h.1 rfl);refine Iy H hg hd hms.1 hms.2 hlt hl hdst hy hx hps hns hll hon hat hP λb s' a' w' es hs'=>?_
    have ls:s'.tm.length=N:=by
     rw[es];cases b
     .rw[if_neg (by decide)];unfold setSlot bare;split<;>simp[hl]
     .rw[if_pos rfl];have:(anew us caps y.s).tm.length=N:=by
       unfold anew;simp only[qG,vW,qI,vY,iG H.len];omega
      unfold setSlot;split<;>simp[this]
    cases b
    .subst es;exact sn H hR hP os (j+1) _ hos h2 ls _ _ hs'
    .subst es;exact sn H hR hP os (j+1) _ hos h1 ls _ _ hs'
  ·
   split at h
   case h_2=>exact h.elim
   rename_i r hr;split at h
   case isFalse=>exact h.elim
   rename_i hok;obtain⟨hns,hcont⟩:=bL h;have hdst:∀d,o.dst=some d->d<(pg c N w0 D0).N:=by
    intro d hdd;have h2:=hok.1;unfold fX at h2;simp only[qC]at h2;have:=h2.1;rw[(jz hr).1,hdd]at this;rw[hl]at this;exact wF this
   have:=nU (S:=pg c N w0 D0) (Q:=R) H.K ho ⟨D,E,hd⟩ hdst hr hns (λk hk=>by
    have:=hok.2;unfold BD at this;rw[hk]at this;exact G2 this)
   refine wpOpIn_mono (λa' w' h'=>sn H hR hP os (j+1) _ hos hcont (by rw[iQ];exact hl) a' w' ⟨w0,D0,hg,?_⟩) this;show Sim _ (cH r y.s).sig a' w';rw[fZ hok.1];exact h'
end
theorem FH{c:Cfg}{A:GQ}{f:FuncId}{caps:List AV}{it:jr}(hK:ak c.P c.G c.K)(hI:bv c.P c.G c.KI)(hm:c.P.follows .mixedOrders=true)(h:evL c A f caps it)(hKP:c.KP=λ_ _ _=>none:=by rfl): GK c.P c.G f caps it:=by
 intro hpre l J JX JP w us jc xc j1 x1 hyld h0;unfold evL at h;split at h
 case h_2=>exact h.elim
 rename_i fn hf;split at h
 case h_2=>exact h.elim
 rename_i b hb;obtain⟨hres,hflat,hrng,h⟩:=h;obtain⟨D,hD,hG,hcaps⟩:=jc 0 w h0;have hlen:us.length=caps.length:=(AV.relL_length hcaps).symm;obtain⟨u,hu⟩:∃u:Nat->Value,aCM u caps.length=us:=⟨λi=>us.getD i undef,by
  unfold aCM;apply qDf
  .simp[hlen]
  .intro i h1 h2;simp[h2]⟩
 have h:=h l u hpre;rw[hu]at h;have H:Z7 c it l us caps J JX JP:=⟨hK,hI,(λf args m r h=>by rw[hKP]at h;cases h),hm,hrng,hflat,hlen,jc,xc,j1,x1,hyld⟩;have earr:#[Value.func (.yield l) #[] #[]]++us.toArray=(Value.func (.yield l) #[] #[]::us).toArray:=by simp
 rw[earr];obtain⟨N,hN⟩:∃N,N=(caps.length+1)+(fn.ntmps-(caps.length+1)):=⟨_,rfl⟩;refine callsIn_of_wp_marks hf hb trivial ?_;have lp:(vB us caps).length=caps.length:=iG hlen;have hlS:(AB fn l us caps).s.tm.length=N:=by rw[hN];simp[AB,lp];omega
 have pinR:AV.relL c.P ⟨w,D,noM,noE⟩ (.yld l::vB us caps) (Value.func (.yield l) #[] #[]::us):=by
  refine⟨_,_,rfl,rfl,AV.relL_mk (by rw[lp,hlen]) λi a v h1 h2=>?_⟩;obtain⟨u',a',g1,g2,rfl⟩:=EJ h1;rw[h2]at g1;cases g1;obtain⟨v',g3,g4⟩:=AV.relL_get hcaps g2;rw[h2]at g3;cases g3;exact⟨rfl,g4⟩
 have hstart:aH (pg c N w D) (AB fn l us caps).s.sig {tmps:=(Value.func (.yield l) #[] #[]::us).toArray++Array.replicate (fn.ntmps-(Value.func (.yield l) #[] #[]::us).toArray.size) undef,defers:=[]} w D noE:=by
  refine MU (by rw[hN];simp[hlen]) rfl hD hG (λt=>?_) 0;show(((.yld l::vB us caps)++List.replicate (fn.ntmps-(caps.length+1)) (AV.val undef)).getD t .top).rel c.P ⟨w,D,noM,noE⟩ _;rw[qA,qK];by_cases ht:t<(AV.yld l::vB us caps).length
  .rw[vJ ht,xY (by simpa[hlen,lp]using ht)];obtain⟨u,g1,g2⟩:=AV.relL_get pinR (qB ht);rw[qB ht];simp only[kG,g1,qQ];exact g2
  .rw[qW (by omega),xR (by simp[hlen,lp]at ht ⊢;omega)];rw[wQ,yF];split
   .rename_i h1;rw[if_pos (by simp[hlen,lp]at h1 ⊢;omega)];rfl
   .trivial
 refine ri (N:=N) (F:=Fence.wide) (X:=aC7 c N J JX) (PQ:=λch a w=>a.defers=[]/\JP ch w) (λy a w ⟨w0,D0,hg,hs⟩=>⟨pg c N w0 D0,H.okS w0 D0,rfl,rfl,hs,λs' a' w' hs'=>⟨w0,D0,hg,hs'⟩⟩)
  (λid ops draw y Q R hr hl hR hP a w hs=>?_) b (AB fn l us caps) (aC0 it) _ h hlS (λe y' hq hl a' w' hs'=>?_) (λch a w ⟨hd,hj⟩=>?_) _ w ⟨w,D,⟨λ_=>h0,λe=>by cases e⟩,D,noE,hstart⟩
 .unfold rgL at hr;split at hr
  .exact hr.elim
  .rename_i hdr;have hdr:draw=false:=by simpa using hdr
   subst hdr;refine wpIn_region ?_;have:=sn H hR (λch a w h1 h2=>hP ch a w ⟨h1,h2⟩) ops.toList 0 y (λi o ho=>by simpa using ho) hr hl a w hs;rw[qAy];simpa using this
 .have key:(y'.on=true->y'.k=it.L.length)->LeavesInM Fence.wide 0 c.P fn a'.tmps (λe W'=>((∃v,e=.returned v)/\(J it.L.length W'\/JX W'))\/∃ch,e=.panicked ch/\JP ch W') a'.defers .returning w':=by
   intro hq;obtain⟨w0,D0,hg,D',E',hd⟩:=hs';have hdef:a'.defers=[]:=hd.df.1.1 rfl;rw[hdef];have hgn:=hg.now H (V9 hd);have hr:fn.results=#[]:=by
    apply yB;exact wO.1 hres
   refine⟨.tuple #[],by simp[results,hr],.inl ⟨⟨_,rfl⟩,?_⟩⟩;cases hon:y'.on with
   | true=>exact .inl (by rw[<- hq hon];exact hgn.1 hon)
   | false=>exact .inr (hgn.2 hon)
  cases e<;>first
   | exact key hq
   | exact hq.elim
 .show LeavesInM _ _ _ _ _ _ _ _ _;rw[hd];exact .inr ⟨ch,rfl,hj⟩
end Go.Eng
namespace Go.Eng
theorem oE{p q:Prop}(h:p)(e:q=p:=by kernel_rfl): q:=of_eq e h
open Go.RowKit
def aBT(l:List Nat)(s:St): St:={s with tm:=(List.range s.tm.length).map λi=>if l.contains i then s.tm.getD i .top else .top}
def lvA(L:List (Nat×List Nat))(A:Ann): Ann:=⟨λid s=>match L.lookup id with
 | none=>A.loop id s
 | some l=>match A.loop id s with
  | some sp=>some {sp with st:=λx=>aBT l (sp.st x)}
  | none=>none,A.pre,A.cut⟩
inductive AK where
 | val (t:Ty)
 | row (t:Ty)
 | ptr (t:Ty)
 | arr (t:Ty)
 | fn (g:FuncId) (t:Ty)
 | fnp (g:FuncId) (t:Ty)
 | fn0 (g:FuncId)
 | fnp0 (g:FuncId)
 | bp (t:Ty)
 | mp (nm:Nat)
 | pv (nm:Nat) (a b:Ty)
 | pvf (a b:Ty)
 | pvb (a b:Ty)
 | fnb (g:FuncId) (t:Ty)
@[reducible] def AK.den:AK->Type
 | .val t=>t.den
 | .row t=>t.den
 | .ptr t=>t.den
 | .arr t=>List t.den
 | .fn _ t=>t.den
 | .fnp _ t=>t.den
 | .fn0 _=>PUnit
 | .fnp0 _=>PUnit
 | .bp t=>t.den
 | .mp _=>PUnit
 | .pv _ a b=>a.den×b.den
 | .pvf a b=>a.den×b.den
 | .pvb a b=>a.den×b.den
 | .fnb _ t=>t.den
def AK.av:(k:AK)->k.den->AV
 | .val t,x=>.dat t x
 | .row t,x=>.agg (cellsOf t x)
 | .ptr t,x=>.ip t x
 | .arr t,x=>.ia t x
 | .fn g t,x=>.fn g [.ip t x]
 | .fnp g t,x=>.ipv (.fn g [.ip t x])
 | .fn0 g,_=>.fn g []
 | .fnp0 g,_=>.ipv (.fn g [])
 | .bp t,x=>.ipv (.ip t x)
 | .mp nm,_=>.ptr nm 1 0 0
 | .pv nm a b,x=>.ips [.ip a x.1,.ip b x.2,.ptr nm 1 0 0]
 | .pvf a b,x=>.ips [.ip a x.1,.ip b x.2,.top]
 | .pvb a b,x=>.ipv (.ips [.ip a x.1,.ip b x.2,.top])
 | .fnb g t,x=>.fn g [.ipv (.ip t x)]
def Qi(t:Ty): AV->Option t.den
 | .ip t' x=>if h:t'=t then some (h▸x)else none
 | _=>none
def aC6(g:FuncId)(t:Ty): AV->Option t.den
 | .fn g' [a]=>if g'=g then Qi t a else none
 | _=>none
def Zu(g:FuncId)(t:Ty): AV->Option t.den
 | .fn g' [.ipv a]=>if g'=g then Qi t a else none
 | _=>none
def aC4(a b:Ty): AV->Option (a.den×b.den)
 | .ips [x,y,.top]=>match Qi a x,Qi b y with
  | some x,some y=>some (x,y)
  | _,_=>none
 | _=>none
def Zt(nm:Nat)(a b:Ty): AV->Option (a.den×b.den)
 | .ips [x,y,.ptr nm' 1 0 0]=>if nm'=nm then match Qi a x,Qi b y with
  | some x,some y=>some (x,y)
  | _,_=>none
  else none
 | _=>none
def Va(g:FuncId): AV->Option PUnit
 | .fn g' []=>if g'=g then some ⟨⟩else none
 | _=>none
def AK.of:(k:AK)->AV->Option k.den
 | .val t,a=>a.as t
 | .row t,a=>match a with
  | .agg cs=>match cF t cs with
   | some (x,[])=>some x
   | _=>none
  | _=>none
 | .ptr t,a=>Qi t a
 | .arr t,a=>match a with
  | .ia t' x=>if h:t'=t then some (h▸x)else none
  | _=>none
 | .fn g t,a=>aC6 g t a
 | .fnp g t,a=>match a with
  | .ipv b=>aC6 g t b
  | _=>none
 | .fn0 g,a=>Va g a
 | .fnp0 g,a=>match a with
  | .ipv b=>Va g b
  | _=>none
 | .bp t,a=>match a with
  | .ipv b=>Qi t b
  | _=>none
 | .mp nm,a=>match a with
  | .ptr nm' 1 0 0=>if nm'=nm then some ⟨⟩else none
  | _=>none
 | .pv nm a b,x=>Zt nm a b x
 | .pvf a b,x=>aC4 a b x
 | .pvb a b,x=>match x with
  | .ipv y=>aC4 a b y
  | _=>none
 | .fnb g t,a=>Zu g t a
theorem mc{t:Ty}{a:AV}{x:t.den}(h:Qi t a=some x): a=.ip t x:=by
 unfold Qi at h;split at h
 .split at h
  .rename_i e;subst e;cases h;rfl
  .cases h
 .cases h
theorem PT{g:FuncId}{t:Ty}{a:AV}{x:t.den}(h:aC6 g t a=some x): a=.fn g [.ip t x]:=by
 unfold aC6 at h;split at h
 .split at h
  .rename_i e;subst e;rw[mc h]
  .cases h
 .cases h
theorem U9{g:FuncId}{t:Ty}{a:AV}{x:t.den}(h:Zu g t a=some x): a=.fn g [.ipv (.ip t x)]:=by
 unfold Zu at h;split at h
 .split at h
  .rename_i e;subst e;rw[mc h]
  .cases h
 .cases h
theorem PR{t s:Ty}{a:AV}{x:t.den×s.den}(h:aC4 t s a=some x): a=.ips [.ip t x.1,.ip s x.2,.top]:=by
 unfold aC4 at h;split at h
 .split at h
  .rename_i h1 h2;cases h;rw[mc h1,mc h2]
  .cases h
 .cases h
theorem U7{nm:Nat}{t s:Ty}{a:AV}{x:t.den×s.den}(h:Zt nm t s a=some x): a=.ips [.ip t x.1,.ip s x.2,.ptr nm 1 0 0]:=by
 unfold Zt at h;split at h
 .split at h
  .rename_i e;subst e;split at h
   .rename_i h1 h2;cases h;rw[mc h1,mc h2]
   .cases h
  .cases h
 .cases h
theorem It{g:FuncId}{a:AV}{x:PUnit}(h:Va g a=some x): a=.fn g []:=by
 unfold Va at h;split at h
 .split at h
  .rename_i e;subst e;rfl
  .cases h
 .cases h
theorem AK.of_rel {P:Program} {C:Ctx} {k:AK} {a:AV} {x:k.den} {v:Value} (h:k.of a=some x) (hr:a.rel P C v):(k.av x).rel P C v:=by
 cases k with
 | val t=>exact AV.as_rel h hr
 | row t=>
  simp only[AK.of]at h;split at h
  .split at h
   .rename_i y hy;cases h;obtain⟨us,e,g⟩:=hr;obtain⟨u1,u2,e2,g1,g2⟩:=cm hy g;have g2':u2=[]:=g2;subst g2' e2;exact⟨u1++[],e,by rw[wH];exact b7 g1⟩
   .cases h
  .cases h
 | ptr t=>rw[mc h]at hr;exact hr
 | arr t=>
  simp only[AK.of]at h;split at h
  .split at h
   .rename_i e;subst e;cases h;exact hr
   .cases h
  .cases h
 | fn g t=>rw[PT h]at hr;exact hr
 | fnp g t=>
  simp only[AK.of]at h;split at h
  .rw[PT h]at hr;exact hr
  .cases h
 | fn0 g=>rw[It h]at hr;exact hr
 | fnp0 g=>
  simp only[AK.of]at h;split at h
  .rw[It h]at hr;exact hr
  .cases h
 | bp t=>
  simp only[AK.of]at h;split at h
  .rw[mc h]at hr;exact hr
  .cases h
 | mp nm=>
  simp only[AK.of]at h;split at h
  .split at h
   .rename_i e;subst e;exact hr
   .cases h
  .cases h
 | pv nm a b=>rw[U7 h]at hr;exact hr
 | pvf a b=>rw[PR h]at hr;exact hr
 | pvb a b=>
  simp only[AK.of]at h;split at h
  .rw[PR h]at hr;exact hr
  .cases h
 | fnb g t=>rw[U9 h]at hr;exact hr
@[reducible] def AKs:List AK->Type
 | []=>PUnit
 | k::r=>k.den×AKs r
def avK: (l:List AK)->AKs l->List AV
 | [],_=>[]
 | k::r,x=>k.av x.1::avK r x.2
def ofK: (l:List AK)->List AV->Option (AKs l)
 | [],[]=>some ⟨⟩
 | k::r,a::as=>match k.of a,ofK r as with
  | some x,some y=>some (x,y)
  | _,_=>none
 | _,_=>none
theorem fi{P:Program}{C:Ctx}: ∀{l:List AK} {as:List AV} {x:AKs l} {us:Lv},ofK l as=some x->AV.relL P C as us->AV.relL P C (avK l x) us
 | [],[],_,_,_,hr=>hr
 | k::r,a::as,x,us,h,hr=>by
  simp only[ofK]at h;split at h
  .rename_i y z h1 h2;cases h;obtain⟨u,us',e,g1,g2⟩:=hr;exact⟨u,us',e,AK.of_rel h1 g1,fi h2 g2⟩
  .cases h
 | [],_::_,_,_,h,_=>by simp[ofK]at h
 | _::_,[],_,_,h,_=>by simp[ofK]at h
def az(l:List AK)(pre:AKs l->Prop)(ret:AKs l->AV)(args:List AV)(m:Mem): Option jP:=match m with
 | []=>match ofK l args with
  | some x=>some ⟨pre x,ret x,[]⟩
  | none=>none
 | _=>none
theorem ag{P:Program}{G:List (Nat×AV)}{f:FuncId}{l:List AK}{pre:AKs l->Prop}{ret:AKs l->AV}(h:∀x,af P G f (avK l x) [] ⟨pre x,ret x,[]⟩):
  ∀args m c,az l pre ret args m=some c->af P G f args m c:=by
 intro args m c hc;unfold az at hc;split at hc
 .split at hc
  .rename_i x hx;cases hc;exact(h x).args λC us _ hu=>fi hx hu
  .cases hc
 .cases hc
def kOr(f0:FuncId)(k:List AV->Mem->Option jP)(K:Kt): Kt:=λf args m=>if f=f0 then k args m else K f args m
theorem ai{P:Program}{G:List (Nat×AV)}{f0:FuncId}{k:List AV->Mem->Option jP}{K:Kt}(hk:∀args m c,k args m=some c->af P G f0 args m c)(hK:ak P G K): ak P G (kOr f0 k K):=by
 intro f args m c h;unfold kOr at h;split at h
 .rename_i e;subst e;exact hk args m c h
 .exact hK f args m c h
def OH(l:List AK)(pre:AKs l->Prop)(ret:AKs l->AV)(b:AKs l->Blk)(args:List AV)(m:Mem): Option jP:=match m with
 | []=>match ofK l args with
  | some x=>some ⟨pre x,ret x,[(0,b x)]⟩
  | none=>none
 | _=>none
theorem OG{P:Program}{G:List (Nat×AV)}{f:FuncId}{l:List AK}{pre:AKs l->Prop}{ret:AKs l->AV}{b:AKs l->Blk}(h:∀x,af P G f (avK l x) [] ⟨pre x,ret x,[(0,b x)]⟩):
  ∀args m c,OH l pre ret b args m=some c->af P G f args m c:=by
 intro args m c hc;unfold OH at hc;split at hc
 .split at hc
  .rename_i x hx;cases hc;exact(h x).args λC us _ hu=>fi hx hu
  .cases hc
 .cases hc
def uR(l:List AK)(q:AKs l->w8)(args:List AV)(m:Mem): Option w8:=match m with
 | []=>match ofK l args with
  | some x=>some (q x)
  | none=>none
 | _=>none
def pOr(f0:FuncId)(k:List AV->Mem->Option w8)(KP:KPt): KPt:=λf args m=>if f=f0 then k args m else KP f args m
theorem jo{P:Program}{G:List (Nat×AV)}{f:FuncId}{l:List AK}{q:AKs l->w8}(h:∀x,da P G f (avK l x) [] (q x)): ∀args m r,uR l q args m=some r->da P G f args m r:=by
 intro args m r hc;unfold uR at hc;split at hc
 .split at hc
  .rename_i x hx;cases hc;exact λhp hk w D E us hD hG hu hH=>h x hp hk w D E us hD hG (fi hx hu) hH
  .cases hc
 .cases hc
theorem iH{P:Program}{G:List (Nat×AV)}{f0:FuncId}{k:List AV->Mem->Option w8}{KP:KPt}(hk:∀args m r,k args m=some r->da P G f0 args m r)(hK:bO P G KP): bO P G (pOr f0 k KP):=by
 intro f args m r h;unfold pOr at h;split at h
 .rename_i e;subst e;exact hk args m r h
 .exact hK f args m r h
def noP: KPt:=λ_ _ _=>none
theorem qu{P:Program}{G:List (Nat×AV)}: bO P G noP:=λf args m r h=>by cases h
def asVar(nm:Nat)(t:Ty): Mem->Option t.den
 | [(nm',.var [.dat t' x])]=>if nm'=nm then if h:t'=t then some (h▸x)else none else none
 | _=>none
theorem Is{nm:Nat}{t:Ty}{m:Mem}{x:t.den}(h:asVar nm t m=some x): m=[(nm,.var [.dat t x])]:=by
 unfold asVar at h;split at h
 .split at h
  .rename_i e;split at h
   .rename_i e2;subst e e2;cases h;rfl
   .cases h
  .cases h
 .cases h
def VN(nm:Nat)(t:Ty)(l:List AK)(pre:AKs l->t.den->Prop)(ret:AKs l->t.den->AV)(upd:AKs l->t.den->t.den)(args:List AV)(m:Mem): Option jP:=match asVar nm t m,ofK l args with
 | some xs,some x=>some ⟨pre x xs,ret x xs,[(nm,.var [.dat t (upd x xs)])]⟩
 | _,_=>none
theorem pE{P:Program}{G:List (Nat×AV)}{f:FuncId}{nm:Nat}{t:Ty}{l:List AK}{pre:AKs l->t.den->Prop}{ret:AKs l->t.den->AV}{upd:AKs l->t.den->t.den}
  (h:∀x xs,af P G f (avK l x) [(nm,.var [.dat t xs])] ⟨pre x xs,ret x xs,[(nm,.var [.dat t (upd x xs)])]⟩):∀args m c,VN nm t l pre ret upd args m=some c->af P G f args m c:=by
 intro args m c hc;unfold VN at hc;split at hc
 .rename_i xs x h1 h2;cases hc;rw[Is h1];exact(h x xs).args λC us _ hu=>fi h2 hu
 .cases hc
def YL(nm:Nat)(t:Ty)(l:List AK)(q:AKs l->t.den->w8)(args:List AV)(m:Mem): Option w8:=match asVar nm t m,ofK l args with
 | some xs,some x=>some (q x xs)
 | _,_=>none
theorem tu{P:Program}{G:List (Nat×AV)}{f:FuncId}{nm:Nat}{t:Ty}{l:List AK}{q:AKs l->t.den->w8}(h:∀x xs,da P G f (avK l x) [(nm,.var [.dat t xs])] (q x xs)): ∀args m r,YL nm t l q args m=some r->da P G f args m r:=by
 intro args m r hc;unfold YL at hc;split at hc
 .rename_i xs x h1 h2;cases hc;rw[Is h1];exact λhp hk w D E us hD hG hu hH=>h x xs hp hk w D E us hD hG (fi h2 hu) hH
 .cases hc
theorem qc:(∀x y,Dz x true y=(x||y))/\(∀x y,Dz x y false=(x&&y))/\(∀{b:Prop}(α:Type)[Nonempty α],(∀_:α,b)↔b)/\(∀{b:Prop}(α:Prop)[Nonempty α],(α->b)↔b)/\(∀b,(true&&b)=b)/\(∀b,(b&&true)=b)/\(∀b,(false||b)=b)/\(∀b,(b||false)=b)/\(∀p,(True/\p)=p)/\(∀p,(p/\True)=p)/\(∀{a:Prop},a->a↔True)/\(∀α:Prop,(α->True)=True)/\(∀α:Type,(α->True)=True)/\(∀b,((!b)=true)=(b=false))/\(∀a b,((a||b)=true)=(a=true\/b=true))/\(∀{x y},(x||y)=false↔x=false/\y=false)/\(∀b,((!b)=false)=(b=true))/\(∀a b,((a&&b)=true)=(a=true/\b=true))/\(∀{x y},(x&&y)=false↔x=true->y=false)/\(∀b,(!!b)=b)/\(∀{α:Type}{p:α->Prop}{b},(∃a,p a/\a=b)↔p b)/\(∀{α:Type}{p:α->Prop}{b},(∃a,p a/\b=a)↔p b)/\(∀{α:Type}{p:α->Prop}{b},(∃a,a=b/\p a)↔p b)/\∀{α:Type}{p:α->Prop}{b},(∃a,b=a/\p a)↔p b:=
 ⟨λx _=>by cases x<;>rfl,λx _=>by cases x<;>rfl,λα _=>kK α,λα _=>kK α,by simp⟩
theorem qd:(∀n:Nat,(n:Int).toNat=n)/\(∀n,0+n=n)/\(∀n,n*1=n)/\(∀n:Nat,Int.ofNat n=n)/\(∀{p:Prop}[Decidable p],(decide p=true)=p)/\(∀{p:Prop}{x:Decidable p},decide p=false↔¬p)/\(∀{α:Type}[BEq α][LawfulBEq α]{a b:α},(a==b)=true↔a=b)/\(∀{α:Type}[BEq α][LawfulBEq α]{a b:α},(a != b)=true↔a≠b)/\(∀{α:Type}[BEq α][LawfulBEq α]{a b:α},(a==b)=false↔a≠b)/\∀{α:Type}[BEq α][LawfulBEq α]{a b:α},(a != b)=false↔a=b:=by simp;exact⟨xH,qCz,qAe,bne_eq_false_iff_eq⟩
end Go.Eng
namespace Go.Eng.Sv
abbrev Line:=ByteArray×Int×Int×Int×Int×Int
abbrev Ll:=List Line
end Go.Eng.Sv
