/- H15b -/
import Derived.Test.YtecnnbcfgijddaaGreatDoorETBrkD
import Derived.RecoverIn
import Derived.KernelRfl
set_option linter.unusedSimpArgs false
set_option linter.unusedVariables false
namespace Go.Eng
open Go.RowKit
structure OkS(c:Cfg)(S:Base):Prop where
 P:c.P=S.P
 G:c.G=S.G
 K:ay S.P S.G c.K
 I:aR S.P S.G c.KI
 m:S.P.follows .mixedOrders=true
 rd:S.rd≠none->S.N<=S.sv.length
 nod:S.rd=none->S.nod=!c.rng
 KP:bG S.P S.G c.KP
theorem aL.mark{S:Base}{σ:Sig}{a:Act}{w:World}{D:Nat->Prop}{E:Nat->Ent}(h:aL S σ a w D E)(j:S.nod=false){k:Nat}(u:S.w0.heap.size<=k)(y:D k)(hw:w.heap[k]?=some (.deferred (some [])))(f:∀d∈a.defers,d.target≠.collected k):
  aL S σ {a with defers:={target:=.collected k,args:=#[]}::a.defers} w D E:=
 ⟨h.sz,⟨⟨λe=>(by rw[j]at e;cases e),⟨_::h.df.1.2.1.choose,yF (_::·) h.df.1.2.1.choose_spec⟩,List.Pairwise.cons (λd hd=>(f d hd).symm) h.df.1.2.2⟩,λd hd=>by
  rcases zK.1 hd with e|e;exact .inr ⟨k,e,u,y,hw⟩;exact h.df.2 d e⟩,h.tm,h.bl,h.own,h.inj,h.low,h.dlt,h.dlo,h.dhi,h.gl,h.svr,h.pv⟩
variable {S:Base}{a:Act}{R:Exit->Act->World->Prop}{w:World}
theorem Ph{x:Code}(h:x.wpIn S.F 0 S.P R a w):At S.P S.rd x R a w:=Ua S.F_round S.F_fn S.F_depth h
def Ok(c:Cfg)(x:Code)(s:St)(Q:Exit->St->Prop):Prop:=∀(S:Base) (R:Exit->Act->World->Prop),OkS c S->s.tm.length=S.N->(∀e s',Q e s'->s'.tm.length=S.N->∀a w,Sim S s'.sig a w->R e a w)->∀a w,Sim S s.sig a w->At S.P S.rd x R a w
variable {D:Nat->Prop}{E:Nat->Ent}
theorem RO{s s':St}(f:s=s'\/leP s s')(h:aL S s.sig a w D E):
  ∃D' E',aL S s'.sig a w D' E'/\s.tm.length=s'.tm.length/\(∀b,D b->D' b)/\(∀b,D' b->D b\/aC s.sig.m E b)/\∀b,aC s'.sig.m E' b->aC s.sig.m E b:=by
 rcases f with rfl|f;exact⟨D,E,h,rfl,λ_ g=>g,λ_ g=>.inl g,λ_ g=>g⟩;unfold leP at f;split at f;rename_i ns j;obtain⟨D',E',z,g2,y,u⟩:=Jb h j (bK f).1;exact⟨D',E',z,ni j,g2,y,u⟩;exact f.elim
variable {s:St}
mutual
theorem G3(h:aL S s.sig a w D E):∀{x:AV}{v:Value},x.rel S.P ⟨w,D,s.sig.m,E⟩ v->(WS s.mem x).rel S.P ⟨w,yt s.sig.m E D,noM,noE⟩ v:=λ{x v} G=>by
 have L:Later ⟨w,D,s.sig.m,E⟩ ⟨w,yt s.sig.m E D,noM,noE⟩:=⟨λ_ g=>.inl g,λ_ _=>rfl⟩;have z:∀{y:AV}{u:Value},y.rel S.P ⟨w,D,s.sig.m,E⟩ u->(kb y).rel S.P ⟨w,yt s.sig.m E D,noM,noE⟩ u:=λ{y u} hy=>
  AV.rel_mono L (λnm f=>by rw[fJ]at f;cases f) (AV.rel_forg hy)
 unfold WS;split;rename_i nm;split;rename_i cs hm;obtain⟨_,q⟩:=G _ hm;obtain⟨_,q2,q3⟩:=q rfl;obtain⟨_,us,el,X,r2⟩:=h.bl nm _ hm;refine⟨(E nm).b,0,us.toList,?_,.inr ⟨nm,_,hm,q2,rfl⟩,λj u hj=>?_,?_⟩;rw[q3];show Value.pointer (some ⟨(E nm).b,0*_+0,none⟩)=_;rw[xE];have A:w.heap[(E nm).b]?=some (.cells us el (0,0)):=X;show w.cell? ⟨(E nm).b,0+j,none⟩=some u;rw[qDe w _ _ us el (0,0) A,zG];simpa using hj;exact AV.relL_mono L (λnm f=>by rw[dW]at f;cases f) (AV.relL_forg r2);trivial;rename_i y;obtain⟨b,off,u,h1,h2,h3,h5⟩:=G;exact⟨b,off,u,h1,.inl h2,h3,G3 h h5⟩;exact z G
end
theorem G2(h:aL S s.sig a w D E):∀{xs:List AV}{vs:Lv},AV.relL S.P ⟨w,D,s.sig.m,E⟩ xs vs->AV.relL S.P ⟨w,yt s.sig.m E D,noM,noE⟩ (Cc s.mem xs) vs|[],_,f=>f|_::_,_,⟨u,us,e,y,j⟩=>⟨u,us,e,G3 h y,G2 h j⟩
variable {G:List (Nat×AV)}{g:Operand}{gf:FuncId}
theorem Ot{l:List AV}(h:As G g gf s=some l):∃caps,evT G s.sig.T g=.fn gf caps/\Cc s.mem caps=l:=by
 unfold As at h;split at h;rename_i f caps e;split at h;rename_i j;subst j;cases h;exact⟨caps,e,rfl⟩;cases h;cases h
variable {t:Ty}{caps:List AV}
theorem Oq{m:Mem}{α:Type}{inv:α->Prop}{st:α->St}{X:Prop}(h:G1 G g gf caps m inv st t X):
  X/\(AV.namesL caps≠[]->yx t=true/\∀x,inv x->As G g gf (st x)=some (Cc m caps)):=by
 unfold G1 at h;split at h;rename_i e;exact⟨h,λg=>(g (zD.1 e)).elim⟩;exact⟨h.2.2,λ_=>⟨h.1,h.2.1⟩⟩
variable {P:Program}
theorem Rf{y:t.den}{u:Value}(h:yx t=true)(f:ae w D t y [u]):AV.relL P ⟨w,D,noM,noE⟩ (Jn t y) [u]:=by
 cases t with
 |pair a b=>cases h
 |_=>exact⟨u,[],rfl,f,rfl⟩
theorem V9{y:t.den}{n:Nat}(h:Re t n=true):(Jn t y).length=n:=by
 cases t with
 |pair a b=>simp only[Re,yX]at h;subst h;rfl|_=>simp only[Re,qE,yX]at h;rw[h.1];rfl
theorem Ag(t:Ty)(y:t.den):AV.namesL (Jn t y)=[]:=by
 have one:∀(t:Ty) (x:t.den),(sa t x).names=[]:=λt x=>by
  unfold sa;split;exact iQ t x;rfl
 cases t with
 |pair a b=>show(sa a y.1).names++((sa b y.2).names++[])=[];rw[one,one];rfl|_=>rfl
theorem IE:∀(ps:List Tmp) (vs tm:List AV),(IG ps vs tm).length=tm.length
 |[],_,_=>by unfold IG;rfl|_::_,[],_=>rfl|p::ps,v::vs,tm=>by
  show(IG ps vs (tm.set p v)).length=_;rw[IE ps vs,zX]
variable {C:Ctx}
theorem ID:∀{ps:List Tmp}{vs tm:List AV}{us:Lv}{tmps:Array Value},ps.length=vs.length->AV.relL P C vs us->tm.length=tmps.size->(∀p∈ps,p<tm.length)->(∀t,(tm.getD t .top).rel P C (tmps.getD t undef))->
  ∀t,((IG ps vs tm).getD t .top).rel P C (((ps.zip us).foldl (λt (p,v)=>t.setIfInBounds p v) tmps).getD t undef)
 |[],[],_,_,_,_,z,_,_,h=>by
  cases z;exact h
 |p::ps,v::vs,tm,us,tmps,j,z,L,X,h=>by
  obtain⟨u,y,rfl,h1,h2⟩:=z;show ∀t,((IG ps vs (tm.set p v)).getD t .top).rel P C (((ps.zip y).foldl (λt (p,v)=>t.setIfInBounds p v) (tmps.setIfInBounds p u)).getD t undef);have f:=X p (by simp);refine ID (by simpa using j) h2 (by simpa using L) (λq hq=>by rw[zX];exact X q (by simp[hq])) λt=>?_;by_cases e:t=p;subst e;have G:(tm.set t v).getD t .top=v:=by rw[qA,zV f];rfl
  have A:(tmps.setIfInBounds t u).getD t undef=u:=by simp[Array.getD,<- L,f]
  rw[G,A];exact h1;have G:(tm.set p v).getD t .top=tm.getD t .top:=by
   simp only[qA];rw[zW (λh=>e h.symm)]
  have A:(tmps.setIfInBounds p u).getD t undef=tmps.getD t undef:=by
   simp only[qP,zO];rw[if_neg (λh=>e h.symm)]
  rw[G,A];exact h t
 |[],_::_,_,_,_,j,_,_,_,_=>by cases j
 |_::_,[],_,_,_,j,_,_,_,_=>by cases j
variable {c:Cfg}
theorem WX(hI:aR P G c.KI){m:Mem}{it:iD}(hgf:gf<yq)(hki:aCD c m gf caps=some it)
  (hpre:it.pre) (l:Nat) (J:Nat->World->(Nat->Prop)->(Nat->Prop)->Prop) (JX:World->(Nat->Prop)->(Nat->Prop)->Prop) (JP:List PanicEntry->World->(Nat->Prop)->(Nat->Prop)->Prop) (w:World) (D:Nat->Prop) (us:Lv)
  (hD:∀b,D b->b<w.heap.size) (hG:jG P ⟨w,D,noM,noE⟩ G) (hcaps:AV.namesL caps=[]->AV.relL P ⟨w,D,noM,noE⟩ caps us)
  (hlent:AV.namesL caps≠[]->(∀k f j V,J k f j V->∃D:Nat->Prop,(∀b,D b->b<f.heap.size)/\jG P ⟨f,D,noM,noE⟩ G/\AV.relL P ⟨f,D,noM,noE⟩ (Cc m caps) us)/\yx it.t=true/\∀f j V,JX f j V->∃D:Nat->Prop,(∀b,D b->b<f.heap.size)/\jG P ⟨f,D,noM,noE⟩ G)
  (c1:∀k f z j V,J k f j V->Below f.heap.size f z->∀X:Nat->Prop,J k z (λb=>j b\/(gv f z b/\¬X b)) (λb=>V b\/(gv f z b/\X b)))
  (c2:∀k f (j D2 V V2:Nat->Prop),J k f j V->(∀b,D2 b->j b)->(∀b,V2 b->V b)->J k f D2 V2)
  (c3:∀k f z j V,J k f j V->Chg V f z->z.heap.size=f.heap.size->J k z j V)
  (x1:∀f z j V,JX f j V->Below f.heap.size f z->∀X:Nat->Prop,JX z (λb=>j b\/(gv f z b/\¬X b)) (λb=>V b\/(gv f z b/\X b)))
  (x2:∀f (j D2 V V2:Nat->Prop),JX f j V->(∀b,D2 b->j b)->(∀b,V2 b->V b)->JX f D2 V2)
  (x3:∀f z j V,JX f j V->Chg V f z->z.heap.size=f.heap.size->JX z j V)
  (p3:∀A f z j V,JP A f j V->Chg V f z->z.heap.size=f.heap.size->JP A z j V)
  (hy:∀k y W j V vs,it.L[k]?=some y->J k W j V->(∀b,j b->b<W.heap.size)->AV.relL P ⟨W,j,noM,noE⟩ (Jn it.t y) vs->YieldAt Fence.wide 0 P l vs.toArray W λe W' =>
   W.heap.size<=W'.heap.size/\(∀b,j b\/V b->W'.heap[b]?=W.heap[b]?)/\((e=.returned (.bool true)/\J (k+1) W' j V)\/(e=.returned (.bool false)/\JX W' j V)\/∃A,e=.panicked A/\JP A W' j V))
  (h0:J 0 w D noV):
  CallsIn Fence.wide 0 P gf (#[.func (.yield l) #[] #[]]++us.toArray) w λe W'=>((∃v,e=.returned v)/\((∃D2,J it.L.length W' D2 noV)\/∃D2,JX W' D2 noV))\/∃A,e=.panicked A/\∃D2 V2,JP A W' D2 V2:=by
 unfold aCD at hki;split at hki;rename_i e;exact hI.at hgf hki hpre l J JX JP w D us hD hG (hcaps (zD.1 e)) c1 c2 c3 x1 x2 x3 p3 hy h0;rename_i e;obtain⟨l1,lf,l2⟩:=hlent λg=>e (zD.2 g);refine(hI.lent hki hpre l (λk W=>J k W noV noV) (λW=>JX W noV noV) (λA W=>JP A W noV noV) w us (λk f h=>l1 k f _ _ h) (λf h=>l2 f _ _ h)
  (λk f z h hb=>c2 _ _ _ _ _ _ (c1 k f z _ _ h hb noV) (λ_ g=>g.elim) λ_ g=>g.elim) (λf z h hb=>x2 _ _ _ _ _ (x1 f z _ _ h hb noV) (λ_ g=>g.elim) λ_ g=>g.elim)
  (λk y W u h1 h2 h3=>?_) (c2 _ _ _ _ _ _ h0 (λ_ g=>g.elim) λ_ g=>g)).mono ?_
 obtain⟨fn,tmps,qz,body,g1,g2⟩:=hy k y W noV noV [u] h1 h2 (λ_ g=>g.elim) (Rf lf h3);exact⟨fn,tmps,qz,body,g1,g2.mono λe W' g=>⟨g.1,g.2.2⟩⟩;rintro e W' (⟨g1,g2⟩|⟨A,g1,g2⟩);exact .inl ⟨g1,g2.imp (λg=>⟨_,g⟩) λg=>⟨_,g⟩⟩;exact .inr ⟨A,g1,_,_,g2⟩
variable {Q:Exit->St->Prop}
theorem Yu{EA EB:St->(Exit->St->Prop)->Prop}{le:St->St->Prop}{ps:Array Tmp}{qz b:Code}(iha:∀s Q,EA s Q->Ok c qz s Q)(ihb:∀s Q,EB s Q->Ok c b s Q)(hle:∀s s',le s s'->s=s'\/leP s s'){it:iD}{sp:Spec}(hev:evT c.G s.sig.T g=.fn gf caps)(hki:aCD c s.mem gf caps=some it)(h:aDG c EA EB le g ps.toList s gf caps it sp Q):Ok c (.rangeFunc g ps qz b) s Q:=by
 intro S R H hl hR a w hs;obtain⟨pl,hps⟩:∃pl,ps.toList=pl:=⟨_,rfl⟩;rw[hps]at h;unfold aDG at h;split at h;case isFalse=>exact h.elim
 rename_i hc;obtain⟨⟨hpre,⟨x0,i1,i2,i3⟩,hround,hdone⟩,hlo⟩:=Oq h;simp only[SN,qE,qF]at hc;obtain⟨⟨⟨⟨⟨hgoes,hgf⟩,hsv⟩,hrng⟩,hone⟩,hp⟩:=hc;have hp:∀p∈pl,p<s.tm.length:=λp g=>vO (qW.1 hp p g);obtain⟨D,E,hd⟩:=hs;have hrd:S.rd=none:=by
  cases hr:S.rd with
  |none=>rfl|some l=>
   have h1:=H.rd (by rw[hr];simp);have h2:=AV.relL_length hd.svr;have e:s.sig.sv=s.sv:=rfl;rw[e]at h2;omega
 have hnod:S.nod=false:=by rw[H.nod hrd,hrng];rfl
 have hgv:=dX hd g;rw[<- H.G,hev]at hgv;obtain⟨cs,hga,hcaps⟩:=hgv;obtain⟨D1,E1,hd1,hlen0,up1,dn1,bl1⟩:=RO (hle _ _ i3) hd;obtain⟨dk,hdk⟩:∃dk,dk=w.heap.size:=⟨_,rfl⟩;rw[hrd];refine at_range λfn hfn=>?_;obtain⟨rec,hrec⟩:∃rec:LoopState->Option Code->Loop,rec=λst pe=>{state:=st,pending:=pe,fn,tmps:=a.tmps,params:=ps,assign:=qz,body:=b,defers:=w.heap.size}:=⟨_,rfl⟩;obtain⟨W1,hW1⟩:∃W1,(w.alloc (.deferred (some []))).alloc (.loop (rec .ready none))=W1:=⟨_,rfl⟩;have hsz1:W1.heap.size=w.heap.size+2:=by rw[<- hW1];simp
 have hL1:W1.heap[w.heap.size+1]?=some (.loop (rec .ready none)):=by
  rw[<- hW1];have:=World.alloc_heap_new (w.alloc (.deferred (some []))) (.loop (rec .ready none));rwa [qH]at this
 have hK1:W1.heap[w.heap.size]?=some (.deferred (some [])):=by
  rw[<- hW1];exact(Below.heap_alloc _ _ _ (by simp)).trans (World.alloc_heap_new w _)
 have hb1:Below w.heap.size w W1:=by
  rw[<- hW1];exact((Below.refl _ w).alloc (qL _) _).alloc (by simp) _
 have hbase:S.w0.heap.size<=w.heap.size:=hd1.low.size;have hne1:∀d∈a.defers,d.target≠.collected w.heap.size:=λd hd e=>by
  rcases hd1.df.2 d hd with⟨_,g⟩|⟨k,g1,_,g3,_⟩;exact g _ e;rw[g1]at e;injection e with e
  have:=hd1.dlt k g3;omega
 have hd2:aL S (sp.st x0).sig {a with defers:={target:=.collected w.heap.size,args:=#[]}::a.defers} W1 (λb=>D1 b\/b=w.heap.size) E1:=by
  refine(hd1.world (D':=λb=>D1 b\/b=w.heap.size) hb1 (λb=>⟨λg=>?_,λg=>?_⟩) (λb g=>?_)).mark hnod hbase (.inr rfl) hK1 hne1;rcases g with g|g;exact .inl g;exact .inr ⟨⟨Z,Z⟩,.inr g⟩;rcases g with g|⟨_,g⟩;exact .inl g;exact g;rcases g with g|g;have:=hd1.dlt b g;omega;omega
 refine⟨w.heap.size+1,[{target:=.collected w.heap.size,args:=#[]}],W1,{target:=.fn (.func gf) cs.toArray,args:=#[.func (.yield (w.heap.size+1)) #[] #[]]},W1,gf,
  #[.func (.yield (w.heap.size+1)) #[] #[]]++cs.toArray,W1,?_,?_,?_,?_⟩
 rw[<- hW1,hrec];exact run_enterLoop_outer _ _ _ _ _;simp only[resolve,hga];simp[go_sem];have:=mF (P:=S.P) (by rw[<- H.P];exact hgoes) W1 (#[.func (.yield (w.heap.size+1)) #[] #[]]++cs.toArray);simp only[invoke];exact this;have hcaps1:AV.namesL caps=[]->AV.relL S.P ⟨W1,(λb=>D1 b\/b=w.heap.size),noM,noE⟩ caps cs:=λhnm=>
  AV.relL_mono (C:=⟨w,D,s.sig.m,E⟩) (C':=⟨W1,(λb=>D1 b\/b=w.heap.size),noM,noE⟩) ⟨λb g=>.inl (up1 b g),λb g=>hb1.block b (hd.dlt b g)⟩ (λk hk=>by rw[hnm]at hk;cases hk) hcaps
 have hl2:∀b,D1 b\/b=w.heap.size->b≠w.heap.size+1:=λb g e=>by
  rcases g with g|g;have:=hd1.dlt b g;omega;omega
 have he2:¬aC (sp.st x0).sig.m E1 (w.heap.size+1):=λg0=>by
  have:=(hd1.ownAll g0).2.1;omega
 have hsz0:a.tmps.size=S.N:=hd.sz;obtain⟨J,hJ⟩:∃J:Nat->World->(Nat->Prop)->(Nat->Prop)->Prop,J=λk W Dit V=>∃x D E,sp.inv x/\sp.μ x=k/\
   aL S (sp.st x).sig {a with defers:={target:=.collected w.heap.size,args:=#[]}::a.defers} W D E/\(∀b,Dit b->D b)/\
   W.heap[w.heap.size+1]?=some (.loop (rec .ready none))/\¬D (w.heap.size+1)/\¬aC (sp.st x).sig.m E (w.heap.size+1)/\(sp.st x).tm.length=S.N/\(∀b,V b->w.heap.size+1<b/\b<W.heap.size/\¬D b/\¬aC (sp.st x).sig.m E b):=⟨_,rfl⟩
 obtain⟨JX,hJX⟩:∃JX:World->(Nat->Prop)->(Nat->Prop)->Prop,JX=λW Dit V=>∃cc s2 D E,((cc=Code.ret/\Q .ret s2)\/∃i,cc=Code.exit i/\Q (.exit i) s2)/\s2.tm.length=S.N/\
   aL S s2.sig {a with defers:={target:=.collected w.heap.size,args:=#[]}::a.defers} W D E/\(∀b,Dit b->D b)/\
   W.heap[w.heap.size+1]?=some (.loop (rec .done (some cc)))/\¬D (w.heap.size+1)/\¬aC s2.sig.m E (w.heap.size+1)/\(∀b,V b->w.heap.size+1<b/\b<W.heap.size/\¬D b/\¬aC s2.sig.m E b):=⟨_,rfl⟩
 obtain⟨JP,hJP⟩:∃JP:List PanicEntry->World->(Nat->Prop)->(Nat->Prop)->Prop,JP=λch W _ V=>∃s2 D E,Q (.panic ch) s2/\s2.tm.length=S.N/\
   aL S s2.sig {a with defers:={target:=.collected w.heap.size,args:=#[]}::a.defers} W D E/\(∀b,V b->w.heap.size+1<b/\b<W.heap.size/\¬D b/\¬aC s2.sig.m E b):=⟨_,rfl⟩
 have grow:∀{W W2:World}{σ:Sig}{D:Nat->Prop}{E:Nat->Ent},aL S σ {a with defers:={target:=.collected w.heap.size,args:=#[]}::a.defers} W D E->Below W.heap.size W W2->∀X:Nat->Prop,
   aL S σ {a with defers:={target:=.collected w.heap.size,args:=#[]}::a.defers} W2 (λb=>D b\/(gv W W2 b/\¬X b)) E:=λ{W W2 σ D E} h hb X=>
  h.world (D':=λb=>D b\/(gv W W2 b/\¬X b)) hb (λb=>⟨λg=>g.imp id λg=>⟨g.1,.inr g⟩,λg=>g.elim .inl (·.2)⟩) λb g=>by
   rcases g with g|g;exact qK (h.dlt b g) hb.size;exact g.1.2
 have notAll:∀{W:World}{σ:Sig}{D:Nat->Prop}{E:Nat->Ent},aL S σ {a with defers:={target:=.collected w.heap.size,args:=#[]}::a.defers} W D E->∀b,W.heap.size<=b->¬aC σ.m E b:=λh b hb g=>by
  have:=(h.ownAll g).2.1;omega
 have hbase0:S.w0.heap.size<=w.heap.size:=hbase;refine(WX H.I hgf hki hpre (w.heap.size+1) J JX JP W1 (λb=>D1 b\/b=w.heap.size) cs (λb g=>?_) ?_ hcaps1 (λhnm=>⟨?_,(hlo hnm).1,?_⟩) ?_ ?_ ?_ ?_ ?_ ?_ ?_ ?_ ?_).mono ?_;rcases g with g|g;have:=hd1.dlt b g;omega;omega;exact jG.mono (C:=⟨w,D,s.sig.m,E⟩) (C':=⟨W1,(λb=>D1 b\/b=w.heap.size),noM,noE⟩) ⟨λb g=>.inl (up1 b g),λb g=>hb1.block b (hd.dlt b g)⟩ hd.gl;subst hJ;rintro k W Dit V ⟨x,D',E',j1,j2,L,_⟩;obtain⟨capx,q1,q2⟩:=Ot ((hlo hnm).2 x j1);have hv:=dX L g;rw[<- H.G,q1]at hv;obtain⟨cs',g1,g2⟩:=hv;have g1':a.eval g=.func (.func gf) #[] cs'.toArray:=g1;rw[hga]at g1';have e:cs=cs':=by
  have:=(Value.func.injEq ..▸g1':_/\_/\_).2.2;simpa using yF Array.toList this
 subst e;refine⟨yt (sp.st x).sig.m E' D',λb hb=>?_,jG.mono (C:=⟨W,D',(sp.st x).sig.m,E'⟩) (C':=⟨W,yt (sp.st x).sig.m E' D',noM,noE⟩) ⟨λ_ g=>.inl g,λ_ _=>rfl⟩ L.gl,q2▸G2 L g2⟩;rcases hb with hb|⟨nm,blk,b1,b2,rfl⟩;exact L.dlt b hb;exact(L.own nm blk b1 b2).2.1;subst hJX;rintro W Dit V ⟨cc,s2,D',E',j1,j2,L,_⟩;exact⟨D',L.dlt,jG.mono (C:=⟨W,D',s2.sig.m,E'⟩) (C':=⟨W,D',noM,noE⟩) ⟨λ_ g=>g,λ_ _=>rfl⟩ L.gl⟩;subst hJ;rintro k W W2 Dit V ⟨x,D',E',j1,j2,L,j4,j5,j6,j7,j8,j9⟩ hb X;have hlt:w.heap.size+1<W.heap.size:=(qJ.1 j5).1;refine⟨x,_,E',j1,j2,grow L hb X,λb g=>g.imp (j4 b) (λg=>g),(hb.block _ hlt).trans j5,λg=>?_,j7,j8,λb g=>?_⟩;rcases g with g|g;exact j6 g;have:=g.1.1;omega;rcases g with g|⟨g,gx⟩;obtain⟨v1,v2,v3,v4⟩:=j9 b g;refine⟨v1,qK v2 hb.size,λg2=>?_,v4⟩;rcases g2 with g2|g2;exact v3 g2;have:=g2.1.1;omega;refine⟨qK hlt g.1,g.2,λg2=>?_,notAll L b g.1⟩;rcases g2 with g2|g2;have:=L.dlt b g2;have:=g.1;omega;exact g2.2 gx;subst hJ;rintro k W Dit Dit2 V V2 ⟨x,D',E',j1,j2,L,j4,j5,j6,j7,j8,j9⟩ hsub hsubV;exact⟨x,D',E',j1,j2,L,λb g=>j4 b (hsub b g),j5,j6,j7,j8,λb g=>j9 b (hsubV b g)⟩;subst hJ;rintro k W W2 Dit V ⟨x,D',E',j1,j2,L,j4,j5,j6,j7,j8,j9⟩ hc hsz;have hlt:w.heap.size+1<W.heap.size:=(qJ.1 j5).1;refine⟨x,D',E',j1,j2,L.lay hc hsz λb g=>?_,j4,(hc.block _ hlt λg=>?_).trans j5,j6,j7,j8,λb g=>?_⟩;obtain⟨v1,v2,v3,v4⟩:=j9 b g;exact⟨Z,v3,v4⟩;have:=(j9 _ g).1;omega;rw[hsz];exact j9 b g
 subst hJX;rintro W W2 Dit V ⟨cc,s2,D',E',j1,j2,L,j4,j5,j6,j7,j9⟩ hb X;have hlt:w.heap.size+1<W.heap.size:=(qJ.1 j5).1;refine⟨cc,s2,_,E',j1,j2,grow L hb X,λb g=>g.imp (j4 b) (λg=>g),(hb.block _ hlt).trans j5,λg=>?_,j7,λb g=>?_⟩;rcases g with g|g;exact j6 g;have:=g.1.1;omega;rcases g with g|⟨g,gx⟩;obtain⟨v1,v2,v3,v4⟩:=j9 b g;refine⟨v1,qK v2 hb.size,λg2=>?_,v4⟩;rcases g2 with g2|g2;exact v3 g2;have:=g2.1.1;omega;refine⟨qK hlt g.1,g.2,λg2=>?_,notAll L b g.1⟩;rcases g2 with g2|g2;have:=L.dlt b g2;have:=g.1;omega;exact g2.2 gx;subst hJX;rintro W Dit Dit2 V V2 ⟨cc,s2,D',E',j1,j2,L,j4,j5,j6,j7,j9⟩ hsub hsubV;exact⟨cc,s2,D',E',j1,j2,L,λb g=>j4 b (hsub b g),j5,j6,j7,λb g=>j9 b (hsubV b g)⟩;subst hJX;rintro W W2 Dit V ⟨cc,s2,D',E',j1,j2,L,j4,j5,j6,j7,j9⟩ hc hsz;have hlt:w.heap.size+1<W.heap.size:=(qJ.1 j5).1;refine⟨cc,s2,D',E',j1,j2,L.lay hc hsz λb g=>?_,j4,(hc.block _ hlt λg=>?_).trans j5,j6,j7,λb g=>?_⟩;obtain⟨v1,v2,v3,v4⟩:=j9 b g;exact⟨Z,v3,v4⟩;have:=(j9 _ g).1;omega;rw[hsz];exact j9 b g;subst hJP;rintro ch W W2 Dit V ⟨s2,D',E',j1,j2,L,j9⟩ hc hsz;refine⟨s2,D',E',j1,j2,L.lay hc hsz λb g=>?_,λb g=>?_⟩;obtain⟨v1,v2,v3,v4⟩:=j9 b g;exact⟨Z,v3,v4⟩;rw[hsz];exact j9 b g
 ·
  intro k y W Dit V vs hy hj hltd hu;rw[hJ]at hj;obtain⟨x,D',E',j1,j2,L,j4,j5,j6,j7,j8,j9⟩:=hj;have hlt:w.heap.size+1<W.heap.size:=(qJ.1 j5).1;have hpl:pl.length=(Jn it.t y).length:=(V9 hone).symm;have hvl:vs.length=pl.length:=by rw[hpl];exact(AV.relL_length hu).symm
  have hpsz:ps.size=vs.toArray.size:=by
   have e:ps.size=pl.length:=by rw[<- hps,vI]
   rw[e,xB,hvl]
  have hyl:=run_yield (P:=S.P) (args:=vs.toArray) j5 (by rw[hrec];simpa using hpsz.symm);rw[hrec]at hyl;obtain⟨tq,htq⟩:∃tq:Array Value,tq=(pl.zip vs).foldl (λt (p,v)=>t.setIfInBounds p v) a.tmps:=⟨_,rfl⟩;have htm:(ps.zip vs.toArray).foldl (λt (p,v)=>t.setIfInBounds p v) a.tmps=tq:=by
   have e:ps=pl.toArray:=by apply yR;rw[hps]
   rw[e,htq,List.zip_toArray,List.foldl_toArray]
  refine⟨fn,_,qz,b,hyl,?_⟩;rw[htm];refine Lh hfn ?_;have hu':AV.relL S.P ⟨W,D',(sp.st x).sig.m,E'⟩ (Jn it.t y) vs:=AV.relL_mono (C:=⟨W,Dit,noM,noE⟩) (C':=⟨W,D',(sp.st x).sig.m,E'⟩) ⟨j4,λ_ _=>rfl⟩ (λnm g=>by rw[Ag]at g;cases g) hu;have tqs:tq.size=a.tmps.size:=by
   rw[htq];generalize a.tmps=t0;induction pl.zip vs generalizing t0 with
   |nil=>rfl|cons q r ih=>rw[kS,ih];simp
  have tms:∀t,((FO pl it.t y (sp.st x)).sig.T t).rel S.P ⟨W,D',(sp.st x).sig.m,E'⟩ (tq.getD t undef):=by
   rw[htq];exact ID hpl hu' (by rw[j8,hsz0]) (λp g=>by rw[j8,<- hl];exact hp p g) L.tm
  have svs:AV.relL S.P ⟨W,D',(sp.st x).sig.m,E'⟩ (sp.st x).tm a.tmps.toList:=by
   refine AV.relL_mk (by rw[j8,vI,hsz0]) λi av v hi hv=>?_;have:=L.tm i;have e1:(sp.st x).sig.T i=av:=by show(sp.st x).tm.getD i .top=av;rw[qA,hi];rfl
   have e2:a.tmps.getD i undef=v:=by
    rw[qP];simp only[yB]at hv;rw[hv];rfl
   rw[e1]at this;simpa only[e2]using this
  have hent:=L.enter (w.heap.size+1) (tm:=(FO pl it.t y (sp.st x)).sig.T) (tmps:=tq) (by rw[tqs];exact hsz0) tms (AV.relL_append svs L.svr);obtain⟨Sr,f⟩:∃Sr:Base,Sr={P:=S.P,w0:=W,D0:=D',N:=S.N,O:=aC (sp.st x).sig.m E',G:=S.G,sv:=a.tmps.toList++S.sv,rd:=some (w.heap.size+1),nod:=true}:=⟨_,rfl⟩;rw[<- f]at hent;have hNpos:S.N<=(a.tmps.toList++S.sv).length:=by
   rw[qG,vI,hsz0];omega
  have HOr:OkS c Sr:=by
   subst f;exact⟨H.P,H.G,H.K,H.I,H.m,λ_=>hNpos,λh=>(by cases h),H.KP⟩
  have hrr:Sr.rd=some (w.heap.size+1):=by rw[f]
  have hrx:=hround x y j1 (by rw[j2];exact hy);have hlr:(FO pl it.t y (sp.st x)).tm.length=Sr.N:=by
   subst f;show(IG pl (Jn it.t y) (sp.st x).tm).length=S.N;rw[IE];exact j8
  rw[<- hrr];have hPr:Sr.P=S.P:=by rw[f]
  rw[<- hPr];refine iha _ _ hrx Sr _ HOr hlr (λe s1 hq hl1 a1 w1 hs1=>?_) _ W ⟨D',E',hent⟩;cases e<;>first
   |exact hq.elim
   |skip
  obtain⟨D3,E3,h3⟩:=hs1;have nl3:¬D3 (w.heap.size+1):=λg=>by
   have:=h3.dhi _ g;rw[f]at this;rcases this with g1|g1|g1;exact j6 g1;simp only at g1;omega;exact j7 g1
  have ne3:¬aC s1.sig.m E3 (w.heap.size+1):=λg0=>by
   have:=(h3.ownAll g0).1;rw[f]at this;rcases this with g4|g4;simp only at g4;omega;exact j7 g4
  have hl3:w1.heap[w.heap.size+1]?=some (.loop (rec .ready none)):=by
   have:=h3.low.block (w.heap.size+1) (by rw[f];exact hlt) (by rw[f];exact j7);rw[this,f];exact j5
  have out3:∀q,q<W.heap.size->¬D' q->¬aC (sp.st x).sig.m E' q->¬D3 q/\¬aC s1.sig.m E3 q/\w1.heap[q]?=W.heap[q]?:=λq q1 q2 q3=>by
   refine⟨λg=>?_,λg=>?_,?_⟩;have:=h3.dhi _ g;rw[f]at this;rcases this with g1|g1|g1;exact q2 g1;simp only at g1;omega;exact q3 g1;have:=(h3.ownAll g).1;rw[f]at this;rcases this with g4|g4;simp only at g4;omega;exact q3 g4;have:=h3.low.block q (by rw[f];exact q1) (by rw[f];exact q3);rw[this,f]
  have hdef3:a1.defers=[]:=(h3.df.1.1 (by rw[f])).trans (by rw[f]);have hlt3:w.heap.size+1<w1.heap.size:=(qJ.1 hl3).1;have hbr:=run_beginRound (P:=S.P) hl3 (by rw[hrec]);refine⟨_,hPr▸hbr,?_⟩;have h4:=h3.again (.loop {rec .ready none with state:=.busy}) (by rw[f]) hdef3 nl3 ne3;obtain⟨Sq,u⟩:∃Sq:Base,Sq={Sr with w0:=w1.putObj (w.heap.size+1) (.loop {rec .ready none with state:=.busy}),D0:=D3,O:=aC s1.sig.m E3}:=⟨_,rfl⟩;rw[<- u]at h4;have HOq:OkS c Sq:=by
   rw[u];exact⟨HOr.P,HOr.G,HOr.K,HOr.I,HOr.m,HOr.rd,HOr.nod,HOr.KP⟩
  have hrq:Sq.rd=Sr.rd:=by rw[u]
  have hPq:Sq.P=Sr.P:=by rw[u]
  rw[<- hrq,<- hPq];have hlq:s1.tm.length=Sq.N:=by rw[u];exact hl1
  refine ihb _ _ hq Sq _ HOq hlq (λe s2 hq2 hl2 a2 w2 hs2=>?_) _ _ ⟨D3,E3,h4⟩;obtain⟨D5,E5,h5⟩:=hs2;have nl5:¬D5 (w.heap.size+1):=λg=>by
   have:=h5.dhi _ g;rw[u]at this;rcases this with g1|g1|g1;exact nl3 g1;simp only[World.putObj_size]at g1;omega;exact ne3 g1
  have ne5:¬aC s2.sig.m E5 (w.heap.size+1):=λg0=>by
   have:=(h5.ownAll g0).1;rw[u]at this;rcases this with g4|g4;simp only[World.putObj_size]at g4;omega;exact ne3 g4
  have hl5:w2.heap[w.heap.size+1]?=some (.loop {rec .ready none with state:=.busy}):=by
   have:=h5.low.block (w.heap.size+1) (by rw[u];simpa using hlt3) (by rw[u];exact ne3);rw[this,u];exact World.putObj_heap_same hlt3
  have out5:∀q,q<W.heap.size->¬D' q->¬aC (sp.st x).sig.m E' q->q≠w.heap.size+1->¬D5 q/\¬aC s2.sig.m E5 q/\w2.heap[q]?=W.heap[q]?:=λq q1 q2 q3 q4=>by
   obtain⟨o1,o2,o3⟩:=out3 q q1 q2 q3;have sz1:W.heap.size<=w1.heap.size:=by have:=h3.low.size;rw[f]at this;exact this
   refine⟨λg=>?_,λg=>?_,?_⟩;have:=h5.dhi _ g;rw[u]at this;rcases this with g1|g1|g1;exact o1 g1;simp only[World.putObj_size]at g1;omega;exact o2 g1;have:=(h5.ownAll g).1;rw[u]at this;rcases this with g4|g4;simp only[World.putObj_size]at g4;omega;exact o2 g4;have:=h5.low.block q (by rw[u];simpa using qK q1 sz1) (by rw[u];exact o2);rw[this,u,<- o3];exact World.putObj_heap_other q4
  have outV:∀q,V q->w.heap.size+1<q/\q<W.heap.size/\¬D5 q/\¬aC s2.sig.m E5 q/\w2.heap[q]?=W.heap[q]?:=λq g=>by
   obtain⟨v1,v2,v3,v4⟩:=j9 q g;exact⟨v1,v2,out5 q v2 v3 v4 Z⟩
  have keepD:∀j,D' j->w2.heap[j]?=W.heap[j]?:=λj A=>by
   have hbl:j<W.heap.size:=L.dlt j A;have no1:¬aC (sp.st x).sig.m E' j:=λg0=>(L.ownAll g0).2.2 A;have e1:w1.heap[j]?=W.heap[j]?:=by
    have:=h3.low.block j (by rw[f];exact hbl) (by rw[f];exact no1);rw[this,f]
   have hd3:D3 j:=h3.dlo j (by rw[f];exact A);have no3:¬aC s1.sig.m E3 j:=λg0=>(h3.ownAll g0).2.2 hd3;have hb3:j<w1.heap.size:=h3.dlt j hd3;have e2:w2.heap[j]?=(w1.putObj (w.heap.size+1) (.loop {rec .ready none with state:=.busy})).heap[j]?:=by
    have:=h5.low.block j (by rw[u];simpa using hb3) (by rw[u];exact no3);rw[this,u]
   rw[e2,World.putObj_heap_other (λe=>j6 (by rw[<- e];exact A)),e1]
  have subD:∀j,D' j->D5 j:=λj A=>h5.dlo j (by rw[u];exact h3.dlo j (by rw[f];exact A));have own1:∀j,aC (sp.st x).sig.m E' j->S.w0.heap.size<=j\/S.O j:=λj g0=>(L.ownAll g0).1;have hbW:S.w0.heap.size<=W.heap.size:=L.low.size;have own3:∀j,aC s1.sig.m E3 j->S.w0.heap.size<=j\/S.O j:=λj g0=>by
   have:=(h3.ownAll g0).1;rw[f]at this;rcases this with g4|g4;simp only at g4;exact .inl Z;exact own1 j g4
  have sz31:W.heap.size<=w1.heap.size:=by have:=h3.low.size;rw[f]at this;exact this
  have sz52:w1.heap.size<=w2.heap.size:=by have:=h5.low.size;rw[u]at this;simpa using this
  have low1:Chg S.O S.w0 w1:=L.low.step (by have:=h3.low.os;rw[f]at this;exact this) (by have:=h3.low.tape;rw[f]at this;exact this) (by have:=h3.low.output;rw[f]at this;exact this) sz31 λq hq hno=>by
   have:=h3.low.block q (by rw[f];exact qK hq hbW) (by
    rw[f];intro g;rcases own1 q g with g|g;omega;exact hno g)
   rw[this,f]
  have low2:Chg S.O S.w0 w2:=low1.step (by have:=h5.low.os;rw[u]at this;exact this) (by have:=h5.low.tape;rw[u]at this;exact this) (by have:=h5.low.output;rw[u]at this;exact this) sz52 λq hq hno=>by
   have:=h5.low.block q (by rw[u];simpa using(by omega:q<w1.heap.size)) (by
    rw[u];intro g;rcases own3 q g with g|g;omega;exact hno g)
   rw[this,u];exact World.putObj_heap_other Z
  have dh:∀j,D5 j->S.D0 j\/S.w0.heap.size<=j\/S.O j:=λj A=>by
   have h6:=h5.dhi j A;rw[u]at h6;rcases h6 with g|g|g;have h7:=h3.dhi j g;rw[f]at h7;rcases h7 with g|g|g;exact L.dhi j g;simp only at g;exact .inr (.inl Z);exact(own1 j g).elim (λg=>.inr (.inl g)) (λg=>.inr (.inr g));simp only[World.putObj_size]at g;exact .inr (.inl Z);exact(own3 j g).elim (λg=>.inr (.inl g)) (λg=>.inr (.inr g))
  have hmarks:Marks S.nod S.w0.heap.size D5 w2 S.gd ({target:=.collected w.heap.size,args:=#[]}::a.defers):=
   ⟨L.df.1,λd hd=>by
    rcases L.df.2 d hd with g|⟨q,q1,q2,q3,q4⟩;exact .inl g;refine .inr ?_;exact⟨q,q1,q2,subD q q3,(keepD q q3).trans q4⟩⟩
  have hNS:s2.tm.length=S.N:=by rw[hl2,u,f]
  have hout:aL S (oq s2).sig {a with defers:={target:=.collected w.heap.size,args:=#[]}::a.defers} w2 D5 E5:=
   by
   have h9:=h5.leaveN (S:=S) (a0:={a with defers:={target:=.collected w.heap.size,args:=#[]}::a.defers}) (by rw[u,f]) (by rw[u,f]) (by rw[u,f]) hsz0 (λj g=>by
    rw[u]at g;rcases g with g|g;simp only[World.putObj_size]at g;exact .inl Z;exact own3 j g) low2 (λj g=>subD j (L.dlo j g)) dh hmarks
   unfold oq;rw[hNS];exact h9
  have hlun:(oq s2).tm.length=S.N:=by
   have:=AV.relL_length h5.svr;show(s2.sv.take s2.tm.length).length=S.N;have e:s2.sig.sv=s2.sv:=rfl;rw[e]at this;rw[qO,this,hNS,u,f,qG,vI,hsz0];omega
  have hbase2:S.w0.heap.size<=w.heap.size+1:=Z;have hput:=λ(o:Obj)=>hout.putL (l:=w.heap.size+1) o hbase2 nl5 ne5;have hlt5:w.heap.size+1<w2.heap.size:=(qJ.1 hl5).1;have sameD:∀(o:Obj) (j:Nat),D' j->(w2.putObj (w.heap.size+1) o).heap[j]?=W.heap[j]?:=λo j A=>by
   rw[World.putObj_heap_other (λe=>j6 (by rw[<- e];exact A))];exact keepD j A
  have szo:∀o:Obj,W.heap.size<=(w2.putObj (w.heap.size+1) o).heap.size:=λo=>by simp;omega
  have sameV:∀(o:Obj) (j:Nat),Dit j\/V j->(w2.putObj (w.heap.size+1) o).heap[j]?=W.heap[j]?:=λo j A=>by
   rcases A with A|A;exact sameD o j (j4 j A);obtain⟨v1,_,_,_,v5⟩:=outV j A;rw[World.putObj_heap_other Z];exact v5
  have fin:∀(jump:Option Code),(Instr.endRound (w.heap.size+1) jump).run S.P w2=.ok (.bool jump.isNone) (w2.putObj (w.heap.size+1) (.loop (rec (if jump.isNone then .ready else .done) jump))):=λjump=>by
   have:=run_endRound (P:=S.P) jump hl5;rw[hrec]at this ⊢;exact this
  have stop:∀cc,((cc=Code.ret/\Q .ret (oq s2))\/∃i,cc=Code.exit i/\Q (.exit i) (oq s2))->
    ∃v w',(Instr.endRound (w.heap.size+1) (some cc)).run S.P w2=.ok v w'/\(W.heap.size<=w'.heap.size/\(∀b,Dit b\/V b->w'.heap[b]?=W.heap[b]?)/\
     ((Ending.returned v=.returned (.bool true)/\J (k+1) w' Dit V)\/(Ending.returned v=.returned (.bool false)/\JX w' Dit V)\/∃ch,Ending.returned v=.panicked ch/\JP ch w' Dit V)):=λcc hcc=>by
   refine⟨_,_,fin (some cc),szo _,sameV _,.inr (.inl ⟨rfl,?_⟩)⟩;rw[hJX];exact⟨cc,oq s2,D5,E5,hcc,hlun,hput _,λj A=>subD j (j4 j A),World.putObj_heap_same hlt5,nl5,ne5,λb g=>by
    obtain⟨v1,v2,v3,v4,_⟩:=outV b g;exact⟨v1,qK v2 (szo _),v3,v4⟩⟩
  have hPP:Sq.P=S.P:=by rw[hPq,hPr]
  rw[hPP];cases e with
  |normal=>
   obtain⟨z,z1,z2,z3⟩:=hq2;obtain⟨D6,E6,h6,hlz,u6,n6,b6⟩:=RO (hle _ _ z3) (hput (.loop (rec .ready none)));refine⟨_,_,fin none,szo _,sameV _,.inl ⟨rfl,?_⟩⟩;rw[hJ];refine⟨z,D6,E6,z1,Z,h6,λj A=>u6 j (subD j (j4 j A)),World.putObj_heap_same hlt5,λg=>?_,λg=>ne5 (b6 _ g),?_,λb g=>?_⟩;rcases n6 _ g with g|g;exact nl5 g;exact ne5 g;rw[<- hlz];exact hlun;obtain⟨v1,v2,v3,v4,_⟩:=outV b g;refine⟨v1,qK v2 (szo _),λg2=>?_,λg2=>v4 (b6 _ g2)⟩;rcases n6 _ g2 with g2|g2;exact v3 g2;exact v4 g2
  |ret=>exact stop .ret (.inl ⟨rfl,hq2⟩)|exit i=>exact stop (.exit i) (.inr ⟨i,rfl,hq2⟩)|goto t=>exact hq2.elim|panic ch=>
   refine⟨(h5.df.1.1 (by rw[u,f])).trans (by rw[u,f]),vP sz31 sz52,λj A=>A.elim (λg=>keepD j (j4 j g)) λg=>(outV j g).2.2.2.2,.inr (.inr ⟨ch,rfl,?_⟩)⟩;rw[hJP];exact⟨oq s2,D5,E5,hq2,hlun,hout,λb g=>by
    obtain⟨v1,v2,v3,v4,_⟩:=outV b g;exact⟨v1,qK v2 (vP sz31 sz52),v3,v4⟩⟩
  |outgrown=>exact hq2.elim
 rw[hJ];exact⟨x0,_,E1,i1,i2,hd2,λ_ g=>g,hL1,λg=>hl2 _ g rfl,he2,by rw[<- hlen0];exact hl,λ_ g=>g.elim⟩
 ·
  rintro e W2 (⟨⟨v,rfl⟩,hj⟩|⟨ch,rfl,D2,V2,hj⟩);case inr=>
   rw[hJP]at hj;obtain⟨s2,D',E',q1,q2,q3,_⟩:=hj;exact hR (.panic ch) s2 q1 q2 _ _ ⟨D',E',q3⟩
  rcases hj with⟨D2,hj⟩|⟨D2,hj⟩;rw[hJ]at hj;obtain⟨x,D',E',j1,j2,L,j4,j5,j6,j7,j8,_⟩:=hj;have hel:=run_endLoop (P:=S.P) j5 (by rw[hrec];simp);refine⟨none,_,(by rw[hrec]at hel;exact hel),?_⟩;exact hR .normal (sp.st x) (hdone x j1 j2) j8 _ _ ⟨D',E',L.putL _ Z j6 j7⟩;rw[hJX]at hj;obtain⟨cc,s2,D',E',j1,j2,L,j4,j5,j6,j7,_⟩:=hj;have hel:=run_endLoop (P:=S.P) j5 (by rw[hrec];simp);refine⟨some cc,_,(by rw[hrec]at hel;exact hel),?_⟩;rcases j1 with⟨rfl,hq⟩|⟨i,rfl,hq⟩;exact Ua (F:=Fence.wide) (n:=0) rfl (λ_=>trivial) rfl (wpIn_ret (hR .ret s2 hq j2 _ _ ⟨D',E',L.putL _ Z j6 j7⟩));exact Ua (F:=Fence.wide) (n:=0) rfl (λ_=>trivial) rfl (wpIn_exit (hR (.exit i) s2 hq j2 _ _ ⟨D',E',L.putL _ Z j6 j7⟩))
theorem aL.slot{S:Base}{s:St}{a:Act}{w:World}{D:Nat->Prop}{E:Nat->Ent}(h:aL S s.sig a w D E){d:Option Tmp}{v:Value}{x:AV}(u:s.tm.length=S.N)(hd:nG d s.tm.length=true)
  (y:x.rel S.P ⟨w,D,s.sig.m,E⟩ v):aL S (setSlot d x s).sig (a.put d v) w D E:=by
 have f:∀t,d=some t->t<S.N:=λt e=>by subst e;unfold nG at hd;rw[<- u];simpa using hd
 have z:=h.put (d:=d) (v:=v) (x:=x) f y;have e:(setSlot d x s).sig=⟨upT s.sig.T d x,s.sig.m,s.sig.sv⟩:=by
  unfold St.sig setSlot;congr 1;funext t;cases d with
  |none=>simp[upT]|some d=>
   unfold upT;have j:d<s.tm.length:=by rw[u];exact f d rfl
   by_cases e:t=d;subst e;simp[qA,j];have:¬d=t:=λg=>e g.symm;simp[qA,vS,this,e]
 rw[e];exact z
variable {ns:List Ob}{m:Nat->Option Blk}
theorem N7{T:Nat->AV}{g:Bool}{o:Op}{r:DR}{f:List Nat}(h:yj c T m g o=some (ns,r,f)):∀d,o≠.defer d:=λd e=>by rw[e]at h;cases h
theorem Jo{T T':Nat->AV}{g:Bool}{o:Op}(h:∀x∈o.operands.toList,evT c.G T' x=evT c.G T x):yj c T' m g o=yj c T m g o:=by
 unfold yj;split;rename_i x;rw[h x (by simp[Op.operands])];rename_i f args _;have e:jJ c T' g args.toList=jJ c T g args.toList:=by
  unfold jJ;apply zY;intro x j;rw[h x (by simp[Op.operands,Call.operands];exact .inr (by simpa using j))]
 rw[e];rfl
variable {σ:Sig}
theorem zj(y:c.G=S.G)(h:aL S σ a w D E):∀{args:List Operand},(∀q:Ob,q∈(jJ c σ.T true args).flatMap (·.2)->q)->
  AV.relL S.P ⟨w,D,σ.m,E⟩ ((jJ c σ.T true args).map (·.1)) (args.map a.eval)
 |[],_=>rfl|x::args,u=>by
  have j:=dX h x;rw[<- y]at j;refine⟨_,_,rfl,nL (g:=true) rfl (λq f=>u q ?_) j,zj y h λq f=>u q ?_⟩;simp only[jJ,wV,kT,qI];exact .inl f;simp only[jJ,wV,kT,qI];exact .inr f
theorem UP{a:AV}{v u:Value}(h:valOf a=some v)(f:a.rel P C u):u=v:=by
 unfold valOf at h;split at h;split at h;cases h;simpa only[AV.rel,ae,vG,vY]using f;cases h;cases h;exact f;cases h
theorem Rh(H:OkS c S)(hd:aL S σ a w D E){o:Oper}{r:DR}{nms:List Nat}(z:yj c σ.T σ.m true o.op=some (ns,r,nms))(hns:∀q∈ns,q)(hpre:r.pre)
  (hrk:r.ok=false) {K:Act->World->Prop} (hR:∀w',Sim S (C2 nms σ) a w'->R (.panic (chainOf r.pan)) a w'):o.wpIn S.F 0 S.P a w K R:=by
 unfold Oper.wpIn;refine⟨λf _=>S.F_fn f,?_⟩;rw[Oper.semAt_eq _ _ _ (N7 z)];unfold yj at z;split at z;rename_i x L;split at z;case h_2=>cases z
 rename_i t av ns' hx;split at z;case h_2=>cases z
 rename_i v hv;cases z;have j:=dX hd x;rw[<- H.G]at j;have j:=nL (g:=true) rfl (λq hq=>hns q (by rw[hx]at hq;exact hq)) j;rw[hx]at j;obtain⟨u,hu,hur⟩:=j;have hur:=UP hv hur;subst hur;have y:(execOp a.eval o).run S.P w=.halt (.panic (.iface t u)) w:=by
  obtain⟨dst,op,ty,pos,after,guard⟩:=o;simp only at L;subst L;simp only[execOp,hu];rfl
 rw[y];refine hR w ⟨D,E,?_⟩;exact hd.dropped (ns:=[]) ⟨rfl,rfl,rfl,qL _,λ_ _ _=>rfl⟩;rename_i f args at_ L;split at z;case isFalse=>cases z
 rename_i hc;simp only[qE,zD]at hc;obtain⟨_,hgo⟩:=hc;split at z;case h_2=>cases z
 rename_i r' hkp;cases z;have X:=uZ (ts:=lk c.P f) (zj H.G hd hns);rw[<- H.P]at X;have A:=Aa (cN σ.m (AV.namesL (ym c.P (lk c.P f) ((jJ c σ.T true args.toList).map (·.1))))) X;have hG0:jG S.P ⟨w,D,bH (dV σ.m (cN σ.m (AV.namesL (ym c.P (lk c.P f) ((jJ c σ.T true args.toList).map (·.1)))))),E⟩ S.G:=jG.mono (C:=⟨w,D,σ.m,E⟩) ⟨λ_ g=>g,λ_ _=>rfl⟩ hd.gl;rw[H.P]at A;have hcall:=H.KP _ _ _ _ (by rw[H.P]at hkp;exact hkp) hpre hrk w D E (args.toList.map a.eval) hd.dlt (by rw[H.P]at hG0;exact hG0) A (hd.heldOf _);have y:(execOp a.eval o).run S.P w=.ok (.enter f (args.toList.map a.eval).toArray) w:=by
  obtain⟨dst,op,ty,pos,after,guard⟩:=o;simp only at L;subst L;have hg2:=mF (P:=S.P) (by rw[<- H.P];exact hgo) w (args.map a.eval);have e1:(args.toList.map a.eval).toArray=args.map a.eval:=by rw[toList_map]
  rw[e1];simp only[execOp,resolve,Act.eval,Deferred.ofValue,wO,yN,wB,invoke,Array.append_empty,qAn];simpa using hg2
 rw[y,Oper.uponIn_enter];refine⟨λh=>(by rw[S.F_depth]at h;cases h),Base.callsIn (hcall.mono λe2 w2 he=>?_)⟩;obtain⟨rfl,hb⟩:=he;refine hR w2 ⟨D,E,?_⟩;rw[H.P];exact hd.dropped hb;cases z
variable {ops:Array Oper}
theorem Jc(H:OkS c S)(hR:∀e s',Q e s'->s'.tm.length=S.N->∀a w,Sim S s'.sig a w->R e a w):
  ∀(os:List Oper) (j:Nat) (s:St),(∀i o,os[i]?=some o->ops[j+i]?=some o)->Yp c ops os s Q->s.tm.length=S.N->∀a w,Sim S s.sig a w->wpOpsIn S.F 0 S.P ops R (List.range' j os.length) a w
 |[],j,s,_,h,hl,a,w,hs=>by
  simp only[yZ,qBt,wpOpsIn];simp only[Yp]at h;exact hR _ s h hl a w hs
 |o::os,j,s,hops,h,hl,a,w,hs=>by
  have ho:ops[j]?=some o:=by simpa using hops 0 o rfl
  have hos:∀i o',os[i]?=some o'->ops[j+1+i]?=some o':=λi o' hi=>by
   have:=hops (i+1) o' (by simpa using hi);rw[show j+1+i=j+(i+1) by omega];exact this
  obtain⟨D,E,hd⟩:=hs;simp only[Yp]at h;split at h;case h_2=>exact h.elim
  rename_i g hge;have L:=CY (o:=o) hd hge;rw[wR,qAw,wpOpsIn_cons];have step:∀{q:Rec},gY c.P c.G c.K (c.mt o) ops s.nx s.sig o=some q->gn q s.tm.length=true/\GL q s=true->all q.need (Yp c ops os (cZ q s) Q)->wpOpIn S.F 0 S.P ops R j (wpOpsIn S.F 0 S.P ops R (List.range' (j+1) os.length)) a w:=by
   intro q y z hall;obtain⟨hns,u⟩:=bK hall;have hdst:∀d,o.dst=some d->d<S.N:=by
    intro d hdd;have e:q.dst=o.dst:=by
     unfold gY at y;split at y;split at y;unfold Jz at y;split at y;cases y;rfl;split at y;cases y;rfl;cases y;cases y;cases y
    have A:=z.1;unfold gn at A;simp only[qE]at A;have:=A.1;rw[e,hdd]at this;rw[<- hl];simpa using this
   have hq':gY S.P S.G c.K (c.mt o) ops s.nx s.sig o=some q:=by rw[<- H.P,<- H.G];exact y
   have:=pu (Q:=R) H.K ho ⟨D,E,hd⟩ hdst hq' hns (λk hk=>by
    have:=z.2;unfold GL at this;rw[hk]at this;exact KG this)
   refine wpOpIn_mono (λa' w' h'=>Jc H hR os (j+1) _ hos u (by rw[jg];exact hl) a' w' ?_) this;show Sim S (cZ q s).sig a' w';rw[gw z.1];exact h'
  split at h
  ·
   rename_i ns r nms X;obtain⟨h1,A⟩:=h;by_cases hpan:g=true/\r.ok=false;obtain⟨rfl,hrk⟩:=hpan;obtain⟨hns,hpre,u⟩:=bK (h1 rfl);have u:=u hrk;unfold wpOpIn;rw[ho];simp only;rw[L];simp only[kE];exact Rh H hd X hns hpre hrk λw' hs'=>hR _ (C0 nms s) u hl a w' (by rw[Il];exact hs');have hgo:g=true->r.ok=true:=λe=>by
    cases hk:r.ok with
    |true=>rfl|false=>exact(hpan ⟨e,hk⟩).elim
   split at A
   ·
    rename_i hisp;have hg:g=false:=by
     cases hg:g with
     |false=>rfl|true=>
      have:=hgo hg;unfold yj at X;split at X;split at X;split at X;cases X;cases this;cases X;cases X;rename_i hop;rw[hop]at hisp;cases hisp;cases X
    split at A;rename_i hnone;have:o.guard=none:=by simpa using hnone
    rw[this]at hge;simp only[Py,vT]at hge;rw[<- hge]at hg;cases hg;obtain⟨hdo,u⟩:=A;unfold wpOpIn;rw[ho];simp only;rw[L,hg];simp only[wF,xM];refine⟨λf _=>S.F_fn f,Jc H hR os (j+1) _ hos (u hg) (by simp[setSlot];split<;>simp[hl]) _ _ ⟨D,E,?_⟩⟩;exact hd.slot hl hdo ⟨λe=>(by rw[hg]at e;cases e),λ_=>rfl⟩
   split at A;case h_2=>exact A.elim
   rename_i q y;split at A;case isFalse=>exact A.elim
   rename_i z;exact step y z (A hgo)
  split at h;case h_2=>exact h.elim
  rename_i q y;split at h;case isFalse=>exact h.elim
  rename_i z;exact step y z h
theorem Eg(t:Nat):∀(ts:List Tmp) (l:List AV),(o8 ts l).getD t .top=if t∈ts then .top else l.getD t .top
 |[],l=>by simp[o8]|d::ts,l=>by
  simp only[o8];rw[Eg t ts];by_cases f:t∈ts;rw[if_pos f,if_pos (wX _ f)];rw[if_neg f];by_cases u:t=d;subst u;rw[if_pos wL,qA,vS];split;split<;>rfl;rename_i j;exact(j rfl).elim;rw[if_neg (λh=>(zK.1 h).elim u f),qA,qA,zW (λe=>u e.symm)]
theorem ZS(h:Sim S σ a w)(hm:σ.m=s.sig.m)(f:σ.sv=s.sig.sv)(j:∀t,σ.T t=s.sig.T t\/t∈ops.toList.filterMap (·.dst)):Sim S (Zn ops s).sig a w:=by
 obtain⟨D,E,hd⟩:=h;obtain⟨T,m,sv⟩:=σ;simp only at hm f j;subst hm f;refine⟨D,E,hd.sz,hd.df,λt=>?_,hd.bl,hd.own,hd.inj,hd.low,hd.dlt,hd.dlo,hd.dhi,hd.gl,hd.svr,hd.pv⟩;show((o8 (ops.toList.filterMap (·.dst)) s.tm).getD t .top).rel S.P _ _;rw[Eg];split;trivial;rename_i u;rcases j t with e|e;have y:=hd.tm t;show(s.sig.T t).rel S.P ⟨w,D,s.sig.m,E⟩ _;rw[<- e];exact y;exact(u e).elim
theorem jN{K:Kt}{mt:Bool}{nx:Nat}{o:Oper}{r:Rec}(h:gY P G K mt ops nx σ o=some r):r.dst=o.dst/\∀x∈o.op.operands.toList,∀t,x=.tmp t->t∈r.reads:=by
 have this:r.dst=o.dst/\r.reads=o.op.operands.toList.flatMap P0++tV ops o.guard:=by
  unfold gY at h;split at h;split at h;unfold Jz at h;split at h;cases h;exact⟨rfl,rfl⟩;split at h;cases h;exact⟨rfl,rfl⟩;cases h;cases h;cases h
 refine⟨this.1,λx f t e=>?_⟩;rw[this.2,qI,xA];exact .inl ⟨x,f,by rw[e];simp[P0]⟩
theorem zw{rs:List Rec}{done:Nat->Bool}{dsts:List Tmp}{s:Sig}:∀n,(∀j r,j<n->done j=true->rs[j]?=some r->r.upd=[]/\∀d,r.dst=some d->d∈dsts)->
  (fE (bW rs) done n s).m=s.m/\(fE (bW rs) done n s).sv=s.sv/\∀t,(fE (bW rs) done n s).T t=s.T t\/t∈dsts
 |0,_=>⟨rfl,rfl,λ_=>.inl rfl⟩|n+1,h=>by
  obtain⟨u,i2,f⟩:=zw n λj r G=>h j r Z;simp only[fE];split;rename_i hd;unfold bW;cases y:rs[n]? with
  |none=>exact⟨u,i2,f⟩|some r=>
   obtain⟨A,z⟩:=h n r Z hd y;simp only[ew];refine⟨?_,i2,λt=>?_⟩;rw[A];exact u;unfold upT;split;rename_i e;exact .inr (z t e.symm);exact f t
  exact⟨u,i2,f⟩
theorem XA(H:OkS c S)(hR:∀e s',Q e s'->s'.tm.length=S.N->∀a w,Sim S s'.sig a w->R e a w)
  (h:aAC c ops s Q) (hl:s.tm.length=S.N) (hs:Sim S s.sig a w) {id:Nat}:(Code.region id ops true).wpIn S.F 0 S.P R a w:=by
 unfold aAC at h;split at h;case h_2=>exact h.elim
 rename_i rs o hrs L;obtain⟨q,hq⟩:∃q,q=ops.toList.findIdx (vt c):=⟨_,rfl⟩;obtain⟨A,htbl⟩:∃A,A=jh [] ops.toList:=⟨_,rfl⟩;rw[<- hq]at L;rw[<- hq,<- htbl]at h;split at h;case isFalse=>exact h.elim
 rename_i hc;obtain⟨k1,k2,k3,k4⟩:=hc;split at h;case h_2=>exact h.elim
 rename_i ns r X hp;obtain⟨hlive,h⟩:=bK h;obtain⟨hns,hpre,hyes,hno⟩:=bK h;obtain⟨f,hat⟩:=uB hrs;have f:rs.length=ops.size:=by simpa using f
 have u:∀(j:Nat) o r,ops[j]?=some o->rs[j]?=some r->gY S.P S.G c.K (aBi c.mb o) ops (fW rs s j).nx (fW rs s j).sig o=some r/\gn r s.tm.length=true:=λj o r L y=>by
  have:=hat j o r (by simpa using L) y;rw[H.P,H.G]at this;exact this
 have hok:∀(j:Nat) (r:Rec),rs[j]?=some r->gn r s.tm.length=true:=λj r y=>by
  have hj:j<ops.size:=by rw[<- f];exact(qC.1 y).1
  exact(u j _ r (wP hj) y).2
 have hqs:q<ops.size:=(qJ.1 L).1;have hdst:∀(j:Nat) o r,ops[j]?=some o->rs[j]?=some r->∀d,o.dst=some d->d<S.N:=λj o r L y d hd=>by
  obtain⟨h1,h2⟩:=u j o r L y;unfold gn at h2;simp only[qE]at h2;have h3:=h2.1;rw[(jN h1).1,hd]at h3;rw[<- hl];simpa using h3
 cases hk:r.ok with
 |true=>
  obtain⟨g1,g2⟩:=bK (hyes hk);have HR:IP S c.K c.mb ops s rs:=⟨f,u,hl,λj r y p hp=>g1 p (xA.2 ⟨r,qZ y,hp⟩)⟩;exact uL H.K H.m HR k1 k2 hs.draw λa' w' hs'=>hR _ _ g2 ((k9 _ _ _).trans hl) a' w' hs'
 |false=>
  refine wpIn_region_any H.m ?_;have z:∀j (r:Rec),rs[j]?=some r->j≠q->(A.getD j 0).testBit q=false->(∀p∈r.need,p)/\r.upd=[]:=λj r y hjq hb=>by
   have hj:=(qC.1 y).1;have e:rs.getD j dflt=r:=wT y;refine⟨λp hp=>hlive p ?_,?_⟩;unfold GV;rw[xA];refine⟨j,by simpa using hj,?_⟩;rw[if_neg (by simp[hjq];rw[<- qAh]at hb;simpa using hb),e];exact hp;unfold Ri at k3;rw[qW]at k3;have:=k3 j (by simpa using hj);rw[e]at this;simp only[yM,yX,hjq,false_or,hb,wF,qE,zD]at this;exact this.1
  refine C3 (mb:=c.mb) (k:=0) (q:=q) H.K f hl (λj o r L y hlv=>⟨(u j o r L y).1,hdst j o r L y,(z j r y hlv.2.1 hlv.2.2).1⟩) hok k1 k2 (λh=>absurd hqs Z)
   (λ_ n listed a1 w1 hsz hqf hcnt hanc hdesc hrok hsim=>?_) ops.size (Array.replicate ops.size false) a _ (by simp) ?_ (λi hi=>Z) (λ_=>?_) (λi j hij hj hb hl=>?_) ?_
  .obtain⟨rq,hrq⟩:∃rq,rs[q]?=some rq:=⟨_,qB (by rw[f];exact hqs)⟩;obtain⟨g1,_⟩:=hrok rq hrq;have hgd:o.guard=none:=by simpa using k4
   obtain⟨D,E,hd⟩:=(show Sim _ _ _ _ from hsim);unfold wpOpIn;rw[L];simp only;rw[show Region.wanted o (yielded ops a1.tmps)=true by unfold Region.wanted;rw[hgd]];simp only[kE];have hqt:=zw (rs:=rs) (done:=λi=>listed.getD i false) (dsts:=ops.toList.filterMap (·.dst)) (s:=s.sig) ops.size λj r hj hdn y=>by
    have hoj:=wP hj;have hjq:j≠q:=λe=>by subst e;rw[hqf]at hdn;cases hdn
    have hb:(A.getD j 0).testBit q=false:=by
     cases hb:(A.getD j 0).testBit q with
     |false=>rfl|true=>have:=hdesc j hb hj;rw[this]at hdn;cases hdn
    refine⟨(z j r y hjq hb).2,λd hd=>?_⟩;rw[(jN (u j _ r hoj y).1).1]at hd;rw[List.mem_filterMap];exact⟨ops[j],by simp,hd⟩
   have hp':yj c (fE (bW rs) (λi=>listed.getD i false) ops.size s.sig).T (fE (bW rs) (λi=>listed.getD i false) ops.size s.sig).m true o.op=some (ns,r,X):=by
    rw[<- hp,hqt.1];refine Jo λx hx=>?_;cases x with
    |tmp t=>exact yF I6 (g1 t ((jN (u q o rq L hrq).1).2 _ hx t rfl))|_=>rfl
   refine Rh H hd hp' hns hpre hk λw' hs'=>hR _ (Zn ops (C0 X s)) (hno hk) ?_ a1 w' (ZS hs' ?_ ?_ ?_);have:∀(ts:List Tmp) (l:List AV),(o8 ts l).length=l.length:=by
    intro ts;induction ts with
    |nil=>intro l;rfl
    |cons d ts ih=>intro l;simp[o8,ih]
   exact(this _ _).trans hl;rw[Il];show(λk=>if X.contains k=true then none else _)=(λk=>if X.contains k=true then none else _);rw[hqt.1];exact hqt.2.1;exact hqt.2.2
  exact vP (gQ _ _) (by simp);rw[qP];simp[hqs];rw[qP]at hl;simp[hj]at hl;have:∀n,fE (bW rs) (λi=>(Array.replicate ops.size false).getD i false) n s.sig=s.sig:=by
   intro n;induction n with
   |zero=>rfl|succ n ih=>
    have:(Array.replicate ops.size false).getD n false=false:=by
     rw[qP];cases h:(Array.replicate ops.size false)[n]? with
     |none=>rfl|some v=>rw[yQ]at h;split at h<;>cases h;rfl
    simp only[fE,this,wF,xM];exact ih
  rw[this];exact hs.draw
theorem xg{v:AV}{u:Value}{b:Bool}(hc:TE v=some (ns,b))(h:∀p∈ns,p)(f:v.rel P C u):u=.bool b:=by
 unfold TE at hc;split at hc;cases hc;simpa only[AV.rel,ae,vG,vY]using f;rename_i g y;cases hc;have j:g=true:=Ob.get h (by simp);simpa only[AV.rel,ae,vG,vY]using f.1 j;cases hc
variable {A:Ann}
theorem lL: ∀(x:Code) (S:Base) (s:St) (Q:Exit->St->Prop) (R:Exit->Act->World->Prop),OkS c S->
  evO c A x s Q->s.tm.length=S.N->(∀e s',Q e s'->s'.tm.length=S.N->∀a w,Sim S s'.sig a w->R e a w)->∀a w,Sim S s.sig a w->At S.P S.rd x R a w
 | .skip,S,s,Q,R,H,h,hl,j,a,w,u=>Ph (wpIn_skip (j _ s h hl a w u))
 | .region id ops draw,S,s,Q,R,H,h,hl,j,a,w,u=>by
  have key:∀s1:St,s1.tm.length=S.N->Sim S s1.sig a w->aDI c ops draw s1 Q->At S.P S.rd (Code.region id ops draw) R a w:=by
   intro s1 hl1 hs1 L;unfold aDI at L;split at L
   .split at L
    .rename_i hdr;subst hdr;exact Ph (XA H j L hl1 hs1)
    .rename_i hdr;have hdr:draw=false:=by simpa using hdr
     subst hdr;refine Ph (wpIn_region ?_);have:=Jc H j ops.toList 0 s1 (λi o ho=>by simpa using ho) L hl1 a w hs1;rw[qAv];simpa using this
   unfold aBf at L;split at L
   .rename_i ns s' he;obtain⟨g1,g2⟩:=bK L;exact Ph (QZ H.P H.G H.K H.m he g1 hl1 hs1 λa' w' f=>j _ s' g2 ((Jk he).trans hl1) a' w' f)
   .exact L.elim
  unfold evO at h;split at h
  .exact key s hl u h
  .rename_i s1 _;split at h
   .rename_i ms hms;obtain⟨g1,g2⟩:=bK h;exact key s1 ((ni hms).symm.trans hl) (EW u hms g1) g2
   .exact h.elim
 | .seq x y,S,s,Q,R,H,h,hl,j,a,w,u=>by
  have key:evO c A x s (λe s'=>match e with | .normal=>evO c A y s' Q | e=>Q e s')->At S.P S.rd (Code.seq x y) R a w:=by
   intro h;refine xF (lL x S s _ _ H h hl (λe s' hq X a' w' f=>?_) a w u);cases e<;>first
    | exact lL y S s' Q R H hq X j a' w' f
    | exact j _ s' hq X a' w' f
  unfold evO at h;split at h
  .split at h
   .rename_i sp _;obtain⟨h1,h2⟩:=h;refine xF (lL x S s _ _ H h1 hl (λe s' hq X a' w' f=>?_) a w u);cases e<;>first
     | (obtain⟨y',g1,g2⟩:=hq;exact lL y S _ Q R H (h2 y' g1) ((vA g2).symm.trans X) j a' w' (Cd g2 f))
     | exact j _ s' hq X a' w' f
   .exact key h
  .exact key h
 | .cond t x y,S,s,Q,R,H,h,hl,j,a,w,u=>by
  unfold evO at h;split at h
  case h_2=>exact h.elim
  rename_i ns b hc;obtain⟨g1,g2,g3⟩:=bK h;obtain⟨D,E,hs0⟩:=id u;have hrel:=dX hs0 t;rw[<- H.G]at hrel;have hb:a.eval t=.bool b:=xg hc g1 hrel;exact Ud hb (λe=>lL x S s Q R H (g2 e) hl j a w u) (λe=>lL y S s Q R H (g3 e) hl j a w u)
 | .block id x,S,s,Q,R,H,h,hl,j,a,w,u=>by
  unfold evO at h;refine ud (lL x S s _ _ H h hl (λe s' hq X a' w' f=>?_) a w u);cases e<;>first
   | exact j _ s' hq X a' w' f
   | (rename_i id'
      simp only[Exit.inBlock];simp only at hq;split at hq
      .rename_i e;rw[if_pos e];exact j _ s' hq X a' w' f
      .rename_i e;rw[if_neg e];exact j _ s' hq X a' w' f)
 | .exit id,S,s,Q,R,H,h,hl,j,a,w,u=>Ph (wpIn_exit (j _ s h hl a w u))
 | .ret,S,s,Q,R,H,h,hl,j,a,w,u=>Ph (wpIn_ret (j _ s h hl a w u))
 | .loop x,S,s,Q,R,H,h,hl,j,a,w,u=>by
  unfold evO at h;split at h
  case h_2=>exact h.elim
  split at h
  case h_2=>exact h.elim
  rename_i sp _;obtain⟨⟨x0,i1,i2⟩,h2⟩:=h;refine at_loop (λn a w=>∃y,sp.inv y/\sp.μ y=n/\(sp.st y).tm.length=S.N/\Sim S (sp.st y).sig a w) (sp.μ x0) ⟨x0,i1,rfl,(vA i2).symm.trans hl,Cd i2 u⟩ ?_;rintro n a w ⟨y,j1,rfl,j2,j3⟩;refine lL x S (sp.st y) _ _ H (X6 h2 y j1) j2 (λe s' hq X a' w' f=>?_) a w j3;cases e<;>first
   | (obtain⟨z,k1,k2,k3⟩:=hq;exact⟨sp.μ z,k3,z,k1,rfl,(vA k2).symm.trans X,Cd k2 f⟩)
   | exact j _ s' hq X a' w' f
 | .rangeFunc g ps x y,S,s,Q,R,H,h,hl,j,a,w,u=>by
  unfold evO at h;split at h
  case h_2=>exact h.elim
  rename_i gf caps rid hev hid;split at h
  case h_2=>exact h.elim
  rename_i it sp hki hsp;exact Yu (λs Q h S R H hl j a w u=>lL x S s Q R H h hl j a w u) (λs Q h S R H hl j a w u=>lL y S s Q R H h hl j a w u) (λ_ _ g=>.inr g) hev hki h S R H hl j a w u
 | .scope x,S,s,Q,R,H,h,hl,j,a,w,u=>by
  unfold evO at h;refine Nv (lL x S s _ _ H h hl (λe s' hq X a' w' f=>?_) a w u);cases e<;>first
   | exact hq.elim
   | exact j _ s' hq X a' w' f
 | .label _,S,s,Q,R,H,h,hl,j,a,w,u=>by
  unfold evO at h;exact Ph (wpIn_label (j _ s h hl a w u))
 | .goto _,S,s,Q,R,_,h,_,_,_,_,_=>by unfold evO at h;exact h.elim
 | .refuse _,S,s,Q,R,_,h,_,_,_,_,_=>by unfold evO at h;exact h.elim
mutual
theorem AV.same_eq:∀{a b:AV},AV.same a b=true->a=b
 |.dat t x,.dat f y,h=>by
  simp only[AV.same]at h;split at h;rename_i e;subst e;rw[(Ty.eqb_iff _ _ _).1 h];cases h
 |.ip t x,.ip f y,h=>by
  simp only[AV.same]at h;split at h;rename_i e;subst e;rw[(Ty.eqb_iff _ _ _).1 h];cases h
 |.ips _,.ips _,h=>yF AV.ips (AV.sameL_eq h)|.agg _,.agg _,h=>yF AV.agg (AV.sameL_eq h)|.tup _,.tup _,h=>yF AV.tup (AV.sameL_eq h)|.ipv _,.ipv _,h=>yF AV.ipv (AV.same_eq h)|.top,.top,_=>rfl
theorem AV.sameL_eq:∀{a b:List AV},AV.sameL a b=true->a=b
 |[],[],_=>rfl|_::_,_::_,h=>by
  simp only[AV.sameL,qE]at h;rw[AV.same_eq h.1,AV.sameL_eq h.2]
end
theorem RJ{m:Mem}(h:JH G g gf caps m s=true)(f:(AV.namesL caps).isEmpty=false):As G g gf s=some (Cc m caps):=by
 unfold JH at h;rw[f,xQ]at h;split at h;rename_i l e;rw[e,AV.sameL_eq h];cases h
theorem VK{u j:St->Option (Exit×St)}{f:St->Bool}{ps:List Tmp}{L:List t.den}{r:Exit×St}(h:Uz u j f ps t L s=some r):f s=true:=by
 cases L<;>(simp only[Uz]at h;split at h<;>first|assumption|cases h)
theorem jO{n:Nat}:∀(x:Code) {s:St}{e:Exit}{s':St},run c A n x s=some (e,s')->∀{Q:Exit->St->Prop},Q e s'->Ok c x s Q
 |.skip,s,e,s',h,Q,u=>λS R H hl hR a w hs=>by
  cases h;exact Ph (wpIn_skip (hR _ _ u hl a w hs))
 |.region id ops draw,s,e,s',h,Q,u=>by
  have key:∀s1:St,IX c ops draw s1=some (e,s')->Ok c (.region id ops draw) s1 Q:=by
   intro s1 h S R H hl hR a w hs;unfold IX at h;split at h;cases h;split at h;rename_i ns s2 he;split at h;rename_i hk;cases h;exact Ph (QZ H.P H.G H.K H.m he (jR hk) hl hs λa' w' f=>hR _ _ u ((Jk he).trans hl) a' w' f);cases h;cases h
  have key2:∀s1:St,FC c ops draw s s1=some (e,s')->Ok c (.region id ops draw) s Q:=by
   intro s1 h;unfold FC at h;split at h;rename_i ms hms;split at h;rename_i hk;exact λS R H hl hR a w hs=>key s1 h S R H ((ni hms).symm.trans hl) hR a w (EW hs hms (jR hk));cases h;cases h
  unfold run at h;split at h;split at h;rename_i hr;cases h;exact key s hr;exact key2 _ h;exact key2 _ h
 |.seq x y,s,e,s',h,Q,u=>λS R H hl hR a w hs=>by
  unfold run at h;split at h;rename_i s1 h1;refine xF (jO x h1 (Q:=λe t=>e=.normal/\t=s1) ⟨rfl,rfl⟩ S _ H hl (λe' t g j a' w' f=>?_) a w hs);obtain⟨rfl,rfl⟩:=g;exact jO y h u S R H j hR a' w' f;rename_i hne;refine xF (jO x h (Q:=λe' t=>e'=e/\t=s') ⟨rfl,rfl⟩ S _ H hl (λe' t g j a' w' f=>?_) a w hs);obtain⟨rfl,rfl⟩:=g;cases e'<;>first
   |exact(hne _ h).elim
   |exact hR _ _ u j a' w' f
 |.cond t x y,s,e,s',h,Q,u=>λS R H hl hR a w hs=>by
  unfold run at h;split at h;case h_2=>cases h
  rename_i ns b hc;split at h;case isFalse=>cases h
  rename_i hk;obtain⟨D,E,hs0⟩:=id hs;have hrel:=dX hs0 t;rw[<- H.G]at hrel;refine Ud (xg hc (jR hk) hrel) (λe=>?_) λe=>?_;subst e;exact jO x h u S R H hl hR a w hs;subst e;exact jO y h u S R H hl hR a w hs
 |.block id x,s,e,s',h,Q,u=>λS R H hl hR a w hs=>by
  unfold run at h;split at h;rename_i id' s1 h1;refine ud (jO x h1 (Q:=λe t=>e=.exit id'/\t=s1) ⟨rfl,rfl⟩ S _ H hl (λe' t g j a' w' f=>?_) a w hs);obtain⟨rfl,rfl⟩:=g;simp only[Exit.inBlock];split at h;rename_i e;cases h;rw[if_pos e];exact hR _ _ u j a' w' f;rename_i e;cases h;rw[if_neg e];exact hR _ _ u j a' w' f;rename_i hne;refine ud (jO x h (Q:=λe' t=>e'=e/\t=s') ⟨rfl,rfl⟩ S _ H hl (λe' t g j a' w' f=>?_) a w hs);obtain⟨rfl,rfl⟩:=g;cases e'<;>first
   |exact(hne _ _ h).elim
   |exact hR _ _ u j a' w' f
 |.exit id,s,e,s',h,Q,u=>λS R H hl hR a w hs=>by cases h;exact Ph (wpIn_exit (hR _ _ u hl a w hs))
 |.ret,s,e,s',h,Q,u=>λS R H hl hR a w hs=>by cases h;exact Ph (wpIn_ret (hR _ _ u hl a w hs))
 |.label _,s,e,s',h,Q,u=>λS R H hl hR a w hs=>by cases h;exact Ph (wpIn_label (hR _ _ u hl a w hs))
 |.scope x,s,e,s',h,Q,u=>λS R H hl hR a w hs=>by
  unfold run at h;split at h;cases h;rename_i hne;refine Nv (jO x h (Q:=λe' t=>e'=e/\t=s') ⟨rfl,rfl⟩ S _ H hl (λe' t g j a' w' f=>?_) a w hs);obtain⟨rfl,rfl⟩:=g;cases e'<;>first
   |exact(hne _ _ h).elim
   |exact hR _ _ u j a' w' f
 |.loop x,s,e,s',h,Q,u=>λS R H hl hR a w hs=>by
  unfold run at h;refine at_loop (λk a w=>∃z,VL (λs=>run c A n x s) k z=some (e,s')/\z.tm.length=S.N/\Sim S z.sig a w) n ⟨s,h,hl,hs⟩ ?_;rintro k a w ⟨z,j1,j2,j3⟩;cases k with
  |zero=>cases j1
  |succ k=>
   unfold VL at j1;split at j1;rename_i s1 h1;refine jO x h1 (Q:=λe t=>e=.normal/\t=s1) ⟨rfl,rfl⟩ S _ H j2 (λe' t g j a' w' f=>?_) a w j3;obtain⟨rfl,rfl⟩:=g;exact⟨k,Nat.lt_succ_self k,_,j1,j,f⟩;rename_i hne;refine jO x j1 (Q:=λe' t=>e'=e/\t=s') ⟨rfl,rfl⟩ S _ H j2 (λe' t g j a' w' f=>?_) a w j3;obtain⟨rfl,rfl⟩:=g;cases e'<;>first
    |exact(hne _ j1).elim
    |exact hR _ _ u j a' w' f
 |.rangeFunc g ps x y,s,e,s',h,Q,u=>by
  unfold run at h;split at h;case h_2=>cases h
  rename_i gf caps hev;split at h;case h_2=>cases h
  rename_i it hki;split at h;case isFalse=>cases h
  rename_i hc;rw[qE]at hc;obtain⟨hc,hfp⟩:=hc;rw[qE]at hfp;obtain⟨hfl,hpre⟩:=hfp;refine Yu (EA:=λs1 Q1=>∃e1 t1,run c A n x s1=some (e1,t1)/\Q1 e1 t1) (EB:=λs1 Q1=>∃e1 t1,run c A n y s1=some (e1,t1)/\Q1 e1 t1) (le:=Eq)
   (sp:=⟨Nat×St,λz=>Uz (λs=>run c A n x s) (λs=>run c A n y s) (JH c.G g gf caps s.mem) ps.toList it.t (it.L.drop z.1) z.2=some (e,s'),(·.2),(·.1),[]⟩)
   (λs1 Q1 ⟨_,_,h1,h2⟩=>jO x h1 h2) (λs1 Q1 ⟨_,_,h1,h2⟩=>jO y h1 h2) (λ_ _ g=>.inl g) hev hki ?_
  unfold aDG;rw[if_pos hc];have X:∀{p:Prop},p->G1 c.G g gf caps s.mem (λz:Nat×St=>Uz (λs=>run c A n x s) (λs=>run c A n y s) (JH c.G g gf caps s.mem) ps.toList it.t (it.L.drop z.1) z.2=some (e,s')) (·.2) it.t p:=λhp=>by
   unfold G1;split;exact hp;rename_i hnm;have hnm:(AV.namesL caps).isEmpty=false:=by simpa using hnm
   rw[hnm,xQ]at hfl;exact⟨hfl,λz hz=>RJ (VK hz) hnm,hp⟩
  refine X ⟨it.pre.h hpre,⟨(0,s),h,rfl,rfl⟩,?_,?_⟩;rintro⟨k,z⟩ v hz hk;have hk:it.L[k]?=some v:=hk;have hz:Uz (λs=>run c A n x s) (λs=>run c A n y s) (JH c.G g gf caps s.mem) ps.toList it.t (it.L.drop k) z=some (e,s'):=hz;obtain⟨hlt,rfl⟩:=qC.1 hk;rw[List.drop_eq_getElem_cons hlt]at hz;unfold Uz at hz;split at hz;case isFalse=>cases hz
  split at hz;case h_2=>cases hz
  rename_i s1 h1;refine⟨_,_,h1,?_⟩;split at hz;rename_i s2 h2;exact⟨_,_,h2,(k+1,oq s2),hz,rfl,rfl⟩;rename_i s2 h2;cases hz;exact⟨_,_,h2,u⟩;rename_i i s2 h2;cases hz;exact⟨_,_,h2,u⟩;cases hz;rintro⟨k,z⟩ hz hk;have hk:k=it.L.length:=hk;have hz:Uz (λs=>run c A n x s) (λs=>run c A n y s) (JH c.G g gf caps s.mem) ps.toList it.t (it.L.drop k) z=some (e,s'):=hz;rw[hk,List.drop_length]at hz;unfold Uz at hz;split at hz;cases hz;exact u;cases hz
 |.goto _,_,_,_,h,_,_=>by cases h
 |.refuse _,_,_,_,h,_,_=>by cases h
theorem OJ(x:Code)(S:Base)(s:St)(Q:Exit->St->Prop)(R:Exit->Act->World->Prop)(H:OkS c S)
  (h:ev c A x s Q) (j:s.tm.length=S.N) (u:∀e s',Q e s'->s'.tm.length=S.N->∀a w,Sim S s'.sig a w->R e a w) (a:Act) (w:World) (f:Sim S s.sig a w):At S.P S.rd x R a w:=by
 unfold ev at h;split at h;exact lL x S s Q R H h j u a w f;split at h;rename_i y;exact jO x y h S R H j u a w f;exact h.elim
end Go.Eng
namespace Go.Eng
open Go.RowKit
theorem Rx{w:World}{k o:Nat}{x:Option (List Deferred)}(h:w.heap[k]?=some (.deferred x)):w.cell? ⟨k,o,none⟩=none:=by
 simp[World.cell?,h]
structure Shr(k:Nat)(C C':Ctx):Prop where
 at_:∃x,C.w.heap[k]?=some (.deferred x)
 w:∀b,b≠k->C'.w.heap[b]?=C.w.heap[b]?
 D:∀b,C.D b->b≠k->C'.D b
 m:C'.m=C.m
 E:C'.E=C.E
theorem Shr.cells{k:Nat}{C C':Ctx}(L:Shr k C C'){b o:Nat}{us:Lv}(hc:cO C.w b o us)(h:0<us.length):b≠k/\cO C'.w b o us:=by
 have hb:b≠k:=λe=>by
  obtain⟨x,f⟩:=L.at_;subst e;have:=hc 0 us[0] (by simp);rw[Rx f]at this;cases this
 exact⟨hb,hc.same (L.w b hb)⟩
theorem dq{k:Nat}{C C':Ctx}(L:Shr k C C'):∀{t:Ty}{x:t.den}{us:Lv},ae C.w C.D t x us->ae C'.w C'.D t x us
 |.int _,_,_,h=>h|.bool,_,_,h=>h|.str,_,_,h=>h|.sl e,xs,us,h=>by
  obtain⟨ao,cap,j,f,h3,h4,h5⟩:=h;refine⟨ao,cap,j,f,h3,h4,λi y hy=>?_⟩;obtain⟨a,ue,g1,g2,g3,u⟩:=h5 i y hy;obtain⟨X,G⟩:=L.cells g3 (by rw[aS u];exact Ty.sz_pos e);exact⟨a,ue,g1,L.D _ g2 X,G,dq L u⟩
 |.pair a b,_,_,h=>by
  obtain⟨A,z,h,j,f⟩:=h;exact⟨A,z,h,dq L j,dq L f⟩
mutual
def dN:AV->Bool|.clo1 _ _ _ _=>false|.clo2 _ _ _ _ _=>false|.slv _=>false|.agg cs=>jt cs|.tup cs=>jt cs|.fn _ cs=>jt cs|.ifc _ a=>dN a|.grd _ a=>dN a|.ipv a=>dN a|.ips cs=>!cs.isEmpty&&jt cs|.sel _ cs=>jt cs|.pin _ a=>dN a|_=>true
def jt:List AV->Bool|[]=>true|a::qz=>dN a&&jt qz
end
mutual
theorem AV.rel_shr{P:Program}{k:Nat}{C C':Ctx}(L:Shr k C C'):∀{a:AV}{v:Value},dN a=true->a.rel P C v->a.rel P C' v
 |.top,_,_,_=>trivial|.dat _ _,_,_,h=>dq L h|.agg cs,_,z,h=>by
  obtain⟨us,G,A⟩:=h;exact⟨us,G,AV.relL_shr L (by simpa[dN]using z) A⟩
 |.tup cs,_,z,h=>by
  obtain⟨us,G,A⟩:=h;exact⟨us,G,AV.relL_shr L (by simpa[dN]using z) A⟩
 |.val _,_,_,h=>h|.buf nm n,v,_,h=>by
  simp only[AV.rel]at h ⊢;rw[L.m,L.E];exact h
 |.ptr nm g i c,v,_,h=>by
  simp only[AV.rel]at h ⊢;rw[L.m,L.E];exact h
 |.ip t x,_,_,h=>by
  obtain⟨b,off,us,G,A,X,h4⟩:=h;obtain⟨q1,q2⟩:=L.cells X (by rw[aS h4];exact Ty.sz_pos t);exact⟨b,off,us,G,L.D _ A q1,q2,dq L h4⟩
 |.fn f caps,_,z,h=>by
  obtain⟨us,G,A⟩:=h;exact⟨us,G,AV.relL_shr L (by simpa[dN]using z) A⟩
 |.clo1 a r pre g,_,z,_=>by simp[dN]at z|.clo2 a b r pre g,_,z,_=>by simp[dN]at z|.ifc t a,_,z,h=>by
  obtain⟨u,G,A⟩:=h;exact⟨u,G,AV.rel_shr L (by simpa[dN]using z) A⟩
 |.grd g a,_,z,h=>⟨λhg=>AV.rel_shr L (by simpa[dN]using z) (h.1 hg),h.2⟩|.ipv a,_,z,h=>by
  obtain⟨b,off,u,G,A,X,h5⟩:=h;have hb:b≠k:=λe=>by
   obtain⟨x,hx⟩:=L.at_;subst e;rw[Rx hx]at X;cases X
  exact⟨b,off,u,G,L.D _ A hb,(cell?_same (L.w _ hb)).trans X,AV.rel_shr L (by simpa[dN]using z) h5⟩
 |.ips cs,_,z,h=>by
  obtain⟨b,off,us,G,A,X,h5⟩:=h;simp only[dN,qE,zB,List.isEmpty_eq_false_iff]at z;have hl:=AV.relL_length h5;obtain⟨q1,q2⟩:=L.cells X (by rw[<- hl];exact List.length_pos_iff.2 z.1);exact⟨b,off,us,G,L.D _ A q1,q2,AV.relL_shr L z.2 h5⟩
 |.ia t xs,_,_,h=>by
  obtain⟨b,off,G,A⟩:=h;exact⟨b,off,G,dq L A⟩
 |.yld _,_,_,h=>h|.view nm n,v,_,h=>by
  simp only[AV.rel]at h ⊢;rw[L.m,L.E];exact h
 |.av _ _,_,_,h=>by
  obtain⟨us,G,A,X⟩:=h;exact⟨us,G,A,λi y hy=>dq L (X i y hy)⟩
 |.sel i cs,_,z,h=>by
  obtain⟨us,G,A⟩:=h;exact⟨us,AV.relL_shr L (by simpa[dN]using z) G,A⟩
 |.row nm g i kk,v,_,h=>by
  simp only[AV.rel]at h ⊢;rw[L.m,L.E];exact h
 |.rptr nm g i kk j,v,_,h=>by
  simp only[AV.rel]at h ⊢;rw[L.m,L.E];exact h
 |.pin u a,_,z,h=>⟨h.1,AV.rel_shr L (by simpa[dN]using z) h.2⟩
theorem AV.relL_shr{P:Program}{k:Nat}{C C':Ctx}(L:Shr k C C'):∀{qz:List AV}{us:Lv},jt qz=true->AV.relL P C qz us->AV.relL P C' qz us
 |[],_,_,h=>h|a::qz,_,j,h=>by
  obtain⟨u,f,A,z,y⟩:=h;simp only[jt,qE]at j;exact⟨u,f,A,AV.rel_shr L j.1 z,AV.relL_shr L j.2 y⟩
end
def Q9:Blk->Bool|.var cs=>jt cs|.buf _ _ _ ov=>jt (ov.map (·.2))|.mat _ _ _ _ _=>false
theorem VY{ov:List (Nat×AV)}{i:Nat}{a:AV}(h:jt (ov.map (·.2))=true)(f:ov.lookup i=some a):dN a=true:=by
 induction ov with
 |nil=>simp at f|cons p ov u=>
  obtain⟨j,b⟩:=p;simp only[wV,jt,qE]at h;simp only[List.lookup]at f;split at f;cases f;exact h.1;exact u h.2 f
theorem dQ.shr{P:Program}{base k:Nat}{C C':Ctx}(L:Shr k C C'){e:Ent}{b:Blk}(z:Q9 b=true)(he:e.isNil=false->e.b≠k)(h:dQ P base C e b):dQ P base C' e b:=by
 cases b with
 |var cs=>
  obtain⟨h0,us,el,j,G⟩:=h;exact⟨h0,us,el,(L.w _ (he h0)).trans j,AV.relL_shr L z G⟩
 |buf el t xs ov=>
  obtain⟨raw,j,G⟩:=h;refine⟨raw,⟨j.1,?_⟩,λi y hy=>?_⟩;rcases j.2 with h|⟨g,cap,X,f,hg,hh,r⟩;exact .inl h;refine .inr ⟨g,cap,X,f,hg,?_,r⟩;unfold Ent.handle at f;split at f;cases f;rename_i hi;simp only[yH,vT,qAk,vY,yE]at f;rw[<- f.1,L.w _ (he (by simpa using hi)),f.1];exact hh;have g:=G i y hy;cases A:ov.lookup i with
  |none=>rw[A]at g;exact dq L g|some a=>
   rw[A]at g;obtain⟨g1,u,g2,g4,g3⟩:=g;exact⟨g1,u,g2,g4,AV.rel_shr L (VY z A) g3⟩
 |mat el eli t xss ov=>cases z
def lA(a:AV):AV:=if dN a then a else .top
def sweep(rng:Bool)(s:St):Option St:=
 if rng then
  if s.mem.all (λp=>Q9 p.2)&&jt s.sv then some {s with tm:=s.tm.map lA} else none
 else some s
structure IQ(σ:Sig):Prop where
 T:∀t,dN (σ.T t)=true
 m:∀nm b,σ.m nm=some b->Q9 b=true
 sv:jt σ.sv=true
section
variable {S:Base}
theorem aL.shr{σ:Sig}{a:Act}{w:World}{D:Nat->Prop}{E:Nat->Ent}{k:Nat}{ds:List Deferred}(h:aL {S with G:=[]} σ {a with defers:={target:=.collected k,args:=#[]}::ds} w D E)(j:IQ σ)
  (hD0:∀b,S.D0 b->b<S.w0.heap.size) (y:∀d∈S.gd,∀k,d.target≠.collected k):w.heap[k]?=some (.deferred (some []))/\aL {S with G:=[]} σ {a with defers:=ds} (w.putObj k (.deferred none)) (λb=>D b/\b≠k) E:=by
 obtain⟨⟨dn,⟨ms,z⟩,dp⟩,dm⟩:=h.df;rcases dm _ wL with⟨_,g⟩|⟨k',e1,e2,e3,e4⟩;exact(g k rfl).elim;simp only[Deferred.mk.injEq,Target.collected.injEq,vY]at e1;subst e1;have L:Shr k ⟨w,D,σ.m,E⟩ ⟨w.putObj k (.deferred none),λb=>D b/\b≠k,σ.m,E⟩:=
  ⟨⟨_,e4⟩,λb hb=>World.putObj_heap_other hb,λb hb hk=>⟨hb,hk⟩,rfl,rfl⟩
 have ek:∀nm b,σ.m nm=some b->(E nm).isNil=false->(E nm).b≠k:=λnm b hm hi e=>(h.own nm b hm hi).2.2 (e▸e3);have f:∀nm i b,cC σ.m E nm i b->False:=λnm i b g=>by
  obtain⟨_,_,_,_,_,_,g1,_⟩:=g;have:=j.m nm _ g1;cases this
 have X:∃A,ds=A++S.gd:=by
  cases ms with
  |nil=>
   have hh:({target:=.collected k,args:=#[]}:Deferred)∈S.gd:=by
    have:S.gd={target:=.collected k,args:=#[]}::ds:=z.symm;rw[this];exact wL
   exact(y _ hh k rfl).elim
  |cons x ms=>exact⟨ms,(List.cons.inj z).2⟩
 refine⟨e4,h.sz,⟨⟨λe=>(by
  have h1:{target:=.collected k,args:=#[]}::ds=S.gd:=dn e;exact(y _ (h1▸wL) k rfl).elim),X,(kC.1 dp).2⟩,λd hd=>?_⟩,λt=>AV.rel_shr L (j.T t) (h.tm t),λnm b hm=>(h.bl nm b hm).shr L (j.m nm b hm) (ek nm b hm),λnm b hm hi=>?_,h.inj,?_,λb hb=>?_,λb hb=>⟨h.dlo b hb,?_⟩,λb hb=>h.dhi b hb.1,λp j=>(by cases j),AV.relL_shr L j.sv h.svr,⟨λnm i b g=>(f nm i b g).elim,λnm i b g=>(f nm i b g).elim,λnm i b _ _ g=>(f nm i b g).elim⟩⟩
 rcases dm d (wX _ hd)with g|⟨q,q1,q2,q3,q4⟩;exact .inl g;have u:q≠k:=λe=>(kC.1 dp).1 d hd (by rw[q1,e]);exact .inr ⟨q,q1,q2,⟨q3,u⟩,(World.putObj_heap_other u).trans q4⟩;obtain⟨g1,g2,g3⟩:=h.own nm b hm hi;exact⟨g1,by simpa using g2,λhd=>g3 hd.1⟩;refine h.low.step rfl rfl rfl (by simp) λq hq _=>World.putObj_heap_other λe=>?_;have:S.w0.heap.size<=k:=e2;have:q<S.w0.heap.size:=hq;omega;have:=h.dlt b hb.1;simpa using this;intro e;have h1:b<S.w0.heap.size:=hD0 b hb;have h2:S.w0.heap.size<=k:=e2;omega
theorem GQ{fn:Func}{R:Ending->World->Prop}(f:S.gd=[])(j:∀b,S.D0 b->b<S.w0.heap.size){σ:Sig}(z:IQ σ){E:Nat->Ent}{tmps:Array Value}:∀(ds:List Deferred) (w:World) (D:Nat->Prop),
  aL {S with G:=[]} σ {tmps:=tmps,defers:=ds} w D E->(∀u X,aL {S with G:=[]} σ {tmps:=tmps,defers:=[]} u X E->∃v,(results fn tmps).run S.P u=.ok v u/\R (.returned v) u)->
  LeavesInM Fence.wide 0 S.P fn tmps R ds .returning w
 |[],w,D,h,y=>y w D h|d::ds,w,D,h,y=>by
  rcases h.df.2 d wL with⟨g,_⟩|⟨k,rfl,_⟩;have g:d∈S.gd:=g;rw[f]at g;cases g;obtain⟨L,A⟩:=aL.shr (a:={tmps:=tmps,defers:=[]}) h z j (by rw[f];intro d hd;cases hd);exact⟨by simp,.inl ⟨k,_,rfl,run_takeDeferred L,GQ f j z ds _ _ A y⟩⟩
end
def Ji(P:Program)(s:St):List ResultVar->Option (List Ob×List AV)
 |[]=>some ([],[])|.tmp t::rs=>match Ji P s rs with
  |some (ns,vs)=>some (ns,s.sig.T t::vs)|none=>none
 |.cell a t::rs=>match JD P t (s.sig.T a,da s.sig.m (s.sig.T a)),Ji P s rs with
  |some c,some (ns,vs)=>some (c.need++ns,c.val::vs)|_,_=>none
def aCh(P:Program)(s:St)(rs:List ResultVar):Option (List Ob×AV):=match Ji P s rs with|some (ns,[v])=>some (ns,v)|some (ns,vs)=>some (ns,.tup vs)|none=>none
def jV(m:Mem)(k:Nat):Nat:=match m.lookup k with|some b=>b.len|none=>0
def tokens(m:Mem):List AV:=m.map λp=>.buf p.1 (jV m p.1)
def Ih(m upd:Mem):Mem:=match m with|[]=>upd|m=>m.map λp=>(p.1,(upd.lookup p.1).getD p.2)
def Xx(ret:AV)(m upd:Mem):St:={tm:=[ret],mem:=Ih m upd,nx:=0,sv:=tokens m}
def Pv(P:Program)(rng:Bool)(fn:Func)(m:Mem)(r:lI)(s:St):Prop:=match sweep rng s with
 |some s1=>match aCh P s1 fn.results.toList with
  |some (ns,v)=>match Ov {s1 with tm:=[v]} (Xx r.ret m r.upd)with
   |some ms=>all ns (all ms True)|none=>False
  |none=>False
 |none=>False
def aGB(P:Program)(rng:Bool)(fn:Func)(m:Mem)(r:lI):Exit->St->Prop|.normal,s=>Pv P rng fn m r s|.ret,s=>Pv P rng fn m r s|_,_=>False
def YD:Mem->Nat|[]=>0|p::r=>max (p.1+1) (YD r)
def fz(fn:Func)(args:List AV)(m:Mem):St:=⟨args++List.replicate (fn.ntmps-args.length) (.val undef),m,YD m,tokens m⟩
def qT(m:Mem):Mem->List Ob|[]=>[]|(k,b)::r=>OD (jV m k) b::qT m r
def sj(m upd:Mem):List Ob:=match m with|[]=>[]|m=>qT m upd
def fA(m:Mem):Bool:=m.all λp=>p.2.simple
def evF(c:Cfg)(A:Ann)(f:FuncId)(args:List AV)(m:Mem)(r:lI):Prop:=match c.P.funcs[f]? with
 |some fn=>match fn.body with
  |some b=>(m.isEmpty||((r.upd.all λp=>m.any λq=>q.1==p.1)&&(fA m&&fA r.upd&&r.ret.simple)))=true/\(r.pre->all (sj m r.upd) (ev c A b (fz fn args m) (aGB c.P c.rng fn m r)))|none=>False
 |none=>False
end Go.Eng
namespace Go.Eng
open Go.RowKit
variable {P:Program}
theorem B8{t:TypeId}{v r:Value}{w w':World}(h:(Instr.loadAt t v).run P w=.ok r w'):(do loadVar t (<- asAddr v):Sem Value).run P w=.ok r w':=by
 cases v with
 |pointer a=>
  cases a with
  |some a=>simpa[Instr.loadAt,Instr.sureAddr,asAddr]using h|none=>simp[Instr.loadAt,Instr.sureAddr,wO,stuck,Sem.run,Result.andThen]at h
 |_=>simp[Instr.loadAt,Instr.sureAddr,wO,stuck,Sem.run,Result.andThen]at h
variable {S:Base}{D:Nat->Prop}{a:Act}{w:World}{E:Nat->Ent}
theorem pH{s:St}(h:aL S s.sig a w D E):∀{rs:List ResultVar}{ns:List Ob}{vs:List AV},Ji S.P s rs=some (ns,vs)->(∀q∈ns,q)->
  ∃us:Lv,((rs.mapM fun|ResultVar.tmp t=>pure (a.tmps.getD t undef)|.cell u t=>do loadVar t (<- asAddr (a.tmps.getD u undef))):Sem (Lv)).run S.P w=.ok us w/\AV.relL S.P ⟨w,D,s.sig.m,E⟩ vs us
 |[],ns,vs,f,_=>by
  simp only[Ji]at f;cases f;exact⟨[],by simp,rfl⟩
 |.tmp t::rs,ns,vs,f,y=>by
  simp only[Ji]at f;split at f;case h_2=>cases f
  rename_i A z j;cases f;obtain⟨us,L,g2⟩:=pH h j y;refine⟨a.tmps.getD t undef::us,?_,_,us,rfl,h.tm t,g2⟩;rw[xG];simp only[pure_bind,wO,L,wB,yN]
 |.cell u t::rs,ns,vs,f,y=>by
  simp only[Ji]at f;split at f;case h_2=>cases f
  rename_i c A z hc j;cases f;obtain⟨us,L,g2⟩:=pH h j (λq G=>y q (qI.2 (.inr G)));obtain⟨r,r1,r2,_,_⟩:=Oj (p:=(s.sig.T u,da s.sig.m (s.sig.T u))) h rfl hc (λq G=>y q (qI.2 (.inl G))) (h.tm u);refine⟨r::us,?_,_,us,rfl,r2,g2⟩;have X:=B8 r1;rw[xG,wO];rw[X];simp only[wB,wO,L,yN]
variable {fn:Func}{tmps:Array Value}
theorem uG{us:Lv}
  (h:((fn.results.toList.mapM fun|ResultVar.tmp t=>pure (tmps.getD t undef)|.cell f t=>do loadVar t (<- asAddr (tmps.getD f undef))):Sem (Lv)).run P w=.ok us w):
  (results fn tmps).run P w=.ok (if h:us.toArray.size=1 then us.toArray[0]else .tuple us.toArray) w:=by
 have e:results fn tmps=(do
   let l <- ((fn.results.toList.mapM fun|ResultVar.tmp t=>pure (tmps.getD t undef)|.cell f t=>do loadVar t (<- asAddr (tmps.getD f undef))):Sem (Lv))
   let vs:Array Value:=l.toArray
   pure (if h:vs.size=1 then vs[0]else .tuple vs)):=by
  unfold results;rw[qCs,map_eq_pure_bind,bind_assoc];simp only[pure_bind];rfl
 rw[e];simp only[wO,h,wB,yN]
theorem VP{s:St}(h:aL S s.sig a w D E){ns:List Ob}{v:AV}(y:aCh S.P s fn.results.toList=some (ns,v))(hn:∀q∈ns,q):
  ∃u,(results fn a.tmps).run S.P w=.ok u w/\v.rel S.P ⟨w,D,s.sig.m,E⟩ u:=by
 unfold aCh at y;split at y;rename_i ns1 X j;cases y;obtain⟨f,L,g2⟩:=pH h j hn;obtain⟨u1,_,rfl,g3,g4⟩:=g2;simp only[AV.relL]at g4;subst g4;exact⟨u1,by simpa using uG L,g3⟩;rename_i vs A j;cases y;obtain⟨f,L,g2⟩:=pH h j hn;have G:=AV.relL_length g2;have z:f.toArray.size≠1:=by
  intro e;have:vs.length=1:=by simpa[G]using e
  obtain⟨X,rfl⟩:=kK.1 this;exact A X rfl
 exact⟨.tuple f.toArray,by have:=uG L;rw[dif_neg z]at this;exact this,f,rfl,g2⟩;cases y
theorem oM(a:AV):dN (lA a)=true:=by
 unfold lA;split;assumption;rfl
theorem xe{C:Ctx}{a:AV}{v:Value}(h:a.rel P C v):(lA a).rel P C v:=by
 unfold lA;split;exact h;trivial
variable {R:Ending->World->Prop}
theorem Vh{rng:Bool}{s X:St}(f:S.gd=[])(y:sweep rng s=some X)(j:S.nod=!rng)(L:∀b,S.D0 b->b<S.w0.heap.size)(h:aL S s.sig a w D E)
  (hR:∀z D2,aL {S with G:=[]} X.sig {tmps:=a.tmps,defers:=[]} z D2 E->∃v,(results fn a.tmps).run S.P z=.ok v z/\R (.returned v) z):
  LeavesInM Fence.wide 0 S.P fn a.tmps R a.defers .returning w:=by
 unfold sweep at y;split at y
 .split at y
  case isFalse=>cases y
  rename_i u;cases y;simp only[qE,qW]at u;have eT:∀t,(s.tm.map lA).getD t .top=lA (s.tm.getD t .top):=λt=>by
   simp only[qA,qQ];cases s.tm[t]? with
   | none=>rfl
   | some x=>rfl
  refine GQ f L (σ:=(St.sig {s with tm:=s.tm.map lA})) (E:=E) ⟨λt=>?_,λnm b hm=>?_,u.2⟩ a.defers w D ?_ hR
  .show dN ((s.tm.map lA).getD t .top)=true;rw[eT];exact oM _
  .exact u.1 (nm,b) (dc hm)
  .refine⟨h.sz,h.df,λt=>?_,h.bl,h.own,h.inj,h.low,h.dlt,h.dlo,h.dhi,λp u=>(by cases u),h.svr,h.pv⟩;show((s.tm.map lA).getD t .top).rel S.P _ _;rw[eT];exact xe (h.tm t)
 .cases y;rename_i A;have A:rng=false:=by simpa using A
  rw[A]at j;have hd:a.defers=[]:=(h.df.1.1 (by rw[j];rfl)).trans f;rw[hd];refine hR w D ⟨h.sz,⟨⟨λ_=>f.symm,⟨[],f.symm⟩,xC⟩,λd hd=>(by cases hd)⟩,h.tm,h.bl,h.own,h.inj,h.low,h.dlt,h.dlo,h.dhi,λp u=>(by cases u),h.svr,h.pv⟩
theorem pR(upd:Mem)(k:Nat):∀m:Mem,(m.map λp=>(p.1,(upd.lookup p.1).getD p.2)).lookup k=(m.lookup k).map λb=>(upd.lookup k).getD b
 |[]=>rfl|p::m=>by
  obtain⟨q,b⟩:=p;simp only[wV,List.lookup];by_cases e:k=q;subst e;simp;have:(k==q)=false:=by simpa using e
  simp only[this];exact pR upd k m
variable {m:Mem}
theorem qn(upd:Mem)(k:Nat)(h:m≠[]):(Ih m upd).lookup k=(m.lookup k).map λb=>(upd.lookup k).getD b:=by
 unfold Ih;split;exact(h rfl).elim;exact pR upd k m
theorem LK{m upd:Mem}(j:(m.isEmpty||upd.all λp=>m.any λq=>q.1==p.1)=true)(k:Nat):bH (Ih m upd) k=upM (bH m) upd k:=by
 by_cases f:m=[];subst f;show upd.lookup k=upM (bH []) upd k;unfold upM bH;cases upd.lookup k<;>rfl;replace j:upd.all (λp=>m.any λq=>q.1==p.1)=true:=by
  cases m with
  |nil=>exact(f rfl).elim|cons _ _=>simpa using j
 unfold bH upM;rw[qn upd k f];cases h:upd.lookup k with
 |none=>simp|some b=>
  have hm:=qW.1 j _ (dc h);rw[xO]at hm;obtain⟨q,z,u⟩:=hm;have u:q.1=k:=by simpa using u
  have:∃b,m.lookup k=some b:=by
   clear h j f;induction m with
   |nil=>cases z
   |cons p m A=>
    obtain⟨p1,p2⟩:=p;simp only[List.lookup];by_cases e:k=p1;subst e;exact⟨p2,by simp⟩;have G:(k==p1)=false:=by simpa using e
    simp only[G];rcases zK.1 z with g|g;subst g;exact(e u.symm).elim;exact A g
  obtain⟨b0,y⟩:=this;rw[y];rfl
theorem zh:∀{u:Mem},(∀p∈qT m u,p)->∀{k:Nat}{b:Blk},u.lookup k=some b->jV m k<=b.len
 |[],_,_,_,h=>by simp at h|(k',y)::r,f,k,b,h=>by
  simp only[qT]at f;simp only[List.lookup]at h;split at h;rename_i e;cases h;have e:k=k':=by simpa using e
  subst e;exact MS (f _ wL);exact zh (λp j=>f p (wX _ j)) h
theorem zk:∀l:Mem,AV.relL P ⟨w,D,bH m,E⟩ (l.map λp=>.buf p.1 (jV m p.1)) (l.map λp=>(E p.1).handle (jV m p.1))
 |[]=>rfl|p::l=>⟨_,_,rfl,λb hb=>by
   have e:jV m p.1=b.len:=by
    unfold jV;have f:m.lookup p.1=some b:=hb;rw[f]
   exact⟨yK e,λ_=>rfl⟩,zk l⟩
theorem rN{m':Nat->Option Blk}{E E':Nat->Ent}:∀{l:Mem},AV.relL P ⟨w,D,m',E'⟩ (l.map λp=>.buf p.1 (jV m p.1)) (l.map λp=>(E p.1).handle (jV m p.1))->
  ∀p∈l,∀b,m' p.1=some b->b.len=jV m p.1->DO (E p.1) (E' p.1)
 |[],_,p,f,_,_,_=>by cases f
 |q::l,h,p,f,b,hb,j=>by
  obtain⟨u,us,e,y,g2⟩:=h;simp only[wV,vG]at e;obtain⟨A,z⟩:=e;rcases zK.1 f with g|g;subst g;have:=(y b hb).2 j;exact Vt (A.trans this);subst z;exact rN g2 p g b hb j
variable {z:List PanicEntry}
theorem pQ(f:S.gd=[])(j:∀b,S.D0 b->b<S.w0.heap.size){σ:Sig}(A:IQ σ):∀(ds:List Deferred) (w:World) (D:Nat->Prop),
  aL {S with G:=[]} σ {tmps:=tmps,defers:=ds} w D E->(∀y D2,aL {S with G:=[]} σ {tmps:=tmps,defers:=[]} y D2 E->R (.panicked z) y)->
  LeavesInM Fence.wide 0 S.P fn tmps R ds (.panicking z) w
 |[],w,D,h,u=>u w D h|d::ds,w,D,h,u=>by
  rcases h.df.2 d wL with⟨g,_⟩|⟨k,rfl,_⟩;have g:d∈S.gd:=g;rw[f]at g;cases g;obtain⟨X,L⟩:=aL.shr (a:={tmps:=tmps,defers:=[]}) h A j (by rw[f];intro d hd;cases hd);exact⟨by simp,.inl ⟨k,_,rfl,run_takeDeferred X,pQ f j A ds _ _ L u⟩⟩
theorem Qv{rng:Bool}{s:St}(u:S.gd=[])(A:(sweep rng s).isSome=true)(f:S.nod=!rng)(L:∀b,S.D0 b->b<S.w0.heap.size)(h:aL S s.sig a w D E)(X:∀y,Chg S.O S.w0 y->R (.panicked z) y): LeavesInM Fence.wide 0 S.P fn a.tmps R a.defers (.panicking z) w:=by
 unfold sweep at A;split at A
 .split at A
  case isFalse=>cases A
  rename_i j;simp only[qE,qW]at j;have eT:∀t,(s.tm.map lA).getD t .top=lA (s.tm.getD t .top):=λt=>by
   simp only[qA,qQ];cases s.tm[t]? with
   | none=>rfl
   | some x=>rfl
  refine pQ u L (σ:=(St.sig {s with tm:=s.tm.map lA})) (E:=E) ⟨λt=>?_,λnm b hm=>?_,j.2⟩ a.defers w D ?_ (λy D2 h2=>X y h2.low)
  .show dN ((s.tm.map lA).getD t .top)=true;rw[eT];exact oM _
  .exact j.1 (nm,b) (dc hm)
  .refine⟨h.sz,h.df,λt=>?_,h.bl,h.own,h.inj,h.low,h.dlt,h.dlo,h.dhi,λp j=>(by cases j),h.svr,h.pv⟩;show((s.tm.map lA).getD t .top).rel S.P _ _;rw[eT];exact xe (h.tm t)
 .rename_i G;have G:rng=false:=by simpa using G
  rw[G]at f;have hd:a.defers=[]:=(h.df.1.1 (by rw[f];rfl)).trans u;rw[hd];exact X w h.low
variable {args:List AV} {r:lI} {X:List PanicEntry->Prop} {c:Cfg}
theorem SS{Z:Prop}(hK:ay c.P c.G c.K)(hI:aR c.P c.G c.KI)(hm:c.P.follows .mixedOrders=true)(hKP:bG c.P c.G c.KP)
  (hu0:(m.isEmpty||((r.upd.all λp=>m.any λq=>q.1==p.1)&&(fA m&&fA r.upd&&r.ret.simple)))=true) (hlens:∀p∈sj m r.upd,p)
  (w:World) (D:Nat->Prop) (E:Nat->Ent) (us:Lv) (hD:∀b,D b->b<w.heap.size) (hG:jG c.P ⟨w,D,bH m,E⟩ c.G) (hargs:AV.relL c.P ⟨w,D,bH m,E⟩ args us) (hH:Held c.P w D (bH m) E):
  ∃S:Base,S={P:=c.P,w0:=w,D0:=D,N:=args.length+(fn.ntmps-args.length),O:=bD (bH m) E,G:=c.G,sv:=m.map λp=>(E p.1).handle (jV m p.1),rd:=none,nod:=!c.rng}/\OkS c S/\(fz fn args m).tm.length=S.N/\aL S (fz fn args m).sig {tmps:=us.toArray++Array.replicate (fn.ntmps-us.toArray.size) undef,defers:=[]} w D E/\
   ∀s' a' w',Sim S s'.sig a' w'->Z->Pv c.P c.rng fn m r s'->LeavesInM Fence.wide 0 c.P fn a'.tmps (λe w'=>(Z/\∃v D' E',e=.returned v/\Left c.P (bH m) r.upd w D E w' D' E'/\r.ret.rel c.P ⟨w',D',upM (bH m) r.upd,E'⟩ v)\/∃ch,e=.panicked ch/\X ch/\Chg (bD (bH m) E) w w') a'.defers .returning w':=by
 have hu:(m.isEmpty||r.upd.all λp=>m.any λq=>q.1==p.1)=true:=by
  rw[yM]at hu0 ⊢;exact hu0.imp id λg=>(qE _ _▸g:_/\_).1
 have hsim:m≠[]->fA m=true/\fA r.upd=true/\r.ret.simple=true:=λhne=>by
  rw[yM]at hu0;rcases hu0 with g|g;exact(hne (zD.1 g)).elim;simp only[qE]at g;exact⟨g.2.1.1,g.2.1.2,g.2.2⟩
 have simB:∀{m2:Mem}{nm:Nat}{b:Blk},fA m2=true->m2.lookup nm=some b->b.simple=true:=λ{m2 nm b} hs hl=>by
  have:=qW.1 hs (nm,b) (dc hl);exact this
 have pm0:∀nm i b,cC (bH m) E nm i b->False:=λnm i b g=>by
  obtain⟨_,_,_,_,_,_,g1,_⟩:=g;have g1':m.lookup nm=some _:=g1;have hne:m≠[]:=λe=>by subst e;cases g1'
  have:=simB (hsim hne).1 g1';cases this
 have hlen:args.length=us.length:=AV.relL_length hargs;obtain⟨S,z⟩:∃S:Base,S={P:=c.P,w0:=w,D0:=D,N:=args.length+(fn.ntmps-args.length),O:=bD (bH m) E,G:=c.G,sv:=m.map λp=>(E p.1).handle (jV m p.1),rd:=none,nod:=!c.rng}:=⟨_,rfl⟩;have hSF:S.F=Fence.wide:=by rw[z];rfl
 have hSP:S.P=c.P:=by rw[z]
 have hstart:aL S (fz fn args m).sig {tmps:=us.toArray++Array.replicate (fn.ntmps-us.toArray.size) undef,defers:=[]} w D E:=by
  rw[z];refine⟨?_,⟨⟨λ_=>rfl,⟨[],rfl⟩,xC⟩,λd hd=>(by cases hd)⟩,λt=>?_,hH.bl,λnm b hm hi=>⟨.inr ⟨nm,b,hm,hi,rfl⟩,hH.own nm b hm hi⟩,hH.inj,Chg.refl _ _,hD,λb hb=>hb,λb hb=>.inl hb,hG,zk m,fu.nil pm0⟩;show(us.toArray++Array.replicate (fn.ntmps-us.toArray.size) undef).size=args.length+(fn.ntmps-args.length);simp[hlen];show((args++List.replicate (fn.ntmps-args.length) (AV.val undef)).getD t .top).rel c.P ⟨w,D,bH m,E⟩ _;rw[qA,qP];by_cases ht:t<args.length;rw[vU ht,kM (by simpa using hlen▸ht)];obtain⟨u,g1,g2⟩:=AV.relL_get hargs (qB ht);rw[qB ht];simp only[kQ,g1,vJ];exact g2;rw[qV zoo,kJ (by simp;omega)];rw[wU,yQ];split;rename_i h1;rw[if_pos (by simp;omega)];rfl;trivial
 have HO:OkS c S:=by
  rw[z];exact⟨rfl,rfl,hK,hI,hm,λe=>(e rfl).elim,λ_=>rfl,hKP⟩
 have hln:(fz fn args m).tm.length=S.N:=by rw[z];simp[fz]
 refine⟨S,z,HO,hln,hstart,λs' a' w' hs' hz hq=>?_⟩;unfold Pv at hq;split at hq;case h_2=>exact hq.elim
 rename_i s1 hs1;split at hq;case h_2=>exact hq.elim
 rename_i ns v hv;split at hq;case h_2=>exact hq.elim
 rename_i ms hms;obtain⟨hns,hq⟩:=bK hq;obtain⟨hms2,_⟩:=bK hq;obtain⟨D',E',hd⟩:=hs';rw[<- hSP];refine Vh (by rw[z]) hs1 (by rw[z]) (by rw[z];exact hD) hd (λw2 D2 h2=>?_);rw[hSP];obtain⟨u,hu1,hu2⟩:=VP h2 (fn:=fn) (by rw[z];exact hv) hns;rw[hSP]at hu1 hu2;refine⟨u,hu1,?_⟩;obtain⟨S1,y⟩:∃S1:Base,S1={S with G:=[],N:=1}:=⟨_,rfl⟩;have h3:aL S1 (St.sig {s1 with tm:=[v]}) {tmps:=#[u],defers:=[]} w2 D2 E':=by
  rw[y];refine⟨rfl,h2.df,λt=>?_,h2.bl,h2.own,h2.inj,h2.low,h2.dlt,h2.dlo,h2.dhi,h2.gl,h2.svr,h2.pv⟩;cases t with
  |zero=>show AV.rel S.P _ v u;rw[hSP];exact hu2|succ t=>trivial
 obtain⟨D3,E3,A,_,_,_⟩:=Jb h3 hms hms2;have hP1:S1.P=c.P:=by rw[y,z]
 have j:∀k,(Xx r.ret m r.upd).sig.m k=upM (bH m) r.upd k:=λk=>LK hu k;have hm4:(Xx r.ret m r.upd).sig.m=upM (bH m) r.upd:=funext j;have hrel3:r.ret.rel c.P ⟨w2,D3,upM (bH m) r.upd,E3⟩ u:=by
  have:=A.tm 0;rw[hP1,hm4]at this;exact this
 have hpv:fu w.heap.size (bD (bH m) E) (upM (bH m) r.upd) E3 w2.heap.size D3:=by
  have:=A.pv;rw[y,z,hm4]at this;exact this
 have hchg:Chg (bD (bH m) E) w w2:=by
  have:=A.low;rw[y,z]at this;exact this
 by_cases hm0:m=[]
 ·
  subst hm0;refine .inl ⟨hz,u,D3,E3,rfl,⟨hchg,λb hb=>A.dlo b (by rw[y,z];exact hb),λb hb=>?_,A.dlt,⟨λnm b hb=>?_,λnm b hb hi=>(A.own nm b (by rw[j];exact hb) hi).2,λnm nm' b b' hb f hi hi' e=>A.inj nm nm' b b' (by rw[j];exact hb) (by rw[j];exact f) hi hi' e,⟨λnm i b g=>⟨.inr trivial,(hpv.own nm i b g).2⟩,hpv.ent,hpv.inj⟩⟩,λ_ _ _ h0=>(by cases h0),λ_ _ _ h0=>(by cases h0),λnm b _ hb hi=>?_,λnm i b g=>.inr (by
   rcases(hpv.own nm i b g).1 with q|⟨_,_,q,_⟩;exact q;cases q)⟩,hrel3⟩
  have:=A.dhi b hb;rw[y,z]at this;rcases this with g|g|⟨nm,blk,g1,_⟩;exact .inl g;exact .inr (.inl g);cases g1;have:=A.bl nm b (by rw[j];exact hb);rw[hP1,hm4]at this;exact this;have:=(A.own nm b (by rw[j];exact hb) hi).1;rw[y,z]at this;rcases this with g|⟨nm2,blk,g1,_⟩;exact g;cases g1
 have hlensM:∀p∈qT m r.upd,p:=by
  have e:sj m r.upd=qT m r.upd:=by
   unfold sj;split;exact(hm0 rfl).elim;rfl
  rw[<- e];exact hlens
 have hlen4:∀nm b,upM (bH m) r.upd nm=some b->∃b0,m.lookup nm=some b0/\jV m nm<=b.len:=λnm b hb=>by
  rw[<- LK hu]at hb;have f:(Ih m r.upd).lookup nm=some b:=hb;rw[qn _ _ hm0]at f;cases h0:m.lookup nm with
  |none=>rw[h0]at f;cases f
  |some b0=>
   rw[h0]at f;refine⟨b0,rfl,?_⟩;cases h1:r.upd.lookup nm with
   |none=>
    rw[h1]at f;simp only[zZ,Option.getD_none,vT]at f;subst f;unfold jV;rw[h0];exact qL _
   |some b1=>
    rw[h1]at f;simp only[zZ,vJ,vT]at f;subst f;exact zh hlensM h1
 obtain⟨E4,hE4⟩:∃E4:Nat->Ent,E4=λnm=>match upM (bH m) r.upd nm with|some b=>if b.len=jV m nm then E nm else E3 nm|none=>E3 nm:=⟨_,rfl⟩
 have e4s:∀nm b,upM (bH m) r.upd nm=some b->b.len=jV m nm->E4 nm=E nm:=λnm b hb hl=>by rw[hE4];simp only[hb];exact if_pos hl
 have e4n:∀nm b,upM (bH m) r.upd nm=some b->b.len≠jV m nm->E4 nm=E3 nm:=λnm b hb hl=>by rw[hE4];simp only[hb];exact if_neg hl
 have h:∀nm b,upM (bH m) r.upd nm=some b->DO (E3 nm) (E4 nm):=λnm b hb=>by
  by_cases hb1:b.len=jV m nm;rw[e4s nm b hb hb1];obtain⟨b0,hb0,_⟩:=hlen4 nm b hb;have hsv:=A.svr;have e1:S1.sv=m.map λp=>(E p.1).handle (jV m p.1):=by rw[y,z]
  rw[e1]at hsv;have:=rN hsv (nm,b0) (dc hb0) b (by rw[j];exact hb) hb1;exact⟨this.1.symm,λe=>by obtain⟨q1,q2⟩:=this.2 (this.1.trans e);exact⟨q1.symm,q2.symm⟩⟩;rw[e4n nm b hb hb1];exact⟨rfl,λ_=>⟨rfl,rfl⟩⟩
 have ownE:∀nm b,upM (bH m) r.upd nm=some b->(E4 nm).isNil=false->(E4 nm).b<w2.heap.size/\¬D3 (E4 nm).b:=λnm b hb hi=>by
  obtain⟨q1,q2⟩:=h nm b hb;obtain⟨g1,g2,g3⟩:=A.own nm b (by rw[j];exact hb) (q1.trans hi);rw[(q2 (q1.trans hi)).1]at g2 g3;exact⟨g2,g3⟩
 have simU:∀nm b,upM (bH m) r.upd nm=some b->b.simple=true:=λnm b hb=>by
  rw[dI]at hb;split at hb;rename_i b1 h1;cases hb;exact simB (hsim hm0).2.1 h1;exact simB (hsim hm0).1 hb
 have L:∀nm i b,cC (upM (bH m) r.upd) E4 nm i b->False:=λnm i b g=>by
  obtain⟨_,_,_,_,_,_,g1,_⟩:=g;have:=simU nm _ g1;cases this
 refine .inl ⟨hz,u,D3,E4,rfl,⟨hchg,λb hb=>A.dlo b (by rw[y,z];exact hb),λb hb=>?_,A.dlt,⟨λnm b hb=>?_,ownE,λnm nm' b b' hb f hi hi' e=>?_,fu.nil L⟩,λnm b b' h0 f hl=>e4s nm b' f (by rw[hl];unfold jV;rw[show m.lookup nm=some b from h0]),λnm b b' h0 f hi=>?_,λnm b h0 hb=>?_,λnm i b g=>(L nm i b g).elim⟩,AV.rel_ent (s:=false) (λnm b hb=>⟨h nm b hb,λe=>by cases e⟩) (λ_=>(hsim hm0).2.2) hrel3⟩;have:=A.dhi b hb;rw[y,z]at this;rcases this with g|g|⟨nm,blk,g1,g2,g3⟩;exact .inl g;exact .inr (.inl g);exact .inr (.inr ⟨nm,blk,g1,g2,g3⟩);have:=A.bl nm b (by rw[j];exact hb);rw[hP1,hm4]at this;exact dQ.ent (s:=false) (λnm b hb=>⟨h nm b hb,λe=>by cases e⟩) ⟨h nm b hb,λe=>by cases e⟩ (λ_=>simU nm b hb) this;obtain⟨q1,q2⟩:=h nm b hb;obtain⟨q3,q4⟩:=h nm' b' f;refine A.inj nm nm' b b' (by rw[j];exact hb) (by rw[j];exact f) (q1.trans hi) (q3.trans hi') ?_;rw[(q2 (q1.trans hi)).1,(q4 (q3.trans hi')).1];exact e;obtain⟨q1,q2⟩:=h nm b' f;have:=(A.own nm b' (by rw[j];exact f) (q1.trans hi)).1;rw[y,z,(q2 (q1.trans hi)).1]at this;exact this.symm;obtain⟨b1,g1,_⟩:=hlen4 nm b hb;have h0':m.lookup nm=none:=h0;rw[g1]at h0';cases h0'
variable {A:Ann}{f:FuncId}
theorem SR{b:Code}{Qg:Exit->St->Prop}{Z:Prop}(hK:ay c.P c.G c.K)(hI:aR c.P c.G c.KI)(hm:c.P.follows .mixedOrders=true)(hKP:bG c.P c.G c.KP)
  (hf:c.P.funcs[f]?=some fn) (hb:fn.body=some b) (hu0:(m.isEmpty||((r.upd.all λp=>m.any λq=>q.1==p.1)&&(fA m&&fA r.upd&&r.ret.simple)))=true) (z:∀p∈sj m r.upd,p)
  (h:ev c A b (fz fn args m) Qg) (hQ:∀e s,Qg e s->((e=.normal\/e=.ret)/\Z/\Pv c.P c.rng fn m r s)\/∃j,e=.panic j/\(sweep c.rng s).isSome=true/\X j)
  (w:World) (D:Nat->Prop) (E:Nat->Ent) (us:Lv) (hD:∀b,D b->b<w.heap.size) (hG:jG c.P ⟨w,D,bH m,E⟩ c.G) (L:AV.relL c.P ⟨w,D,bH m,E⟩ args us) (hH:Held c.P w D (bH m) E):
  Calls c.P f us.toArray w λe w'=>(Z/\∃v D' E',e=.returned v/\Left c.P (bH m) r.upd w D E w' D' E'/\r.ret.rel c.P ⟨w',D',upM (bH m) r.upd,E'⟩ v)\/∃j,e=.panicked j/\X j/\Chg (bD (bH m) E) w w':=by
 obtain⟨S,hS,HO,hln,u,key⟩:=SS (fn:=fn) (X:=X) (Z:=Z) hK hI hm hKP hu0 z w D E us hD hG L hH;have hSP:S.P=c.P:=by rw[hS]
 refine(callsIn_wide (n:=0)).1 (Db hf hb ?_);suffices hgo:At S.P S.rd b (bodyPostM Fence.wide 0 c.P fn λe w'=>(Z/\∃v D' E',e=.returned v/\Left c.P (bH m) r.upd w D E w' D' E'/\r.ret.rel c.P ⟨w',D',upM (bH m) r.upd,E'⟩ v)\/∃j,e=.panicked j/\X j/\Chg (bD (bH m) E) w w')
   {tmps:=us.toArray++Array.replicate (fn.ntmps-us.toArray.size) undef,defers:=[]} w by
  rw[hSP,show S.rd=none by rw[hS]]at hgo;exact hgo
 refine OJ b S (fz fn args m) Qg _ HO h hln (λe s' hq hl a' w' y=>?_) _ w ⟨D,E,u⟩;rcases hQ e s' hq with⟨he,hz,hq2⟩|⟨j,rfl,hsw,hx⟩;rcases he with rfl|rfl;exact key s' a' w' y hz hq2;exact key s' a' w' y hz hq2;obtain⟨D',E',hd⟩:=y;show LeavesInM Fence.wide 0 c.P fn a'.tmps _ a'.defers (.panicking j) w';rw[<- hSP];refine Qv (by rw[hS]) hsw (by rw[hS]) (by rw[hS];exact hD) hd λw2 h2=>?_;rw[hS]at h2;exact .inr ⟨j,rfl,hx,h2⟩
theorem rS(hK:ay c.P c.G c.K)(hI:aR c.P c.G c.KI)(hm:c.P.follows .mixedOrders=true)(hKP:bG c.P c.G c.KP)(h:evF c A f args m r):aj c.P c.G f args m r:=by
 intro y w D E us hD hG u hH;unfold evF at h;split at h;case h_2=>exact h.elim
 rename_i fn hf;split at h;case h_2=>exact h.elim
 rename_i b hb;obtain⟨z,h⟩:=h;obtain⟨j,h⟩:=bK (h y);refine(SR (X:=λ_=>False) (Z:=True) hK hI hm hKP hf hb z j h (λe s L=>?_) w D E us hD hG u hH).mono λe w' he=>?_;cases e<;>first
  |exact .inl ⟨.inl rfl,trivial,L⟩
  |exact .inl ⟨.inr rfl,trivial,L⟩
  |exact L.elim
 rcases he with⟨_,g⟩|⟨_,_,g,_⟩;exact g;exact g.elim
def evM(c:Cfg)(A:Ann)(f:FuncId)(args:List AV)(m:Mem)(ret:AV)(upd:Mem)(q:DR):Prop:=match c.P.funcs[f]? with
 |some fn=>match fn.body with
  |some b=>(m.isEmpty||((upd.all λp=>m.any λq=>q.1==p.1)&&(fA m&&fA upd&&ret.simple)))=true/\(q.pre->all (sj m upd) (ev c A b (fz fn args m) (λe s=>match e with
   |.normal=>q.ok=true/\Pv c.P c.rng fn m ⟨True,ret,upd⟩ s|.ret=>q.ok=true/\Pv c.P c.rng fn m ⟨True,ret,upd⟩ s|.panic ch=>q.ok=false/\(sweep c.rng s).isSome=true/\ch=chainOf q.pan|_=>False)))
  |none=>False
 |none=>False
abbrev evC(c:Cfg)(A:Ann)(f:FuncId)(args:List AV)(ret:AV)(q:DR):Prop:=evM c A f args [] ret [] q
theorem rR{ret:AV}{upd:Mem}{q:DR}(hK:ay c.P c.G c.K)(hI:aR c.P c.G c.KI)(hm:c.P.follows .mixedOrders=true)(hKP:bG c.P c.G c.KP)(h:evM c A f args m ret upd q):
  aj c.P c.G f args m ⟨q.pre/\q.ok=true,ret,upd⟩/\fq c.P c.G f args m q:=by
 unfold evM at h;split at h;case h_2=>exact h.elim
 rename_i fn hf;split at h;case h_2=>exact h.elim
 rename_i b hb;obtain⟨L,h⟩:=h;have key:=λ(j:q.pre)=>by
  obtain⟨y,h⟩:=bK (h j);exact SR (m:=m) (r:=⟨True,ret,upd⟩) (X:=λch=>q.ok=false/\ch=chainOf q.pan) (Z:=q.ok=true) hK hI hm hKP hf hb L y h (λe s z=>by
   cases e<;>first
    |exact .inl ⟨.inl rfl,z⟩
    |exact .inl ⟨.inr rfl,z⟩
    |exact .inr ⟨_,rfl,z.2.1,z.1,z.2.2⟩
    |exact z.elim)
 refine⟨λ⟨j,hok⟩ w D E us hD hG u hH=>(key j w D E us hD hG u hH).mono λe w' he=>?_,λj hk w D E us hD hG u hH=>(key j w D E us hD hG u hH).mono λe w' he=>?_⟩;rcases he with⟨_,g⟩|⟨_,_,⟨g,_⟩,_⟩;exact g;rw[hok]at g;cases g;rcases he with⟨g,_⟩|⟨ch,g1,⟨_,g2⟩,g3⟩;rw[hk]at g;cases g;subst g2;exact⟨g1,g3⟩
theorem ER{ret:AV}{q:DR}(u:ay c.P c.G c.K)(y:aR c.P c.G c.KI)(hm:c.P.follows .mixedOrders=true)(j:bG c.P c.G c.KP)(h:evC c A f args ret q):
  aj c.P c.G f args [] ⟨q.pre/\q.ok=true,ret,[]⟩/\fq c.P c.G f args [] q:=rR u y hm j h
theorem oy(u:ay c.P c.G c.K)(y:aR c.P c.G c.KI)(hm:c.P.follows .mixedOrders=true)(h:evF c A f args m r)(j:c.KP=λ_ _ _=>none:=by rfl):aj c.P c.G f args m r:=
 rS u y hm (λf args m r h=>by rw[j]at h;cases h) h
end Go.Eng
namespace Go.Eng
open Go.RowKit
def Yn:Code->Option (Code×Array Oper×Code)|.seq pre (.seq (.region _ ops false) rest)=>some (pre,ops,rest)|_=>none
def Yo:Code->Option (Array Oper×Code)|.seq (.region _ ops false) rest=>some (ops,rest)|_=>none
def guardOf:List Oper->Option (Tmp×FuncId×List Operand)
 |[⟨some t,.makeFunc (.func cf) first caps,_,_,_,none⟩,⟨none,.defer ⟨.value (.tmp t'),dargs,_⟩,_,_,_,none⟩]=>if first.isEmpty&&t==t'&&dargs.isEmpty then some (t,cf,caps.toList)else none
 |_=>none
def FW:List Oper->Option (Tmp×Tmp)|[⟨some t3,.call ⟨.builtin .recover,rargs,_⟩,_,_,_,none⟩,⟨some t2,.assign (.tmp t),_,_,_,none⟩]=>if t==t3&&rargs.isEmpty then some (t3,t2)else none|_=>none
def OE(G:List (Nat×AV))(t:Tmp)(cf:FuncId)(caps:List Operand)(s:St):St:={setSlot (some t) (.fn cf (caps.map (evT G s.sig.T))) s with sv:=caps.map (evT G s.sig.T)}
def TL(fc:Func)(t3 t2:Tmp)(rec:AV)(s:St):St:=setSlot (some t2) rec (setSlot (some t3) rec ⟨s.sv++List.replicate (fc.ntmps-s.sv.length) (.val undef),s.mem,s.nx,s.tm⟩)
def iB:List PanicEntry->Option AV|[⟨.iface t (.int k x),false,false⟩]=>some (.ifc t (.dat (.int k) x))|_=>none
def A8(c:Cfg)(Ac:Ann)(fn fc:Func)(crest:Code)(t3 t2:Tmp)(r:lI)(rec:AV)(s:St):Prop:=
 nG (some t3) (s.sv.length+(fc.ntmps-s.sv.length))=true/\nG (some t2) (s.sv.length+(fc.ntmps-s.sv.length))=true/\ev c Ac crest (TL fc t3 t2 rec s) (λe s3=>match e with
  |.normal=>Pv c.P c.rng fn [] r (ui s3)|.ret=>Pv c.P c.rng fn [] r (ui s3)|_=>False)
structure Uw where
 fn:Func
 pre:Code
 rest:Code
 t:Tmp
 cf:FuncId
 caps:List Operand
 fc:Func
 crest:Code
 t3:Tmp
 t2:Tmp
def Ls(P:Program)(f:FuncId):Option Uw:=match P.funcs[f]? with
 |some fn=>match fn.body with
  |some b=>match Yn b with
   |some (pre,gops,rest)=>match guardOf gops.toList with
    |some (t,cf,caps)=>match P.funcs[cf]? with
     |some fc=>match fc.body with
      |some cb=>match Yo cb with
       |some (rops,crest)=>match FW rops.toList with
        |some (t3,t2)=>if fc.results.toList.isEmpty then some ⟨fn,pre,rest,t,cf,caps,fc,crest,t3,t2⟩else none|none=>none
       |none=>none
      |none=>none
     |none=>none
    |none=>none
   |none=>none
  |none=>none
 |none=>none
structure aDx(P:Program)(f:FuncId)(g:Uw):Prop where
 f:P.funcs[f]?=some g.fn
 b:∃gid gops,g.fn.body=some (.seq g.pre (.seq (.region gid gops false) g.rest))/\guardOf gops.toList=some (g.t,g.cf,g.caps)
 cf:P.funcs[g.cf]?=some g.fc
 cb:∃cid rops,g.fc.body=some (.seq (.region cid rops false) g.crest)/\FW rops.toList=some (g.t3,g.t2)
 res:g.fc.results=#[]
variable {P:Program}
theorem Rb{f:FuncId}{g:Uw}(h:Ls P f=some g):aDx P f g:=by
 unfold Ls at h;split at h;case h_2=>cases h
 rename_i fn hf;split at h;case h_2=>cases h
 rename_i b hb;split at h;case h_2=>cases h
 rename_i pre L rest y;split at h;case h_2=>cases h
 rename_i t cf caps hg;split at h;case h_2=>cases h
 rename_i fc z;split at h;case h_2=>cases h
 rename_i cb A;split at h;case h_2=>cases h
 rename_i G crest j;split at h;case h_2=>cases h
 rename_i t3 t2 X;split at h;case isFalse=>cases h
 rename_i u;cases h;refine⟨hf,?_,z,?_,yR (zD.1 u)⟩;unfold Yn at y;split at y;cases y;exact⟨_,_,hb,hg⟩;cases y;unfold Yo at j;split at j;cases j;exact⟨_,_,A,X⟩;cases j
inductive aDe:FrameMode->Value->FrameMode->Prop where
 |ret:aDe .returning .nilIface .returning
 |pan (v:Value):aDe (.panicking [{v:=v,recovered:=false}]) v (.panicking [{v:=v,recovered:=true}])
theorem TK{cf:FuncId}{fc:Func}{cid:Nat}{f:Array Oper}{crest:Code}{t3 t2:Tmp}(hf:P.funcs[cf]?=some fc)(hb:fc.body=some (.seq (.region cid f false) crest))(hr:FW f.toList=some (t3,t2))(hres:fc.results=#[])
  {args:Array Value}{u G:FrameMode}{z:Value} (hrec:aDe u z G) {w:World}{R:World->Prop}{a0:Act} (ha0:a0={tmps:=args++Array.replicate (fc.ntmps-args.size) undef,defers:=[]})
  (h:At P none crest (λe a w=>(e=.normal\/e=.ret)/\a.defers=[]/\R w) ((a0.put (some t3) z).put (some t2) ((a0.put (some t3) z).eval (.tmp t3))) w):
  CallsDIn Fence.wide 0 P cf args u w λe u' w'=>(∃v,e=.returned v)/\u'=G/\R w':=by
 refine⟨trivial,λc cs hu hroom=>?_⟩;obtain⟨b,hB⟩:∃b:Frame,b={ (default:Frame)with fn:=cf,kind:=.deferred,roundOf:=none}:=⟨_,rfl⟩;have hfn:b.fn=cf:=by rw[hB]
 have hk:b.kind=.deferred:=by rw[hB]
 have L:b.roundOf=none:=by rw[hB]
 have e0:Frame.enter P cf args .deferred=b.atR a0 [.code (.seq (.region cid f false) crest)]:=by rw[hB,ha0];simp[Frame.enter,Frame.atR,hf,hb]
 unfold FW at hr;split at hr;case h_2=>cases hr
 rename_i t3' rargs at1 ty1 pos1 af1 y t ty2 pos2 af2 hl;split at hr;case isFalse=>cases hr
 rename_i hc;simp only[qE,yX,Array.isEmpty_iff]at hc;obtain⟨rfl,rfl⟩:=hc;simp only[vT,kL]at hr;obtain⟨rfl,rfl⟩:=hr;obtain⟨o1,ho1⟩:∃o1:Oper,o1=⟨some t,.call ⟨.builtin .recover,#[],at1⟩,ty1,pos1,af1,none⟩:=⟨_,rfl⟩;obtain⟨o2,X⟩:∃o2:Oper,o2=⟨some y,.assign (.tmp t),ty2,pos2,af2,none⟩:=⟨_,rfl⟩;have A:f=#[o1,o2]:=by
  apply yR;rw[ho1,X];exact hl
 have w1n:∀g,Region.wanted o1 g=true:=λg=>by rw[ho1];rfl
 have w2n:∀g,Region.wanted o2 g=true:=λg=>by rw[X];rfl
 have x1:∀a:Act,(execOp a.eval o1).run P w=.ok .recover w:=λa=>by
  rw[ho1];simp[execOp,resolve,invoke,builtin]
 have x2:∀a:Act,(execOp a.eval o2).run P w=.ok (.value (a.eval (.tmp t))) w:=λa=>by rw[X];rfl
 have d1:o1.dst=some t:=by rw[ho1]
 have d2:o2.dst=some y:=by rw[X]
 have hw:wpOpsSIn Fence.wide 0 P f (λe a' cs' w'=>e=.normal/\a'=(a0.put (some t) z).put (some y) ((a0.put (some t) z).eval (.tmp t))/\cs'={c with mode:=G}::cs/\w'=w) (List.range f.size) a0 (c::cs) w:=by
  have hsz:f.size=2:=by rw[A];rfl
  rw[hsz];have h0:f[0]?=some o1:=by rw[A];rfl
  have h1:f[1]?=some o2:=by rw[A];rfl
  show wpOpsSIn _ _ _ _ _ [0,1] _ _ _;simp only[wpOpsSIn,h0,h1,w1n,w2n,kE,x1,x2,d1,d2];refine⟨λ_ _=>trivial,?_⟩;cases hrec with
  |ret=>
   have hrd:recoverD (c::cs)=none:=by simp[recoverD,hu]
   rw[hrd];refine⟨λ_ _=>trivial,trivial,rfl,?_,trivial⟩;rw[<- hu]
  |pan v=>
   have hrd:recoverD (c::cs)=some (z,{c with mode:=.panicking [{v:=z,recovered:=true}]}::cs):=by simp[recoverD,hu]
   rw[hrd];exact⟨λ_ _=>trivial,trivial,rfl,rfl,trivial⟩
 obtain⟨e1,a1,cs1,w1,_,⟨rfl,rfl,rfl,rfl⟩,harr⟩:=wp_opsSIn _ a0 (c::cs) w hw b [.code crest] hk L trivial (room_wide _);have hs1:StepsIn Any P (lone (Frame.enter P cf args .deferred) (c::cs) w1) (lone (b.atR ((a0.put (some t) z).put (some y) ((a0.put (some t) z).eval (.tmp t))) [.code crest]) ({c with mode:=G}::cs) w1):=by
  rw[e0];exact(gm stepR_seq).trans ((gm stepR_region).trans (toAny harr))
 obtain⟨e,a',w',⟨he,hd,hR⟩,r⟩:=h b [] ({c with mode:=G}::cs) L (by rw[hfn,hf];rfl);have done:∀j,StepsIn Any P (lone (b.atR ((a0.put (some t) z).put (some y) ((a0.put (some t) z).eval (.tmp t))) [.code crest]) ({c with mode:=G}::cs) w1) (lone {b.atR a' j with mode:=.returning} ({c with mode:=G}::cs) w')->
   ∃e u' w2 fr,((∃v,e=.returned v)/\u'=G/\R w2)/\ComesIn (Machine.fenced P Fence.wide) P (lone (Frame.enter P cf args .deferred) (c::cs) w1) (lone fr ({c with mode:=u' }::cs) w2) e/\fr.kind=.deferred/\fr.fn=cf/\fr.going P w2 e:=
  λj hs=>⟨.returned (.tuple #[]),G,w',{b.atR a' j with mode:=.returning},⟨⟨_,rfl⟩,rfl,hR⟩,Wl (hs1.trans hs),hk,hfn,rfl,hd,fc,(by rw[show({b.atR a' j with mode:=.returning}:Frame).fn=cf from hfn];exact hf),by simp[results,hres]⟩
 rcases he with rfl|rfl
 .exact done [] (StepsIn.trans r (gm (stepR_end L)))
 .obtain⟨j,hs⟩:=r.1 L;exact done j hs
theorem aL.clo{S:Base}{σ:Sig}{a:Act}{w:World}{D:Nat->Prop}{E:Nat->Ent}(h:aL S σ a w D E){N:Nat}{tm:Nat->AV}{tmps:Array Value}(j:tmps.size=N)
  (f:∀t,(tm t).rel S.P ⟨w,D,σ.m,E⟩ (tmps.getD t undef)) {sv:List AV}{vs:Lv} (u:AV.relL S.P ⟨w,D,σ.m,E⟩ sv vs):
  aL {P:=S.P,w0:=w,D0:=D,N:=N,O:=aC σ.m E,G:=S.G,sv:=vs,rd:=none,nod:=true} ⟨tm,σ.m,sv⟩ {tmps:=tmps,defers:=[]} w D E:=
 ⟨j,⟨⟨λ_=>rfl,⟨[],rfl⟩,xC⟩,λd hd=>by cases hd⟩,f,h.bl,λnm b hm hi=>⟨.inr (.inl ⟨nm,b,hm,hi,rfl⟩),(h.own nm b hm hi).2⟩,h.inj,Chg.refl _ _,h.dlt,λ_ g=>g,λ_ g=>.inl g,h.gl,u,
  ⟨λnm i b g=>⟨.inr (.inr ⟨nm,i,g⟩),(h.pv.own nm i b g).2⟩,h.pv.ent,h.pv.inj⟩⟩
theorem aB0{args:List AV}{n:Nat}{us:Lv}{C:Ctx}(h:AV.relL P C args us)(t:Nat):
  ((args++List.replicate (n-args.length) (AV.val undef)).getD t .top).rel P C ((us.toArray++Array.replicate (n-us.toArray.size) undef).getD t undef):=by
 have f:args.length=us.length:=AV.relL_length h;rw[qA,qP];by_cases j:t<args.length;rw[vU j,kM (by simpa using f▸j)];obtain⟨u,y,g2⟩:=AV.relL_get h (qB j);rw[qB j];simp only[kQ,y,vJ];exact g2;rw[qV Z,kJ (by simp;omega)];rw[wU,yQ];split;rename_i z;rw[if_pos (by simp;omega)];rfl;trivial
theorem XM{c:Cfg}{Ac:Ann}{fn fc:Func}{cf:FuncId}{cid:Nat}{rops:Array Oper}{crest:Code}{t3 t2:Tmp}{r:lI}{S:Base}(HO:OkS c S)(hrng:c.rng=false)(hSs:S.sv=[])(hSr:S.rd=none)(hSn:S.nod=true)(hSg:S.gd=[])
  (hf:c.P.funcs[cf]?=some fc) (hb:fc.body=some (.seq (.region cid rops false) crest)) (hr:FW rops.toList=some (t3,t2)) (hres:fc.results=#[]) (hgo:goes c.P cf=true) {POST:Ending->World->Prop}
  (key:∀s' a' w',Sim S s'.sig a' w'->True->Pv c.P c.rng fn [] r s'->LeavesInM Fence.wide 0 c.P fn a'.tmps POST a'.defers .returning w')
  {us:Lv}{d:Deferred} (hd:d={target:=.fn (.func cf) us.toArray,args:=#[]}) {u u2:FrameMode}{rv:Value} (hrec:aDe u rv u2) (hu2:settle u2=.returning) (hur:u≠.run) {rec:AV}{s:St}{a:Act}{w:World}
  (hs:Sim {S with gd:=[d],sv:=us} s.sig a w) (hl:s.tm.length=S.N) (hrv:∀C:Ctx,rec.rel c.P C rv) (h:A8 c Ac fn fc crest t3 t2 r rec s):LeavesInM Fence.wide 0 c.P fn a.tmps POST [d] u w:=by
 obtain⟨h1,h2,h3⟩:=h;obtain⟨D,E,j⟩:=hs;have hP:=HO.P;obtain⟨z,f⟩:∃z:Base,z={P:=S.P,w0:=w,D0:=D,N:=s.sv.length+(fc.ntmps-s.sv.length),O:=aC s.sig.m E,G:=S.G,sv:=a.tmps.toList,rd:=none,nod:=true}:=⟨_,rfl⟩;obtain⟨a0,ha0⟩:∃a0:Act,a0={tmps:=us.toArray++Array.replicate (fc.ntmps-us.toArray.size) undef,defers:=[]}:=⟨_,rfl⟩;have X:AV.relL S.P ⟨w,D,s.sig.m,E⟩ s.sv us:=j.svr;have hlen:s.sv.length=us.length:=AV.relL_length X;have svs:AV.relL S.P ⟨w,D,s.sig.m,E⟩ s.tm a.tmps.toList:=by
  have hsz:a.tmps.size=S.N:=j.sz;refine AV.relL_mk (by rw[hl,vI,hsz]) λi av v hi hv=>?_;have:=j.tm i;have e1:s.sig.T i=av:=by show s.tm.getD i .top=av;rw[qA,hi];rfl
  have e2:a.tmps.getD i undef=v:=by
   rw[qP];simp only[yB]at hv;rw[hv];rfl
  rw[e1]at this;simpa only[e2]using this
 obtain⟨s0,L⟩:∃s0:St,s0=⟨s.sv++List.replicate (fc.ntmps-s.sv.length) (.val undef),s.mem,s.nx,s.tm⟩:=⟨_,rfl⟩;have hc0:aL z s0.sig a0 w D E:=by
  have hsz0:(us.toArray++Array.replicate (fc.ntmps-us.toArray.size) undef).size=s.sv.length+(fc.ntmps-s.sv.length):=by simp[hlen]
  have:=j.clo (N:=s.sv.length+(fc.ntmps-s.sv.length)) (tm:=s0.sig.T) (tmps:=us.toArray++Array.replicate (fc.ntmps-us.toArray.size) undef) hsz0 (λt=>by rw[L];exact aB0 X t) svs;rw[f,ha0,L];rw[L]at this;exact this
 have hl0:s0.tm.length=z.N:=by rw[L,f];simp
 have hSP:z.P=S.P:=by rw[f]
 have hc1:aL z (setSlot (some t3) rec s0).sig (a0.put (some t3) rv) w D E:=hc0.slot hl0 (by rw[hl0,f];exact h1) (by rw[hSP,<- hP];exact hrv _);have hl1:(setSlot (some t3) rec s0).tm.length=z.N:=by simp[setSlot,hl0]
 have hc2:aL z (TL fc t3 t2 rec s).sig ((a0.put (some t3) rv).put (some t2) ((a0.put (some t3) rv).eval (.tmp t3))) w D E:=by
  have h5:=hc1.tm t3;have e5:(setSlot (some t3) rec s0).sig.T t3=rec:=by
   show(s0.tm.set t3 rec).getD t3 .top=rec;have ht:t3<s0.tm.length:=by rw[hl0,f];simpa[nG]using h1
   rw[qA,zV ht];rfl
  rw[e5]at h5;have:=hc1.slot (d:=some t2) (x:=rec) (v:=(a0.put (some t3) rv).tmps.getD t3 undef) hl1 (by rw[hl1,f];exact h2) h5;rw[L]at this;exact this
 have HOc:OkS c z:=by
  rw[f];exact⟨HO.P,HO.G,HO.K,HO.I,HO.m,λe=>(e rfl).elim,λ_=>by rw[hrng];rfl,HO.KP⟩
 have hat:=OJ crest z (TL fc t3 t2 rec s) _ (λe a' w'=>(e=.normal\/e=.ret)/\a'.defers=[]/\LeavesInM Fence.wide 0 c.P fn a.tmps POST [] .returning w') HOc h3 (by show _=z.N;simp[TL,setSlot];rw[f]) (λe s3 hq hl3 a3 w3 hs3=>by
  obtain⟨D3,E3,h5⟩:=hs3;have hdef:a3.defers=[]:=(h5.df.1.1 (by rw[f])).trans (by rw[f]);have A:∀y,aC s.sig.m E y->S.w0.heap.size<=y\/S.O y:=λy g0=>(j.ownAll g0).1;have hlow:Chg S.O S.w0 w3:=by
   have l1:Chg S.O S.w0 w:=j.low;have l2:Chg (aC s.sig.m E) w w3:=by have:=h5.low;rw[f]at this;exact this
   refine l1.step l2.os l2.tape l2.output l2.size λq hq hno=>l2.block q (qK hq l1.size) λg=>?_;rcases A q g with g|g;omega;exact hno g
  have hout:aL S (ui s3).sig {tmps:=a.tmps,defers:=[]} w3 D3 E3:=
   h5.leave (S:=S) (a0:={tmps:=a.tmps,defers:=[]}) hSP (by rw[f]) (by rw[f]) j.sz (λy g=>by
    rw[f]at g;rcases g with g|g;exact .inl (vP (show S.w0.heap.size<=w.heap.size from j.low.size) g);exact A y g) hlow (λy g=>h5.dlo y (by rw[f];exact j.dlo y g)) (λy g=>by
    have:=h5.dhi y g;rw[f]at this;rcases this with g|g|g;exact j.dhi y g;exact .inr (.inl (vP (show S.w0.heap.size<=w.heap.size from j.low.size) g));exact(A y g).elim (λg=>.inr (.inl g)) (λg=>.inr (.inr g))) ⟨⟨λ_=>hSg.symm,⟨[],hSg.symm⟩,xC⟩,λd hd=>(by cases hd)⟩ hSs
  have fin:=λhq=>key (ui s3) {tmps:=a.tmps,defers:=[]} w3 ⟨D3,E3,hout⟩ trivial hq;cases e<;>first
   |exact⟨.inl rfl,hdef,fin hq⟩
   |exact⟨.inr rfl,hdef,fin hq⟩
   |exact hq.elim) _ w ⟨D,E,hc2⟩
 rw[show z.P=c.P by rw[hSP,hP],show z.rd=none by rw[f]]at hat;have hcall:=TK (args:=us.toArray) hf hb hr hres hrec ha0 hat;subst hd;refine⟨hur,.inr ⟨λh=>(by cases h),.func cf,us.toArray,cf,us.toArray,rfl,?_,λ_ _=>trivial,hcall.mono λe u' w' he=>?_⟩⟩;simp only[invoke,qAn];exact mF hgo w us.toArray;obtain⟨⟨v,rfl⟩,rfl,hq⟩:=he;show LeavesInM _ _ _ _ _ _ _ (settle u') w';rw[hu2];exact hq
theorem Wa{z:List PanicEntry}{v:AV}(h:iB z=some v):∃f,z=[{v:=f,recovered:=false}]/\∀(P:Program) (C:Ctx),v.rel P C f:=by
 unfold iB at h;split at h;rename_i t k x;cases h;exact⟨_,rfl,λP C=>⟨_,rfl,rfl⟩⟩;cases h
end Go.Eng
namespace Go.Eng
open Go.RowKit
def Cfg.norng(c:Cfg):Cfg:={c with rng:=false}
def Cfg.bare(c:Cfg)(Kz:Kt):Cfg:=⟨c.P,[],Kz,c.mb,λ_ _=>none,false,λ_ _ _=>none,λ_=>false⟩
def uk(c:Cfg)(s:St)(Q:St->Prop):Prop:=match sweep c.rng s with|some s1=>Q s1|none=>False
def aF4(c:Cfg)(Kz:Kt)(Ac:Ann)(fn fc:Func)(crest:Code)(t3 t2:Tmp)(r:lI):Exit->St->Prop
 |.normal,s=>uk c s (A8 (c.bare Kz) Ac fn fc crest t3 t2 r (.val .nilIface))|.ret,s=>uk c s (A8 (c.bare Kz) Ac fn fc crest t3 t2 r (.val .nilIface))|.panic ch,s=>match iB ch with
  |some v=>uk c s (A8 (c.bare Kz) Ac fn fc crest t3 t2 r v)|none=>False
 |_,_=>False
def evR(c:Cfg)(Kz:Kt)(A0 A Ac:Ann)(f:FuncId)(args:List AV)(r:lI):Prop:=match Ls c.P f with
 |some g=>(c.rng=true/\goes c.P g.cf=true)/\(r.pre->ev c.norng A0 g.pre (fz g.fn args []) (λe s=>match e with
   |.normal=>nG (some g.t) s.tm.length=true/\ev c A g.rest (OE c.G g.t g.cf g.caps s) (aF4 c Kz Ac g.fn g.fc g.crest g.t3 g.t2 r)|_=>False))
 |none=>False
variable {E:Nat->Ent}
theorem Qu{S:Base}{rng:Bool}{s j:St}(f:sweep rng s=some j){a:Act}{w:World}{D:Nat->Prop}(h:aL S s.sig a w D E)(z:rng=true):IQ j.sig/\aL S j.sig a w D E/\j.tm.length=s.tm.length:=by
 subst z;unfold sweep at f;simp only[kE]at f;split at f;case isFalse=>cases f
 rename_i u;cases f;simp only[qE,qW]at u;have y:∀t,(s.tm.map lA).getD t .top=lA (s.tm.getD t .top):=λt=>by
  simp only[qA,qQ];cases s.tm[t]? with
  |none=>rfl|some x=>rfl
 refine⟨⟨λt=>?_,λnm b hm=>u.1 (nm,b) (dc hm),u.2⟩,⟨h.sz,h.df,λt=>?_,h.bl,h.own,h.inj,h.low,h.dlt,h.dlo,h.dhi,h.gl,h.svr,h.pv⟩,by simp⟩;show dN ((s.tm.map lA).getD t .top)=true;rw[y];exact oM _;show((s.tm.map lA).getD t .top).rel S.P _ _;rw[y];exact xe (h.tm t)
theorem sh{S:Base}{fn:Func}{R:Ending->World->Prop}{u:FrameMode}{gd:List Deferred}(f:S.gd=gd)(j:∀d∈gd,∀k,d.target≠.collected k)(y:∀b,S.D0 b->b<S.w0.heap.size){σ:Sig}(hp:IQ σ)(X:u≠.run){tmps:Array Value}:∀(ds:List Deferred) (w:World) (D:Nat->Prop),
  aL {S with G:=[]} σ {tmps:=tmps,defers:=ds} w D E->(∀L D2,aL {S with G:=[]} σ {tmps:=tmps,defers:=gd} L D2 E->LeavesInM Fence.wide 0 S.P fn tmps R gd u L)->
  LeavesInM Fence.wide 0 S.P fn tmps R ds u w
 |[],w,D,h,z=>by
  have hg:gd=[]:=by
   obtain⟨ms,e⟩:=h.df.1.2.1;have e:[]=ms++S.gd:=e;rw[f]at e;exact(qBs.1 e.symm).2
  have:=z w D (by rw[hg];exact h);rw[hg]at this;exact this
 |d::ds,w,D,h,z=>by
  rcases h.df.2 d wL with⟨g,_⟩|⟨k,rfl,_⟩;have g:d∈S.gd:=g;rw[f]at g;have e:d::ds=gd:=by
   obtain⟨⟨_,⟨ms,e⟩,A⟩,hall⟩:=h.df;have e:d::ds=ms++gd:=by rw[<- f];exact e
   cases ms with
   |nil=>exact e|cons x ms=>
    exfalso;simp only[qCx,vG]at e;obtain⟨rfl,e2⟩:=e;have hm:d∈ds:=by rw[e2];exact qI.2 (.inr g)
    exact(kC.1 A).1 d hm rfl
  rw[e]at h ⊢;exact z w D h;obtain⟨h1,h2⟩:=aL.shr (a:={tmps:=tmps,defers:=[]}) h hp y (by rw[f];exact j);exact⟨X,.inl ⟨k,_,rfl,run_takeDeferred h1,sh f j y hp X ds _ _ h2 z⟩⟩
theorem rQ{c:Cfg}{Kz:Kt}{A A0 Ac:Ann}{f:FuncId}{args:List AV}{r:lI}(hKz:ay c.P [] Kz)(hK:ay c.P c.G c.K)(hI:aR c.P c.G c.KI)(hm:c.P.follows .mixedOrders=true)(hKP:bG c.P c.G c.KP)(h:evR c Kz A0 A Ac f args r):aj c.P c.G f args [] r:=by
 intro hpre w D E us hD hG hargs hH;unfold evR at h;split at h;case h_2=>exact h.elim
 rename_i g hg;obtain⟨⟨hrng,hgo⟩,h⟩:=h;have h:=h hpre;obtain⟨hf,⟨gid,gops,hb,hgd⟩,hcf,⟨cid,rops,hcb,hrec⟩,hres⟩:=Rb hg;obtain⟨Z,hZ,HOZ,hlnZ,y,key⟩:=SS (c:=c.bare Kz) (m:=[]) (r:=r) (fn:=g.fn) (X:=λ_=>False) (Z:=True) hKz (λ_ _ _ h=>by cases h) hm (λ_ _ _ _ h=>by cases h) rfl (λ_ h=>by cases h) w D E us hD (λp hp=>by cases hp) hargs hH;obtain⟨S,hS⟩:∃S:Base,S={Z with G:=c.G}:=⟨_,rfl⟩;have hZP:Z.P=c.P:=by rw[hZ];rfl
 have hZG:Z.G=[]:=by rw[hZ];rfl
 have hZr:Z.rd=none:=by rw[hZ]
 have hZs:Z.sv=[]:=by rw[hZ];rfl
 have hZg:Z.gd=[]:=by rw[hZ]
 have hZn:Z.nod=true:=by rw[hZ];rfl
 have hSP:S.P=c.P:=by rw[hS];exact hZP
 have HO:OkS c.norng S:=by
  rw[hS,hZ];exact⟨rfl,rfl,hK,hI,hm,λe=>(e rfl).elim,λ_=>rfl,hKP⟩
 have hln:(fz g.fn args []).tm.length=S.N:=by rw[hS];exact hlnZ
 have hstart:aL S (fz g.fn args []).sig {tmps:=us.toArray++Array.replicate (g.fn.ntmps-us.toArray.size) undef,defers:=[]} w D E:=by
  rw[hS];exact⟨y.sz,y.df,λx=>by rw[show({Z with G:=c.G}:Base).P=Z.P from rfl];exact y.tm x,y.bl,y.own,y.inj,y.low,y.dlt,y.dlo,y.dhi,by show jG Z.P _ c.G;rw[hZP];exact hG,y.svr,y.pv⟩
 have hSr:S.rd=none:=by rw[hS];exact hZr
 have hSg:S.gd=[]:=by rw[hS];exact hZg
 have hSn:S.nod=true:=by rw[hS];exact hZn
 suffices hfin:Calls c.P f us.toArray w (λe w'=>(True/\∃v D' E',e=.returned v/\Left c.P (bH []) r.upd w D E w' D' E'/\r.ret.rel c.P ⟨w',D',upM (bH []) r.upd,E'⟩ v)\/∃ch,e=.panicked ch/\False/\Chg (bD (bH []) E) w w')from
  hfin.mono λe w' he=>by
   rcases he with⟨_,g⟩|⟨_,_,g,_⟩;exact g;exact g.elim
 refine(callsIn_wide (n:=0)).1 (Db hf hb ?_);suffices hgo2:At S.P S.rd (.seq g.pre (.seq (.region gid gops false) g.rest)) (bodyPostM Fence.wide 0 c.P g.fn (λe w'=>(True/\∃v D' E',e=.returned v/\Left c.P (bH []) r.upd w D E w' D' E'/\r.ret.rel c.P ⟨w',D',upM (bH []) r.upd,E'⟩ v)\/∃ch,e=.panicked ch/\False/\Chg (bD (bH []) E) w w'))
   {tmps:=us.toArray++Array.replicate (g.fn.ntmps-us.toArray.size) undef,defers:=[]} w by
  rw[hSP,hSr]at hgo2;exact hgo2
 refine xF (OJ (c:=c.norng) g.pre S (fz g.fn args []) _ _ HO h hln (λe s L hl a1 w1 hs=>?_) _ w ⟨D,E,hstart⟩);cases e<;>first|exact L.elim|skip
 obtain⟨hdt,hrest⟩:=L;obtain⟨D1,E1,hd1⟩:=hs;have hdef:a1.defers=[]:=(hd1.df.1.1 hSn).trans hSg;unfold guardOf at hgd;split at hgd;case h_2=>cases hgd
 rename_i t cf first caps ty1 pos1 af1 t' dargs at2 ty2 pos2 af2 hl0
 split at hgd;case isFalse=>cases hgd
 rename_i hc;simp only[qE,yX,Array.isEmpty_iff]at hc;obtain⟨⟨rfl,rfl⟩,rfl⟩:=hc;simp only[vT,kL]at hgd;obtain⟨e1,e2,e3⟩:=hgd;obtain⟨o1,ho1⟩:∃o1:Oper,o1=⟨some t,.makeFunc (.func cf) #[] caps,ty1,pos1,af1,none⟩:=⟨_,rfl⟩;obtain⟨o2,ho2⟩:∃o2:Oper,o2=⟨none,.defer ⟨.value (.tmp t),#[],at2⟩,ty2,pos2,af2,none⟩:=⟨_,rfl⟩;have hops:gops=#[o1,o2]:=by
  apply yR;rw[ho1,ho2];exact hl0
 have hcapv:AV.relL S.P ⟨w1,D1,s.sig.m,E1⟩ (g.caps.map (evT c.G s.sig.T)) (g.caps.map a1.eval):=by
  refine AV.relL_mk (by simp) λj av u h1 h2=>?_;simp only[qQ,gB]at h1 h2;obtain⟨x,hx,rfl⟩:=h1;obtain⟨x',hx',rfl⟩:=h2;rw[hx]at hx';cases hx';have:=dX hd1 x;rw[<- HO.G]at this;exact this
 obtain⟨fv,hfv⟩:∃fv:Value,fv=.func (.func cf) #[] (g.caps.map a1.eval).toArray:=⟨_,rfl⟩;obtain⟨d,hd⟩:∃d:Deferred,d={target:=.fn (.func g.cf) (g.caps.map a1.eval).toArray,args:=#[]}:=⟨_,rfl⟩;have ht:t<S.N:=by
  rw[e1];rw[<- hl];simpa[nG]using hdt
 have hsz1:a1.tmps.size=S.N:=hd1.sz;have hev:(a1.put (some t) fv).eval (.tmp t)=fv:=by
  show(a1.tmps.setIfInBounds t fv).getD t undef=fv;simp[Array.getD,hsz1,ht]
 have x1:(execOp a1.eval o1).run S.P w1=.ok (.value fv) w1:=by
  rw[ho1,hfv,<- e3,<- toList_map];simp[execOp,Instr.makeFunc]
 have x2:(execOp (a1.put (some t) fv).eval o2).run S.P w1=.ok (.defer d) w1:=by
  rw[ho2,hd,<- e2];have:(a1.put (some t) fv).eval (.tmp t)=.func (.func cf) #[] (g.caps.map a1.eval).toArray:=by rw[hev,hfv]
  simp only[execOp,resolve,this,Deferred.ofValue];simp
 have hreg:At S.P S.rd (.region gid gops false) (Exit.then (At S.P S.rd g.rest (bodyPostM Fence.wide 0 c.P g.fn λe w'=>(True/\∃v D' E',e=.returned v/\Left c.P (bH []) r.upd w D E w' D' E'/\r.ret.rel c.P ⟨w',D',upM (bH []) r.upd,E'⟩ v)\/∃ch,e=.panicked ch/\False/\Chg (bD (bH []) E) w w'))
   (bodyPostM Fence.wide 0 c.P g.fn λe w'=>(True/\∃v D' E',e=.returned v/\Left c.P (bH []) r.upd w D E w' D' E'/\r.ret.rel c.P ⟨w',D',upM (bH []) r.upd,E'⟩ v)\/∃ch,e=.panicked ch/\False/\Chg (bD (bH []) E) w w')) a1 w1:=by
  refine Ph (wpIn_region ?_);have hF:S.F=Fence.wide:=by unfold Base.F;rw[hSr]
  rw[hF];have hz:gops.size=2:=by rw[hops];rfl
  rw[hz];have h0:gops[0]?=some o1:=by rw[hops];rfl
  have h1:gops[1]?=some o2:=by rw[hops];rfl
  show wpOpsIn _ _ _ _ _ [0,1] _ _;have w1n:∀g,Region.wanted o1 g=true:=λg=>by rw[ho1];rfl
  have w2n:∀g,Region.wanted o2 g=true:=λg=>by rw[ho2];rfl
  have d1:o1.dst=some t:=by rw[ho1]
  have d2:o2.dst=none:=by rw[ho2]
  simp only[wpOpsIn,h0,h1,w1n,w2n,kE,Oper.wpIn];refine⟨λ_ _=>trivial,?_⟩;rw[show Fence.wide.round=none from rfl,Oper.semAt_none,x1,Oper.uponIn_value,d1];refine⟨λ_ _=>trivial,?_⟩;rw[Oper.semAt_none,x2,Oper.uponIn_defer,d2];obtain⟨S2,hS2⟩:∃S2:Base,S2={S with gd:=[d],sv:=g.caps.map a1.eval,nod:=false}:=⟨_,rfl⟩;have HO2:OkS c S2:=by
   rw[hS2];exact⟨HO.P,HO.G,HO.K,HO.I,HO.m,λe=>(e hSr).elim,λ_=>by rw[hrng];rfl,HO.KP⟩
  have z:=hd1.slot (d:=some t) (v:=fv) (x:=.fn cf (g.caps.map (evT c.G s.sig.T))) hl (by rw[e1];exact hdt) ⟨_,hfv,hcapv⟩;have hd2:aL S2 (OE c.G g.t g.cf g.caps s).sig { (a1.put (some t) fv)with defers:=d::(a1.put (some t) fv).defers} w1 D1 E1:=by
   have hde:(a1.put (some t) fv).defers=[]:=hdef;rw[hde,<- e1,<- e2,hS2];refine⟨z.sz,⟨⟨λ_=>rfl,⟨[],rfl⟩,qBk _ _⟩,λq L=>.inl ⟨L,λk e=>?_⟩⟩,z.tm,z.bl,z.own,z.inj,z.low,z.dlt,z.dlo,z.dhi,z.gl,hcapv,z.pv⟩;rw[qX]at L;rw[L,hd]at e;cases e
  have hl2:(OE c.G g.t g.cf g.caps s).tm.length=S2.N:=by rw[hS2];simp[OE,setSlot,hl]
  have hdn:∀k,d.target≠.collected k:=λk e=>by rw[hd]at e;cases e
  have hclose:∀{u u2:FrameMode}{rv:Value}{rec:AV} (_:aDe u rv u2) (_:settle u2=.returning) (_:u≠.run) (_:∀C:Ctx,rec.rel c.P C rv) (s':St) (a':Act) (w':World),Sim S2 s'.sig a' w'->s'.tm.length=S2.N->uk c s' (A8 (c.bare Kz) Ac g.fn g.fc g.crest g.t3 g.t2 r rec)->
    LeavesInM Fence.wide 0 c.P g.fn a'.tmps _ a'.defers u w':=λh1 h2 h3 h4 s' a' w' hs' hl' L=>by
   unfold uk at L;split at L;case h_2=>exact L.elim
   rename_i s1 hsw;obtain⟨D5,E5,h5⟩:=hs';obtain⟨p1,p2,p3⟩:=Qu hsw h5 hrng;have h6:aL {S2 with G:=[]} s1.sig {tmps:=a'.tmps,defers:=a'.defers} w' D5 E5:=by
    exact⟨p2.sz,p2.df,p2.tm,p2.bl,p2.own,p2.inj,p2.low,p2.dlt,p2.dlo,p2.dhi,λp hp=>(by cases hp),p2.svr,p2.pv⟩
   rw[<- hSP,show S.P=S2.P by rw[hS2]];refine sh (S:=S2) (gd:=[d]) (by rw[hS2]) (λq L k=>by rw[qX]at L;rw[L];exact hdn k) (by rw[hS2,hS,hZ];exact hD) p1 h3 a'.defers w' D5 h6 λw2 D2 h7=>?_;rw[show S2.P=c.P by rw[hS2];exact hSP];refine XM (c:=c.bare Kz) HOZ rfl hZs hZr hZn hZg hcf hcb hrec hres hgo key hd h1 h2 h3 (s:=s1) (a:={tmps:=a'.tmps,defers:=[d]}) ⟨D2,E5,?_⟩ (by rw[p3,hl',hS2,hS]) h4 L;have e8:({S2 with G:=[]}:Base)={Z with gd:=[d],sv:=(g.caps.map a1.eval),nod:=false}:=by rw[hS2,hS];cases Z;simp only at hZG;subst hZG;rfl
   rw[e8]at h7;exact⟨h7.sz,⟨⟨λ_=>rfl,⟨[],rfl⟩,qBk _ _⟩,h7.df.2⟩,h7.tm,h7.bl,h7.own,h7.inj,h7.low,h7.dlt,h7.dlo,h7.dhi,h7.gl,h7.svr,h7.pv⟩
  have hat:=OJ g.rest S2 (OE c.G g.t g.cf g.caps s) _ (bodyPostM Fence.wide 0 c.P g.fn λe w'=>(True/\∃v D' E',e=.returned v/\Left c.P (bH []) r.upd w D E w' D' E'/\r.ret.rel c.P ⟨w',D',upM (bH []) r.upd,E'⟩ v)\/∃ch,e=.panicked ch/\False/\Chg (bD (bH []) E) w w') HO2 hrest hl2 (λe s' L hl' a' w' hs'=>by
   cases e with
   |normal=>exact hclose (rec:=.val .nilIface) .ret rfl (by simp) (λ_=>rfl) s' a' w' hs' hl' L|ret=>exact hclose (rec:=.val .nilIface) .ret rfl (by simp) (λ_=>rfl) s' a' w' hs' hl' L|panic ch=>
    simp only[aF4]at L;split at L;case h_2=>exact L.elim
    rename_i v hv;obtain⟨rv,rfl,hrv⟩:=Wa hv;exact hclose (.pan rv) rfl (by simp) (λC=>hrv c.P C) s' a' w' hs' hl' L
   |exit id=>exact L.elim|goto l=>exact L.elim|outgrown=>exact L.elim) _ w1 ⟨D1,E1,hd2⟩
  rw[show S2.P=S.P by rw[hS2],show S2.rd=S.rd by rw[hS2]]at hat;exact hat
 exact xF hreg
end Go.Eng
namespace Go.Eng
open Go.RowKit
def put(s:St)(l:List (Tmp×AV)):St:={s with tm:=l.foldl (λtm p=>tm.set p.1 p.2) s.tm}
def oG(s:St)(nm:Nat)(b:Blk):St:={s with mem:=vo s.mem nm b}
def aG:Ann:=⟨λ_ _=>none,λ_ _=>none,λ_ _=>none⟩
theorem of_eq{p q:Prop}(h:q=p)(f:p):q:=h▸f
theorem sg{P:Program}{w w':World}{D D':Nat->Prop}{qz:List AV}{us:Lv}(f:AV.namesL qz=[])(j:∀b,D b->D' b)(hw:∀b,D b->w'.heap[b]?=w.heap[b]?)
  {m:Nat->Option Blk}{E:Nat->Ent} (h:AV.relL P ⟨w,D,m,E⟩ qz us):AV.relL P ⟨w',D',noM,noE⟩ qz us:=
 AV.relL_mono (C:=⟨w,D,m,E⟩) (C':=⟨w',D',noM,noE⟩) ⟨j,hw⟩ (λnm hm=>by rw[f]at hm;cases hm) h
theorem Left.pure{P:Program}{upd:Mem}{w w':World}{D D':Nat->Prop}{E E':Nat->Ent}(h:Left P (bH []) upd w D E w' D' E'):Below w.heap.size w w'/\∀b,D' b->D b\/gv w w' b:=by
 refine⟨⟨h.chg.os,h.chg.tape,h.chg.output,h.chg.size,λk f=>h.chg.block k f λ⟨nm,blk,g,_⟩=>(by cases g)⟩,λb hb=>?_⟩;rcases h.dhi b hb with g|g|⟨_,_,g,_⟩;exact .inl g;exact .inr ⟨g,h.dlt b hb⟩;cases g
theorem aj.data{P:Program}{G:List (Nat×AV)}{f:FuncId}{args:List AV}{pre:Prop}{r:Ty}{y:r.den}(h:aj P G f args [] ⟨pre,.dat r y,[]⟩)(A:pre){w:World}{D:Nat->Prop}{us:Lv}(hD:∀b,D b->b<w.heap.size)
  (X:jG P ⟨w,D,noM,noE⟩ G) (L:AV.relL P ⟨w,D,noM,noE⟩ args us):Calls P f us.toArray w (Kw w D r y):=by
 refine(h A w D noE us hD X L (Held.none _ _ _ _)).mono λe w' ⟨v,D',E',z,u,j⟩=>?_;obtain⟨g1,g2⟩:=u.pure;exact⟨v,z,g1,au g2 (λ_ _=>rfl) j⟩
theorem OW{P:Program}{G:List (Nat×AV)}{f:FuncId}{caps:List AV}{a r:Ty}{pre:a.den->Prop}{g:a.den->r.den}(hg:goes P f=true)(hn:AV.namesL caps=[])
  (h:∀x,aj P G f (.dat a x::caps) [] ⟨pre x,.dat r (g x),[]⟩) {C:Ctx} (hG:jG P C G) {v:Value} (X:(AV.fn f caps).rel P C v):(AV.clo1 a r pre g).rel P C v:=by
 obtain⟨us,rfl,hc⟩:=X;refine⟨f,us.toArray,rfl,hg,λw' D' A g2 z x u hp L=>?_⟩;have j:AV.relL P ⟨w',D',noM,noE⟩ (.dat a x::caps) (u::us):=⟨u,_,rfl,L,sg hn A z hc⟩;have y:jG P ⟨w',D',noM,noE⟩ G:=hG.mono ⟨A,z⟩;have e:(#[u]++us.toArray)=(u::us).toArray:=by simp
 rw[e];exact(h x).data hp g2 y j
theorem aj.args{P:Program}{G:List (Nat×AV)}{f:FuncId}{qz bs:List AV}{m:Mem}{c:lI}(h:aj P G f bs m c)(j:∀(C:Ctx) us,jG P C G->AV.relL P C qz us->AV.relL P C bs us):aj P G f qz m c:=
 λz w D E us L u y A=>h z w D E us L u (j _ us u y) A
theorem aj.of_pre{P:Program}{G:List (Nat×AV)}{f:FuncId}{qz:List AV}{m:Mem}{c:lI}(h:c.pre->aj P G f qz m c):aj P G f qz m c:=λj=>h j j
theorem aj.weaken{P:Program}{G:List (Nat×AV)}{f:FuncId}{qz:List AV}{m:Mem}{p q:Prop}{r:AV}{u:Mem}(h:aj P G f qz m ⟨q,r,u⟩)(j:p->q):aj P G f qz m ⟨p,r,u⟩:=λy=>h (j y)
theorem aj.eqv{P:Program}{G:List (Nat×AV)}{f:FuncId}{qz:List AV}{m:Mem}{p:Prop}{t:Ty}{x y:t.den}{u:Mem}(h:aj P G f qz m ⟨p,.dat t x,u⟩)(e:p->x=y):aj P G f qz m ⟨p,.dat t y,u⟩:=λj=>e j▸h j
def allNames(s:St):List Nat:=s.mem.map (·.1)
structure Y where
 s:St
 k:Nat
 on:Bool
structure aFD where
 α:Type
 inv:α->Prop
 st:α->Y
 μ:α->Nat
structure IW where
 loop:Nat->Y->Option aFD
 pre:Nat->St->Option St
 yr:Nat->Bool
def leY(y y':Y):Prop:=leP y.s y'.s/\y.k=y'.k/\y.on=y'.on
def yieldOf(G:List (Nat×AV))(T:Nat->AV)(g:Bool)(o:Op):Option (Nat×List Ob×List AV):=match o with
 |.call ⟨.value f,args,_⟩=>match ug g (evT G T f),args.toList with
  |(.yld l,n1),[a]=>match ug g (evT G T a)with
   |(v,n2)=>some (l,n1++n2,[v])
  |(.yld l,n1),[a,b]=>match ug g (evT G T a),ug g (evT G T b)with
   |(v,n2),(w,n3)=>some (l,n1++(n2++n3),[v,w])
  |_,_=>none
 |_=>none
def X2(t:Ty)(v:AV):Option t.den:=if aDN t=true then(match v with
  |.agg cs=>match cV t cs with
   |some (x,[])=>some x|_=>none
  |_=>none)else v.qz t
def asY:(t:Ty)->List AV->Option t.den
 |.pair a b,[v,w]=>match X2 a v,X2 b w with
  |some x,some y=>some (x,y)|_,_=>none
 |.int k,[v]=>v.qz (.int k)|.bool,[v]=>v.qz .bool|.str,[v]=>v.qz .str|.sl e,[v]=>v.qz (.sl e)|_,_=>none
theorem II{P:Program}{C:Ctx}{t:Ty}{v:AV}{x:t.den}{u:Value}(h:X2 t v=some x)(f:v.rel P C u):(sa t x).rel P C u:=by
 unfold X2 at h;unfold sa;split at h;rename_i e;rw[if_pos e];split at h;rename_i cs;split at h;rename_i L G;cases h;obtain⟨us,rfl,A⟩:=f;obtain⟨j,X,rfl,z,y⟩:=cy G A;cases y;refine⟨j++[],rfl,?_⟩;rw[wH];exact b8 z;cases h;cases h;rename_i e;rw[if_neg e];exact AV.as_rel h f
theorem Ue{P:Program}{C:Ctx}:∀{t:Ty}{vs:List AV}{x:t.den}{us:Lv},asY t vs=some x->AV.relL P C vs us->AV.relL P C (Jn t x) us
 |.pair a b,[v,w],x,us,h,f=>by
  simp only[asY]at h;split at h;rename_i x' y' L G;cases h;obtain⟨u,j,rfl,y,g2⟩:=f;obtain⟨A,z,rfl,g3,X⟩:=g2;exact⟨u,_,rfl,II L y,A,_,rfl,II G g3,X⟩;cases h
 |.int _,[v],x,us,h,f|.bool,[v],x,us,h,f|.str,[v],x,us,h,f|.sl _,[v],x,us,h,f=>by
  obtain⟨u,j,rfl,y,g2⟩:=f;exact⟨u,_,rfl,AV.as_rel h y,g2⟩
 |.pair _ _,[],_,_,h,_|.pair _ _,[_],_,_,h,_|.pair _ _,_::_::_::_,_,_,h,_=>by simp[asY]at h|.int _,[],_,_,h,_|.int _,_::_::_,_,_,h,_|.bool,[],_,_,h,_|.bool,_::_::_,_,_,h,_|.str,[],_,_,h,_|.str,_::_::_,_,_,h,_|.sl _,[],_,_,h,_|.sl _,_::_::_,_,_,h,_=>by simp[asY]at h
theorem uf{G:List (Nat×AV)}{T:Nat->AV}{g:Bool}{o:Op}{l:Nat}{ns:List Ob}{v:List AV}(h:yieldOf G T g o=some (l,ns,v)):
  ∃f args at_ n1 n2,o=.call ⟨.value f,args,at_⟩/\ug g (evT G T f)=(.yld l,n1)/\ns=n1++n2/\((∃a u,args.toList=[a]/\ug g (evT G T a)=(u,n2)/\v=[u])\/∃a b u z L A,args.toList=[a,b]/\ug g (evT G T a)=(u,L)/\ug g (evT G T b)=(z,A)/\v=[u,z]/\n2=L++A):=by
 unfold yieldOf at h;split at h;case h_2=>cases h
 rename_i f args at_;split at h;rename_i l2 n1 a y j;cases h;exact⟨f,args,at_,n1,_,rfl,y,rfl,.inl ⟨a,_,j,rfl,rfl⟩⟩;rename_i l2 n1 a b y j;cases h;exact⟨f,args,at_,n1,_,rfl,y,rfl,.inr ⟨a,b,_,_,_,_,j,rfl,rfl,rfl,rfl⟩⟩;cases h
def ZT(c:Cfg)(it:iD)(l:Nat)(ops:Array Oper):List Oper->Y->(Y->Prop)->Prop
 |[],y,Q=>Q y|o::os,y,Q=>match Py y.s.sig.T ops o.guard with
  |some g=>match yieldOf c.G y.s.sig.T g o.op with
   |some (l',ns,v)=>if nG o.dst y.s.tm.length=true/\y.s.mem.isEmpty=true then match asY it.t v with
    |some x=>XH g (all ns (l'=l/\y.on=true/\oL it.L y.k x/\∀b:Bool,ZT c it l ops os ⟨setSlot o.dst (.dat .bool b) y.s,y.k+1,b⟩ Q))
      (ZT c it l ops os ⟨setSlot o.dst (.grd g (.dat .bool false)) y.s,y.k,y.on⟩ Q)
    |none=>False
    else False
   |none=>match gY c.P c.G c.K (c.mt o) ops y.s.nx y.s.sig o with
    |some r=>if gn r y.s.tm.length=true/\GL r y.s=true then all r.need (ZT c it l ops os ⟨cZ r y.s,y.k,y.on⟩ Q)else False|none=>False
  |none=>False
def evZ(c:Cfg)(rg:Array Oper->Bool->Y->(Y->Prop)->Prop)(A:IW):Code->Y->(Exit->Y->Prop)->Prop
 |.skip,y,Q=>Q .normal y|.region id ops draw,y,Q=>match A.pre id y.s with
  |some s1=>match Ov y.s s1 with
   |some ms=>all ms (if A.yr id=true then rg ops draw ⟨s1,y.k,y.on⟩ (Q .normal)else aBf c ops draw s1 λs'=>Q .normal ⟨s',y.k,y.on⟩)|none=>False
  |none=>if A.yr id=true then rg ops draw y (Q .normal)else aBf c ops draw y.s λs'=>Q .normal ⟨s',y.k,y.on⟩
 |.seq a b,y,Q=>evZ c rg A a y (λe y'=>match e with|.normal=>evZ c rg A b y' Q|e=>Q e y')
 |.cond t a b,y,Q=>match TE (evT c.G y.s.sig.T t)with
  |some (ns,x)=>all ns (XH x (evZ c rg A a y Q) (evZ c rg A b y Q))|none=>False
 |.block id b,y,Q=>evZ c rg A b y (λe y'=>match e with|.exit id'=>if id'=id then Q .normal y' else Q (.exit id') y'|e=>Q e y')
 |.exit id,y,Q=>Q (.exit id) y|.ret,y,Q=>Q .ret y|.loop b,y,Q=>match eI b with
  |some id=>match A.loop id {y with s:=MR b y.s} with
   |some sp=>(∃x,sp.inv x/\leY y (sp.st x))/\∀x,sp.inv x->evZ c rg A b (sp.st x) (λe y'=>match e with|.normal=>∃z,sp.inv z/\leY y' (sp.st z)/\sp.μ z<sp.μ x|e=>Q e y')
   |none=>False
  |none=>False
 |_,_,_=>False
def rgY(c:Cfg)(it:iD)(l:Nat)(ops:Array Oper)(draw:Bool)(y:Y)(Q:Y->Prop):Prop:=if draw=true then False else ZT c it l ops ops.toList y Q
def evY(c:Cfg)(it:iD)(l:Nat):IW->Code->Y->(Exit->Y->Prop)->Prop:=evZ c (rgY c it l)
def aDP(it:iD):Exit->Y->Prop|.normal,y=>y.on=true->y.k=it.L.length|.ret,y=>y.on=true->y.k=it.L.length|_,_=>False
def rP(fn:Func)(l:Nat)(caps:List AV):Y:=⟨⟨(.yld l::caps)++List.replicate (fn.ntmps-(caps.length+1)) (.val undef),[],0,[]⟩,0,true⟩
def evI(c:Cfg)(A:IW)(f:FuncId)(caps:List AV)(it:iD):Prop:=match c.P.funcs[f]? with
 |some fn=>match fn.body with
  |some b=>fn.results.toList.isEmpty=true/\(AV.namesL caps).isEmpty=true/\true=true/\c.rng=false/\∀l,it.pre->evY c it l A b (rP fn l caps) (aDP it)|none=>False
 |none=>False
section
structure FrY where
 ro:Option Nat
 sv:Lv
 V:Nat->Prop
 Dv:Nat->Prop
 W:World
def Fr:Option Nat->Fence|none=>Fence.wide|some l=>Fence.wide.inRound l
theorem aBb(ro:Option Nat)(f:FuncId):(Fr ro).fn f:=by cases ro<;>trivial
theorem NC(ro:Option Nat):(Fr ro).depth=none:=by cases ro<;>rfl
theorem Yd(ro:Option Nat):(Fr ro).round=ro:=by cases ro<;>rfl
theorem gD{ro:Option Nat}{P:Program}{l:Nat}{f:FuncId}{tmps:Array Value}{assign body:Code}{w:World}{R:Ending->World->Prop}(h:RoundIn Fence.wide 0 P l f tmps assign body w R):RoundIn (Fr ro) 0 P l f tmps assign body w R:=by
 cases ro with
 |none=>exact h|some k=>exact h
def Kept(fr:FrY)(w:World):Prop:=fr.W.heap.size<=w.heap.size/\∀b,fr.Dv b\/fr.V b->w.heap[b]?=fr.W.heap[b]?
variable {c:Cfg}{it:iD}{l N:Nat}{fr:FrY}{J:Nat->World->(Nat->Prop)->(Nat->Prop)->Prop}{JX:World->(Nat->Prop)->(Nat->Prop)->Prop}{JP:List PanicEntry->World->(Nat->Prop)->(Nat->Prop)->Prop}
def Kx(fr:FrY)(J:Nat->World->(Nat->Prop)->(Nat->Prop)->Prop)(JX:World->(Nat->Prop)->(Nat->Prop)->Prop)(y:Y)(w:World)(D:Nat->Prop):Prop:=(y.on=true->J y.k w D fr.V)/\(y.on=false->JX w D fr.V)
structure OkY(c:Cfg)(N:Nat)(fr:FrY)(S:Base):Prop where
 P:S.P=c.P
 G:S.G=c.G
 N:S.N=N
 O:∀b,¬S.O b
 sv:S.sv=fr.sv
 rd:S.rd=fr.ro
 nod:S.nod=true
 gd:S.gd=[]
 kept:Kept fr S.w0
 lt:∀b,fr.Dv b\/fr.V b->b<S.w0.heap.size
 dv:∀b,fr.Dv b->S.D0 b
 nv:∀b,fr.V b->¬S.D0 b
def aA4(c:Cfg)(N:Nat)(fr:FrY)(J:Nat->World->(Nat->Prop)->(Nat->Prop)->Prop)(JX:World->(Nat->Prop)->(Nat->Prop)->Prop)(y:Y)(a:Act)(w:World):Prop:=
 ∃S,OkY c N fr S/\Kx fr J JX y S.w0 S.D0/\Sim S y.s.sig a w
structure UI(c:Cfg)(it:iD)(l N:Nat)(fr:FrY)(J:Nat->World->(Nat->Prop)->(Nat->Prop)->Prop)(JX:World->(Nat->Prop)->(Nat->Prop)->Prop)(JP:List PanicEntry->World->(Nat->Prop)->(Nat->Prop)->Prop):Prop where
 K:ay c.P c.G c.K
 I:aR c.P c.G c.KI
 KP:bG c.P c.G c.KP
 m:c.P.follows .mixedOrders=true
 rng:fr.ro=none->c.rng=false
 rs:fr.ro≠none->N<=fr.sv.length
 j1:∀k w1 w2 D1 V,J k w1 D1 V->Below w1.heap.size w1 w2->∀X:Nat->Prop,J k w2 (λb=>D1 b\/(gv w1 w2 b/\¬X b)) (λb=>V b\/(gv w1 w2 b/\X b))
 j2:∀k w1 (D1 D2 V V2:Nat->Prop),J k w1 D1 V->(∀b,D2 b->D1 b)->(∀b,V2 b->V b)->J k w1 D2 V2
 x1:∀w1 w2 D1 V,JX w1 D1 V->Below w1.heap.size w1 w2->∀X:Nat->Prop,JX w2 (λb=>D1 b\/(gv w1 w2 b/\¬X b)) (λb=>V b\/(gv w1 w2 b/\X b))
 x2:∀w1 (D1 D2 V V2:Nat->Prop),JX w1 D1 V->(∀b,D2 b->D1 b)->(∀b,V2 b->V b)->JX w1 D2 V2
 yld:∀k y W D1 V vs,it.L[k]?=some y->J k W D1 V->(∀b,D1 b->b<W.heap.size)->AV.relL c.P ⟨W,D1,noM,noE⟩ (Jn it.t y) vs->YieldAt Fence.wide 0 c.P l vs.toArray W λe W' =>
   W.heap.size<=W'.heap.size/\(∀b,D1 b\/V b->W'.heap[b]?=W.heap[b]?)/\((e=.returned (.bool true)/\J (k+1) W' D1 V)\/(e=.returned (.bool false)/\JX W' D1 V)\/∃ch,e=.panicked ch/\JP ch W' D1 V)
theorem OkY.okS{S:Base}(h:OkY c N fr S)(H:UI c it l N fr J JX JP):OkS c S:=
 ⟨h.P.symm,h.G.symm,by rw[h.P,h.G];exact H.K,by rw[h.P,h.G];exact H.I,by rw[h.P];exact H.m,λe=>by rw[h.sv,h.N];exact H.rs (by rw[<- h.rd];exact e),λe=>by rw[h.nod,H.rng (by rw[<- h.rd];exact e)];rfl,by rw[h.P,h.G];exact H.KP⟩
theorem OkY.F{S:Base}(h:OkY c N fr S):S.F=Fr fr.ro:=by
 unfold Base.F;rw[h.rd];cases fr.ro<;>rfl
theorem OkY.now{S:Base}(h:OkY c N fr S){σ:Sig}{a:Act}{w:World}{D:Nat->Prop}{E:Nat->Ent}(hd:aL S σ a w D E):(∀b,fr.Dv b\/fr.V b->b<w.heap.size/\w.heap[b]?=fr.W.heap[b]?)/\(∀b,fr.Dv b->D b)/\(∀b,fr.V b->¬D b)/\fr.W.heap.size<=w.heap.size:=by
 refine⟨λb hb=>⟨qK (h.lt b hb) hd.low.size,(hd.low.block b (h.lt b hb) (h.O b)).trans (h.kept.2 b hb)⟩,λb hb=>hd.dlo b (h.dv b hb),λb hb g=>?_,vP h.kept.1 hd.low.size⟩;rcases hd.dhi b g with g|g|g;exact h.nv b hb g;have:=h.lt b (.inr hb);omega;exact h.O b g
theorem OkY.next{S:Base}(h:OkY c N fr S){σ:Sig}{a:Act}{w w':World}{D:Nat->Prop}{E:Nat->Ent}(hd:aL S σ a w D E)(f:w.heap.size<=w'.heap.size)(j:∀b,D b\/fr.V b->w'.heap[b]?=w.heap[b]?):OkY c N fr {S with w0:=w',D0:=D,O:=λ_=>False}:=by
 obtain⟨n1,n2,n3,n4⟩:=h.now hd;exact⟨h.P,h.G,h.N,λ_ g=>g,h.sv,h.rd,h.nod,h.gd,⟨vP n4 f,λb hb=>(j b (hb.imp (n2 b) id)).trans (n1 b hb).2⟩,λb hb=>qK (n1 b hb).1 f,n2,n3⟩
theorem Kx.now{S:Base}(j:OkY c N fr S)(H:UI c it l N fr J JX JP){y:Y}(f:Kx fr J JX y S.w0 S.D0){σ:Sig}{a:Act}{w:World}{D:Nat->Prop}{E:Nat->Ent}(h:aL S σ a w D E):Kx fr J JX y w D:=by
 have hb:Below S.w0.heap.size S.w0 w:=⟨h.low.os,h.low.tape,h.low.output,h.low.size,λk z=>h.low.block k z (j.O k)⟩;have u:∀b,D b->S.D0 b\/(gv S.w0 w b/\¬noV b):=λb hb=>by
  rcases h.dhi b hb with g|g|g;exact .inl g;exact .inr ⟨⟨g,h.dlt b hb⟩,id⟩;exact(j.O b g).elim
 exact⟨λe=>H.j2 _ _ _ _ _ _ (H.j1 _ _ _ _ _ (f.1 e) hb noV) u λ_=>.inl,λe=>H.x2 _ _ _ _ _ (H.x1 _ _ _ _ (f.2 e) hb noV) u λ_=>.inl⟩
theorem aL.behindYield{S:Base}{s:St}{a:Act}{w w':World}{D:Nat->Prop}{E:Nat->Ent}(h:aL S s.sig a w D E)(hm:s.mem=[])(z:w.heap.size<=w'.heap.size)(A:∀b,D b->w'.heap[b]?=w.heap[b]?)(u:S.nod=true)(f:S.gd=[]):
  aL {S with w0:=w',D0:=D,O:=λ_=>False} s.sig a w' D E:=by
 have em:s.sig.m=λ_=>none:=by
  funext k;show s.mem.lookup k=none;rw[hm];rfl
 have L:Later ⟨w,D,s.sig.m,E⟩ ⟨w',D,s.sig.m,E⟩:=⟨λ_ g=>g,A⟩;have nm:∀k,oh ⟨w,D,s.sig.m,E⟩ ⟨w',D,s.sig.m,E⟩ k:=λk y j=>⟨y,j,rfl,qL _,λ_=>rfl⟩;have none:∀nm b,s.sig.m nm=some b->False:=λnm b hb=>by rw[em]at hb;cases hb
 refine⟨h.sz,⟨⟨λ_=>h.df.1.1 u,h.df.1.2⟩,λd hd=>?_⟩,λt=>AV.rel_mono L (λk _=>nm k) (h.tm t),λk b hb=>(none k b hb).elim,λk b hb=>(none k b hb).elim,λk k' b y hb=>(none k b hb).elim,Chg.refl _ _,
  λb hb=>qK (h.dlt b hb) z,λ_ g=>g,λ_ g=>.inl g,h.gl.mono L,AV.relL_mono L (λk _=>nm k) h.svr,fu.nil λk i b g=>by obtain⟨_,_,_,_,_,_,G,_⟩:=g;exact none k _ G⟩
 rw[h.df.1.1 u,f]at hd;cases hd
theorem DX(H:UI c it l N fr J JX JP){y:Y}{S:Base}(hS:OkY c N fr S)(hg:Kx fr J JX y S.w0 S.D0){a:Act}{w:World}{D:Nat->Prop}{E:Nat->Ent}(hd:aL S y.s.sig a w D E)(hmem:y.s.mem=[]){o:Oper}{l':Nat}{ns:List Ob}{v:List AV}
  (hy:yieldOf c.G y.s.sig.T true o.op=some (l',ns,v)) {x:it.t.den} (hx:asY it.t v=some x) (X:∀q∈ns,q) (hll:l'=l) (hon:y.on=true) (hat:oL it.L y.k x) {K:Act->World->Prop}{R:Exit->Act->World->Prop}
  (hP:∀ch a w D,a.defers=[]->JP ch w D fr.V->Kept fr w->R (.panic ch) a w)
  (hK:∀(b:Bool) (w':World) (s':St),Kx fr J JX ⟨s',y.k+1,b⟩ w' D->OkY c N fr {S with w0:=w',D0:=D,O:=λ_=>False}->aL {S with w0:=w',D0:=D,O:=λ_=>False} y.s.sig a w' D E->K (a.put o.dst (.bool b)) w'):o.wpIn (Fr fr.ro) 0 c.P a w K R:=by
 obtain⟨f,args,at_,n1,n2,hop,hf,rfl,hav⟩:=uf hy;rw[hll]at hf;have hfv:=dX hd f;rw[hS.G]at hfv;have hfv2:=nL (g:=true) rfl (λq u=>X q (qI.2 (.inl (by rw[hf]at u;exact u)))) hfv;rw[hf]at hfv2;have hfv3:a.eval f=.func (.yield l) #[] #[]:=hfv2;have one:∀(av:Operand) (v:AV) (m:List Ob),ug true (evT c.G y.s.sig.T av)=(v,m)->(∀q∈m,q)->v.rel S.P ⟨w,D,y.s.sig.m,E⟩ (a.eval av):=λav v m e hm=>by
  have h1:=dX hd av;rw[hS.G]at h1;have h2:=nL (g:=true) rfl (λq u=>by rw[e]at u;exact hm q u) h1;rw[e]at h2;exact h2
 have hcell0:AV.relL S.P ⟨w,D,y.s.sig.m,E⟩ (Jn it.t x) (args.toList.map a.eval):=by
  refine Ue hx ?_;rcases hav with⟨b,v1,j,e,rfl⟩|⟨b1,b2,v1,v2,m1,m2,j,e1,e2,rfl,rfl⟩;rw[j];exact⟨_,_,rfl,one b v1 n2 e λq u=>X q (qI.2 (.inr u)),rfl⟩;rw[j];exact⟨_,_,rfl,one b1 v1 m1 e1 λq u=>X q (qI.2 (.inr (qI.2 (.inl u)))),_,_,rfl,one b2 v2 m2 e2 λq u=>X q (qI.2 (.inr (qI.2 (.inr u)))),rfl⟩
 have hgn:=hg.now hS H hd;have hcell:AV.relL c.P ⟨w,D,noM,noE⟩ (Jn it.t x) (args.toList.map a.eval):=by rw[<- hS.P];exact sg (Ag _ _) (λ_ g=>g) (λ_ _=>rfl) hcell0
 have hyl:=H.yld y.k x w D fr.V (args.toList.map a.eval) hat (hgn.1 hon) hd.dlt hcell;obtain⟨fn,tmps,assign,body,hrun,A⟩:=hyl;unfold Oper.wpIn;refine⟨λf _=>aBb _ f,?_⟩;have nodef:∀d,o.op≠.defer d:=λd e=>by rw[hop]at e;cases e
 rw[Oper.semAt_eq _ _ _ nodef];have hexec:(execOp a.eval o).run c.P w=.ok (.round l fn tmps assign body) w:=by
  obtain⟨dst,op,ty,pos,after,guard⟩:=o;simp only at hop;subst hop;have e1:args.map a.eval=(args.toList.map a.eval).toArray:=by
   apply yR;rw[qAy]
  simp only[execOp,resolve,e1,hfv3,Deferred.ofValue,wO,yN,wB,invoke,qAn];simpa using hrun
 rw[hexec,Oper.uponIn_round];refine⟨λh=>(by rw[NC]at h;cases h),?_⟩;refine RoundIn.mono (gD A) ?_;rintro e w' ⟨hsz,z,hres⟩;have hb:=hd.behindYield hmem hsz (λb hb=>z b (.inl hb)) hS.nod hS.gd;have hnx:=hS.next hd hsz z
 rcases hres with⟨rfl,hj⟩|⟨rfl,hj⟩|⟨ch,rfl,hj⟩;exact hK true w' y.s ⟨λ_=>hj,λe=>(by cases e)⟩ hnx hb;exact hK false w' y.s ⟨λe=>(by cases e),λ_=>hj⟩ hnx hb;exact hP ch a w' D ((hd.df.1.1 hS.nod).trans hS.gd) hj hnx.kept
theorem BD(H:UI c it l N fr J JX JP){ops:Array Oper}{Q:Y->Prop}{R:Exit->Act->World->Prop}(hR:∀y',Q y'->y'.s.tm.length=N->∀a w,aA4 c N fr J JX y' a w->R .normal a w)(hP:∀ch a w D,a.defers=[]->JP ch w D fr.V->Kept fr w->R (.panic ch) a w):
  ∀(os:List Oper) (j:Nat) (y:Y),(∀i o,os[i]?=some o->ops[j+i]?=some o)->ZT c it l ops os y Q->y.s.tm.length=N->∀a w,aA4 c N fr J JX y a w->wpOpsIn (Fr fr.ro) 0 c.P ops R (List.range' j os.length) a w
 |[],j,y,_,h,hl,a,w,hs=>by
  simp only[yZ,qBt,wpOpsIn];simp only[ZT]at h;exact hR y h hl a w hs
 |o::os,j,y,hops,h,hl,a,w,hs=>by
  have ho:ops[j]?=some o:=by simpa using hops 0 o rfl
  have hos:∀i o',os[i]?=some o'->ops[j+1+i]?=some o':=λi o' hi=>by
   have:=hops (i+1) o' (by simpa using hi);rw[show j+1+i=j+(i+1) by omega];exact this
  obtain⟨S,X,hg,D,E,hd⟩:=hs;have hlS:y.s.tm.length=S.N:=hl.trans X.N.symm;simp only[ZT]at h;split at h;case h_2=>exact h.elim
  rename_i g hge;have hwant:=CY (o:=o) hd hge;rw[wR,qAw,wpOpsIn_cons];split at h
  ·
   rename_i l' ns v hy;split at h;case isFalse=>exact h.elim
   rename_i hc;obtain⟨z,L⟩:=hc;have L:y.s.mem=[]:=zD.1 L;split at h;case h_2=>exact h.elim
   rename_i x hx;unfold wpOpIn;rw[ho];simp only;rw[hwant];cases g with
   |false=>
    simp only[wF,xM];refine⟨λf _=>aBb _ f,BD H hR hP os (j+1) _ hos (h.2 rfl) (by simp[setSlot];split<;>simp[hl]) _ _ ⟨S,X,hg,D,E,?_⟩⟩;exact hd.slot hlS z ⟨λe=>(by cases e),λ_=>rfl⟩
   |true=>
    simp only[kE];obtain⟨hns,hll,hon,hat,u⟩:=bK (h.1 rfl);refine DX H X hg hd L hy hx hns hll hon hat hP λb w' _ hgh hnx hb=>?_;exact BD H hR hP os (j+1) _ hos (u b) (by simp[setSlot];split<;>simp[hl]) _ _ ⟨{S with w0:=w',D0:=D,O:=λ_=>False},hnx,hgh,D,E,hb.slot hlS z rfl⟩
  ·
   split at h;case h_2=>exact h.elim
   rename_i r A;split at h;case isFalse=>exact h.elim
   rename_i hok;obtain⟨hns,u⟩:=bK h;have z:∀d,o.dst=some d->d<S.N:=by
    intro d hdd;have e:r.dst=o.dst:=by
     unfold gY at A;split at A;split at A;unfold Jz at A;split at A;cases A;rfl;split at A;cases A;rfl;cases A;cases A;cases A
    have h2:=hok.1;unfold gn at h2;simp only[qE]at h2;have:=h2.1;rw[e,hdd]at this;rw[<- hlS];simpa using this
   have hK:ay S.P S.G c.K:=(X.okS H).K;have hr':gY S.P S.G c.K (c.mt o) ops y.s.nx y.s.sig o=some r:=by rw[X.P,X.G];exact A
   have:=pu (Q:=R) hK ho ⟨D,E,hd⟩ z hr' hns (λk hk=>by
    have:=hok.2;unfold GL at this;rw[hk]at this;exact KG this)
   rw[X.F,X.P]at this;refine wpOpIn_mono (λa' w' h'=>BD H hR hP os (j+1) _ hos u (by rw[jg];exact hl) a' w' ⟨S,X,hg,?_⟩) this;show Sim S (cZ r y.s).sig a' w';rw[gw hok.1];exact h'
theorem sR{rg:Array Oper->Bool->Y->(Y->Prop)->Prop}{F:Fence}{X:Y->Act->World->Prop}{PQ:List PanicEntry->Act->World->Prop}
  (HX:∀y a w,X y a w->∃S,OkS c S/\S.F=F/\S.N=N/\Sim S y.s.sig a w/\∀s' a' w',Sim S s'.sig a' w'->X ⟨s',y.k,y.on⟩ a' w')
  (Hr:∀(id:Nat) (ops:Array Oper) (draw:Bool) (y:Y) (Q:Y->Prop) (R:Exit->Act->World->Prop),rg ops draw y Q->y.s.tm.length=N->(∀L,Q L->L.s.tm.length=N->∀a w,X L a w->R .normal a w)->(∀ch a w,PQ ch a w->R (.panic ch) a w)->∀a w,X y a w->(Code.region id ops draw).wpIn F 0 c.P R a w)
  {A:IW}:∀(x:Code) (y:Y) (Q:Exit->Y->Prop) (R:Exit->Act->World->Prop),evZ c rg A x y Q->y.s.tm.length=N->
  (∀e L,Q e L->L.s.tm.length=N->∀a w,X L a w->R e a w)->(∀ch a w,PQ ch a w->R (.panic ch) a w)->∀a w,X y a w->x.wpIn F 0 c.P R a w
 | .skip,y,Q,R,h,hl,hR,hP,a,w,hs=>by
  unfold evZ at h;exact wpIn_skip (hR _ y h hl a w hs)
 | .region id ops draw,y,Q,R,h,hl,hR,hP,a,w,hs=>by
  have key:∀y1:Y,y1.s.tm.length=N->X y1 a w->(if A.yr id=true then rg ops draw y1 (Q .normal)else aBf c ops draw y1.s λs'=>Q .normal ⟨s',y1.k,y1.on⟩)->(Code.region id ops draw).wpIn F 0 c.P R a w:=by
   intro y1 hl1 hs1 h1;split at h1
   .exact Hr id ops draw y1 _ R h1 hl1 (λL hq u a' w' f=>hR .normal L hq u a' w' f) hP a w hs1
   .obtain⟨S,HO,hF,hN,hsim,j⟩:=HX _ _ _ hs1;unfold aBf at h1;split at h1
    .rename_i ns s' he;obtain⟨g1,g2⟩:=bK h1;have:=QZ (S:=S) HO.P HO.G HO.K HO.m he g1 (hl1.trans hN.symm) hsim (id:=id) (Q:=R) (λa' w' f=>hR .normal ⟨s',y1.k,y1.on⟩ g2 ((Jk he).trans hl1) a' w' (j s' a' w' f));rw[hF,<- HO.P]at this;exact this
    .exact h1.elim
  unfold evZ at h;split at h
  .rename_i s1 _;split at h
   .rename_i ms hms;obtain⟨g1,g2⟩:=bK h;obtain⟨S,HO,hF,hN,hsim,j⟩:=HX _ _ _ hs;exact key ⟨s1,y.k,y.on⟩ ((ni hms).symm.trans hl) (j s1 a w (EW hsim hms g1)) g2
   .exact h.elim
  .exact key y hl hs h
 | .seq x z,y,Q,R,h,hl,hR,hP,a,w,hs=>by
  unfold evZ at h;refine wpIn_seq (sR HX Hr x y _ (Exit.then (z.wpIn F 0 c.P R) R) h hl (λe L hq u a' w' f=>?_) (λch a w h1=>hP ch a w h1) a w hs);cases e<;>first
   | exact sR HX Hr z L Q R hq u hR hP a' w' f
   | exact hR _ L hq u a' w' f
 | .cond t x z,y,Q,R,h,hl,hR,hP,a,w,hs=>by
  unfold evZ at h;split at h
  case h_2=>exact h.elim
  rename_i ns b hc;obtain⟨g1,g2,g3⟩:=bK h;obtain⟨S,HO,hF,hN,⟨D,E,hs0⟩,j⟩:=HX _ _ _ hs;have hrel:=dX hs0 t;rw[<- HO.G]at hrel;have hb:a.eval t=.bool b:=xg hc g1 hrel;exact wpIn_cond_split hb (λe=>sR HX Hr x y Q R (g2 e) hl hR hP a w hs) (λe=>sR HX Hr z y Q R (g3 e) hl hR hP a w hs)
 | .block id x,y,Q,R,h,hl,hR,hP,a,w,hs=>by
  unfold evZ at h;refine wpIn_block (sR HX Hr x y _ (Exit.inBlock id R) h hl (λe L hq u a' w' f=>?_) (λch a w h1=>hP ch a w h1) a w hs);cases e<;>first
   | exact hR _ L hq u a' w' f
   | (rename_i id'
      simp only[Exit.inBlock];simp only at hq;split at hq
      .rename_i e;rw[if_pos e];exact hR _ L hq u a' w' f
      .rename_i e;rw[if_neg e];exact hR _ L hq u a' w' f)
 | .exit id,y,Q,R,h,hl,hR,hP,a,w,hs=>by unfold evZ at h;exact wpIn_exit (hR _ y h hl a w hs)
 | .ret,y,Q,R,h,hl,hR,hP,a,w,hs=>by unfold evZ at h;exact wpIn_ret (hR _ y h hl a w hs)
 | .loop x,y,Q,R,h,hl,hR,hP,a,w,hs=>by
  unfold evZ at h;split at h
  case h_2=>exact h.elim
  split at h
  case h_2=>exact h.elim
  rename_i sp _;obtain⟨⟨x0,i1,i2⟩,h2⟩:=h;have le:∀{y L:Y} {a:Act} {w:World},leY y L->X y a w->X L a w:=by
   rintro y ⟨s',k',on'⟩ a w ⟨l1,l2,l3⟩ hx;obtain⟨S,_,_,_,hsim,j⟩:=HX _ _ _ hx;have:=j s' a w (Cd l1 hsim);rw[l2,l3]at this;exact this
  refine wpIn_loop_ghost (λn a w=>∃z,sp.inv z/\sp.μ z=n/\(sp.st z).s.tm.length=N/\X (sp.st z) a w) (sp.μ x0) ⟨x0,i1,rfl,(vA i2.1).symm.trans hl,le i2 hs⟩ ?_;rintro n a w ⟨z,j1,rfl,j2,j3⟩;refine sR HX Hr x (sp.st z) _ (Exit.then (λa' w'=>∃n',n'<sp.μ z/\∃z,sp.inv z/\sp.μ z=n'/\(sp.st z).s.tm.length=N/\X (sp.st z) a' w') R) (h2 z j1) j2 (λe L hq u a' w' f=>?_) (λch a w h1=>hP ch a w h1) a w j3
  cases e<;>first
   | (obtain⟨z',k1,k2,k3⟩:=hq;exact⟨sp.μ z',k3,z',k1,rfl,(vA k2.1).symm.trans u,le k2 f⟩)
   | exact hR _ L hq u a' w' f
 | .rangeFunc _ _ _ _,_,_,_,h,_,_,_,_,_,_=>by unfold evZ at h;exact h.elim
 | .scope _,_,_,_,h,_,_,_,_,_,_=>by unfold evZ at h;exact h.elim
 | .label _,_,_,_,h,_,_,_,_,_,_=>by unfold evZ at h;exact h.elim
 | .goto _,_,_,_,h,_,_,_,_,_,_=>by unfold evZ at h;exact h.elim
 | .refuse _,_,_,_,h,_,_,_,_,_,_=>by unfold evZ at h;exact h.elim
theorem YO(H:UI c it l N fr J JX JP){A:IW}(x:Code)(y:Y)(Q:Exit->Y->Prop)(R:Exit->Act->World->Prop)(h:evY c it l A x y Q)(hl:y.s.tm.length=N)
  (hR:∀e y',Q e y'->y'.s.tm.length=N->∀a w,aA4 c N fr J JX y' a w->R e a w) (hP:∀j a w D,a.defers=[]->JP j w D fr.V->Kept fr w->R (.panic j) a w) (a:Act) (w:World) (G:aA4 c N fr J JX y a w):x.wpIn (Fr fr.ro) 0 c.P R a w:=by
 refine sR (X:=aA4 c N fr J JX) (PQ:=λj a w=>a.defers=[]/\∃D,JP j w D fr.V/\Kept fr w) (λy a w ⟨S,hS,hg,u⟩=>⟨S,hS.okS H,hS.F,hS.N,u,λs' a' w' hs'=>⟨S,hS,hg,hs'⟩⟩)
  (λid ops draw y Q R L hl hR hP a w G=>?_) x y Q R h hl hR (λj a w ⟨h1,D,h2,h3⟩=>hP j a w D h1 h2 h3) a w G
 have z:∀j a w D,a.defers=[]->JP j w D fr.V->Kept fr w->R (.panic j) a w:=λj a w D h1 h2 h3=>hP j a w ⟨h1,D,h2,h3⟩;unfold rgY at L;split at L;rename_i f;exact L.elim;rename_i f;have f:draw=false:=by simpa using f
 subst f;refine wpIn_region ?_;have:=BD H (Q:=Q) (R:=R) hR z ops.toList 0 y (λi o ho=>by simpa using ho) L hl a w G;rw[qAv];simpa using this
end
theorem rx{c:Cfg}{A:IW}{f:FuncId}{caps:List AV}{it:iD}(hK:ay c.P c.G c.K)(hI:aR c.P c.G c.KI)(hm:c.P.follows .mixedOrders=true)(h:evI c A f caps it)(hKP:c.KP=λ_ _ _=>none:=by rfl):lS c.P c.G f caps it:=by
 intro hpre l J JX JP w D us hD hG z j1 j2 _ x1 x2 _ _ hyld h0;unfold evI at h;split at h;case h_2=>exact h.elim
 rename_i fn hf;split at h;case h_2=>exact h.elim
 rename_i b hb;obtain⟨hres,hnm,hone,hrng,h⟩:=h;have h:=h l hpre;obtain⟨fr,y⟩:∃fr:FrY,fr={ro:=none,sv:=[],V:=noV,Dv:=noV,W:=w}:=⟨_,rfl⟩;have H:UI c it l ((caps.length+1)+(fn.ntmps-(caps.length+1))) fr J JX JP:=⟨hK,hI,(λf args m r h=>by rw[hKP]at h;cases h),hm,λ_=>hrng,λg=>(by rw[y]at g;exact(g rfl).elim),j1,j2,x1,x2,hyld⟩;have j:caps.length=us.length:=AV.relL_length z;have hargs:AV.relL c.P ⟨w,D,noM,noE⟩ (.yld l::caps) (.func (.yield l) #[] #[]::us):=⟨_,_,rfl,rfl,z⟩;have earr:#[Value.func (.yield l) #[] #[]]++us.toArray=(Value.func (.yield l) #[] #[]::us).toArray:=by simp
 rw[earr];obtain⟨S,hS⟩:∃S:Base,S={P:=c.P,w0:=w,D0:=D,N:=(caps.length+1)+(fn.ntmps-(caps.length+1)),O:=λ_=>False,G:=c.G,sv:=[],rd:=none,nod:=true}:=⟨_,rfl⟩;refine callsIn_of_wp_marks hf hb trivial ?_;suffices hsuf:b.wpIn (Fr fr.ro) 0 c.P (bodyPostM Fence.wide 0 c.P fn λe W'=>((∃v,e=.returned v)/\((∃X,J it.L.length W' X noV)\/∃X,JX W' X noV))\/∃ch,e=.panicked ch/\∃X V2,JP ch W' X V2) {tmps:=(Value.func (.yield l) #[] #[]::us).toArray++Array.replicate (fn.ntmps-(Value.func (.yield l) #[] #[]::us).toArray.size) undef,defers:=[]} w by
  rw[y]at hsuf;exact hsuf
 have hstart:aL S (rP fn l caps).s.sig {tmps:=(Value.func (.yield l) #[] #[]::us).toArray++Array.replicate (fn.ntmps-(Value.func (.yield l) #[] #[]::us).toArray.size) undef,defers:=[]} w D noE:=by
  rw[hS];refine⟨?_,⟨⟨λ_=>rfl,⟨[],rfl⟩,xC⟩,λd hd=>(by cases hd)⟩,λt=>?_,λnm b hm=>(by cases hm),λnm b hm=>(by cases hm),λnm nm' b b' hm=>(by cases hm),Chg.refl _ _,hD,λb hb=>hb,λb hb=>.inl hb,
   hG,rfl,fu.nil λk i b g=>(by obtain⟨_,_,_,_,_,_,g1,_⟩:=g;cases g1)⟩
  simp[j];show(((.yld l::caps)++List.replicate (fn.ntmps-(caps.length+1)) (AV.val undef)).getD t .top).rel c.P ⟨w,D,noM,noE⟩ _;rw[qA,qP];by_cases ht:t<(AV.yld l::caps).length;rw[vU ht,kM (by simpa[j]using ht)];obtain⟨u,g1,g2⟩:=AV.relL_get hargs (qB ht);rw[qB ht];simp only[kQ,g1,vJ];exact g2;rw[qV Z,kJ (by simp[<- j]at ht ⊢;omega)];rw[wU,yQ];split;rename_i h1;rw[if_pos (by simp[<- j]at h1 ⊢;omega)];rfl;trivial
 refine YO (N:=(caps.length+1)+(fn.ntmps-(caps.length+1))) H b (rP fn l caps) (aDP it) _ h (by simp[rP];omega) (λe y' hq hl a' w' hs'=>?_) (λch a w D hd hj _=>?_) _ w ⟨S,by rw[hS,y];exact⟨rfl,rfl,rfl,λ_ g=>g,rfl,rfl,rfl,rfl,⟨qL _,λ_ g=>g.elim (λg=>g.elim) λg=>g.elim⟩,λ_ g=>g.elim (λg=>g.elim) λg=>g.elim,λ_ g=>g.elim,λ_ g=>g.elim⟩,⟨λ_=>by rw[hS,y];exact h0,λe=>by cases e⟩,D,noE,hstart⟩;have key:(y'.on=true->y'.k=it.L.length)->LeavesInM Fence.wide 0 c.P fn a'.tmps (λe W'=>((∃v,e=.returned v)/\((∃X,J it.L.length W' X noV)\/∃X,JX W' X noV))\/∃ch,e=.panicked ch/\∃X V2,JP ch W' X V2) a'.defers .returning w':=by
  intro hq;obtain⟨S',hS',hg,D',E',hd⟩:=hs';have hdef:a'.defers=[]:=(hd.df.1.1 hS'.nod).trans hS'.gd;rw[hdef];have hgn:=hg.now hS' H hd;have hr:fn.results=#[]:=by
   apply yR;exact zD.1 hres
  refine⟨.tuple #[],by simp[results,hr],.inl ⟨⟨_,rfl⟩,?_⟩⟩;cases hon:y'.on with
  |true=>exact .inl ⟨D',by have:=hgn.1 hon;rw[y]at this;rw[<- hq hon];exact this⟩|false=>exact .inr ⟨D',by have:=hgn.2 hon;rw[y]at this;exact this⟩
 cases e<;>first
  |exact key hq
  |exact hq.elim
 show LeavesInM _ _ _ _ _ _ _ _ _;rw[hd];exact .inr ⟨ch,rfl,D,_,hj⟩
end Go.Eng
namespace Go.Eng
open Go.RowKit
structure Zg where
 A:Ann
 AY:IW
 lp:St->Option St
 kf:Nat->Nat
def aEX(c:Cfg)(it:iD)(l:Nat)(A:Zg)(g:Operand)(ps:Array Tmp)(qz b:Code)(s:St):Prop:=match evT c.G s.sig.T g,ps.toList with
 |.fn gf caps,[p]=>match c.KI gf caps with
  |some it2=>if SN c.P gf&&(AV.namesL caps).isEmpty&&s.sv.isEmpty&&s.mem.isEmpty&&one1 it2.t&&decide (p<s.tm.length)then
    it2.pre/\A.kf 0=0/\A.kf it2.L.length=it.L.length/\
    (∀j y,oL it2.L j y->ev c A.A qz (uF p it2.t y s) (λe s1=>match e with
     |.normal=>s1.mem.isEmpty=true/\evY c it l A.AY b ⟨s1,A.kf j,true⟩ (λe y2=>match e with
      |.normal=>y2.on=true/\y2.k=A.kf (j+1)|.ret=>y2.on=true->y2.k=it.L.length|_=>False)
     |_=>False))
   else False
  |none=>False
 |_,_=>False
theorem V8{P:Program}{C:Ctx}{t:Ty}{x:t.den}{vs:Lv}(h:one1 t=true)(f:AV.relL P C (Jn t x) vs):∃u,vs=[u]/\ae C.w C.D t x [u]:=by
 cases t with
 |pair a b=>simp[one1,aDN]at h|_=>
  obtain⟨u,us,e,j,g2⟩:=f;cases g2;exact⟨u,e,j⟩
def evN(c:Cfg)(it:iD)(l:Nat)(A:Zg):Code->St->Prop
 |.seq a b,s=>ev c A.A a s (λe s'=>match e with|.normal=>evN c it l A b s'|_=>False)
 |.rangeFunc g ps qz b,s=>match A.lp s with
  |some s1=>match Ov s s1 with
   |some ms=>all ms (aEX c it l A g ps qz b s1)|none=>False
  |none=>False
 |.block _ x,s=>evN c it l A x s|_,_=>False
def aFo(c:Cfg)(A:Zg)(f:FuncId)(caps:List AV)(it:iD):Prop:=match c.P.funcs[f]? with
 |some fn=>match fn.body with
  |some b=>fn.results.toList.isEmpty=true/\(AV.namesL caps).isEmpty=true/\one1 it.t=true/\c.rng=false/\∀l,it.pre->evN c it l A b (rP fn l caps).s|none=>False
 |none=>False
theorem Chg.put{V:Nat->Prop}{w:World}{k:Nat}{o:Obj}(h:V k):Chg V w (w.putObj k o)/\(w.putObj k o).heap.size=w.heap.size:=
 ⟨⟨rfl,rfl,rfl,by simp,λq _ f=>World.putObj_heap_other λe=>f (e▸h)⟩,by simp⟩
variable {it:iD}{JX:World->(Nat->Prop)->(Nat->Prop)->Prop}{JP:List PanicEntry->World->(Nat->Prop)->(Nat->Prop)->Prop}{c:Cfg}{J:Nat->World->(Nat->Prop)->(Nat->Prop)->Prop}
theorem gE{l:Nat}{A:Zg}
  (H:∀(N:Nat) (fr:FrY),(fr.ro≠none->N<=fr.sv.length)->UI c it l N fr J JX JP) (hKI:aR c.P c.G c.KI)
  (j3:∀k w1 w2 D1 V,J k w1 D1 V->Chg V w1 w2->w2.heap.size=w1.heap.size->J k w2 D1 V) (x3:∀w1 w2 D1 V,JX w1 D1 V->Chg V w1 w2->w2.heap.size=w1.heap.size->JX w2 D1 V)
  (p3:∀ch w1 w2 D1 V,JP ch w1 D1 V->Chg V w1 w2->w2.heap.size=w1.heap.size->JP ch w2 D1 V)
  {fn:Func} (hres:fn.results=#[]) {S:Base} (HO:OkS c S) (hSO:∀b,¬S.O b) (hSs:S.sv=[]) (hSr:S.rd=none) (hSg:S.gd=[]) (hSn:S.nod=true) {g:Operand}{ps:Array Tmp}{qz b:Code}{s:St} (h:aEX c it l A g ps qz b s) (hl:s.tm.length=S.N)
  {a:Act}{w:World}{D:Nat->Prop}{E:Nat->Ent} (hd:aL S s.sig a w D E) (hJ0:J 0 S.w0 S.D0 noV):
  At c.P none (.rangeFunc g ps qz b) (bodyPostM Fence.wide 0 c.P fn λe W'=>((∃v,e=.returned v)/\((∃D2,J it.L.length W' D2 noV)\/∃D2,JX W' D2 noV))\/∃ch,e=.panicked ch/\∃D2 V2,JP ch W' D2 V2) a w:=by
 have H0:=H S.N {ro:=none,sv:=[],V:=noV,Dv:=noV,W:=w} (λe=>(e rfl).elim);have hP:S.P=c.P:=HO.P.symm;unfold aEX at h;split at h;case h_2=>exact h.elim
 rename_i gf caps p hev hps;split at h;case h_2=>exact h.elim
 rename_i it2 hki;split at h;case isFalse=>exact h.elim
 rename_i hc;obtain⟨hpre,hk0,hkn,hround⟩:=h;simp only[qE,qF,zD]at hc;obtain⟨⟨⟨⟨⟨hgoes,hnm⟩,hsv⟩,hmem⟩,hone⟩,hp⟩:=hc;simp only[SN,qE,qF]at hgoes;obtain⟨hgoes,hgf⟩:=hgoes;have hone1:=hone;have hdef:a.defers=[]:=(hd.df.1.1 hSn).trans hSg;have em:s.sig.m=λ_=>none:=by
  funext k;show s.mem.lookup k=none;rw[hmem];rfl
 have noAll:∀(E:Nat->Ent) b,¬aC s.sig.m E b:=λE b g=>by
  rw[em]at g;rcases g with⟨_,_,g,_⟩|⟨nm,i,g⟩;cases g;exact iU g
 have hgv:=dX hd g;rw[<- HO.G,hev]at hgv;obtain⟨cs,hga,hcaps⟩:=hgv;rw[hP]at hcaps;refine at_range λfn2 hfn2=>?_;obtain⟨l2,hl2⟩:∃l2,l2=w.heap.size+1:=⟨_,rfl⟩;obtain⟨rec,hrec⟩:∃rec:LoopState->Option Code->Loop,rec=λst pe=>{state:=st,pending:=pe,fn:=fn2,tmps:=a.tmps,params:=ps,assign:=qz,body:=b,defers:=w.heap.size}:=⟨_,rfl⟩;obtain⟨W1,hW1⟩:∃W1,(w.alloc (.deferred (some []))).alloc (.loop (rec .ready none))=W1:=⟨_,rfl⟩;have hsz1:W1.heap.size=w.heap.size+2:=by rw[<- hW1];simp
 have hL1:W1.heap[l2]?=some (.loop (rec .ready none)):=by
  rw[<- hW1,hl2];have:=World.alloc_heap_new (w.alloc (.deferred (some []))) (.loop (rec .ready none));rwa [qH]at this
 have hK1:W1.heap[w.heap.size]?=some (.deferred (some [])):=by
  rw[<- hW1];exact(Below.heap_alloc _ _ _ (by simp)).trans (World.alloc_heap_new w _)
 have hb1:Below w.heap.size w W1:=by
  rw[<- hW1];exact((Below.refl _ w).alloc (qL _) _).alloc (by simp) _
 refine⟨l2,[{target:=.collected w.heap.size,args:=#[]}],W1,{target:=.fn (.func gf) cs.toArray,args:=#[.func (.yield l2) #[] #[]]},W1,gf,
  #[.func (.yield l2) #[] #[]]++cs.toArray,W1,?_,?_,?_,?_⟩
 rw[<- hW1,hrec,hl2];exact run_enterLoop_outer _ _ _ _ _;simp only[resolve,hga];simp[go_sem];have:=mF (P:=c.P) hgoes W1 (#[.func (.yield l2) #[] #[]]++cs.toArray);simp only[invoke];exact this;have hsz0:a.tmps.size=S.N:=hd.sz;have act0:a={tmps:=a.tmps,defers:=[]}:=by cases a;simp only at hdef;rw[hdef]
 rw[act0]at hd;have grow:∀{S:Base}{a:Act}{W W2:World}{σ:Sig}{D:Nat->Prop}{E:Nat->Ent},aL S σ a W D E->Below W.heap.size W W2->∀X:Nat->Prop,aL S σ a W2 (λb=>D b\/(gv W W2 b/\¬X b)) E:=λ{S a W W2 σ D E} h hb X=>
  h.world (D':=λb=>D b\/(gv W W2 b/\¬X b)) hb (λb=>⟨λg=>g.imp id λg=>⟨g.1,.inr g⟩,λg=>g.elim .inl (·.2)⟩) λb g=>by
   rcases g with g|g;exact qK (h.dlt b g) hb.size;exact g.1.2
 obtain⟨PV,hPV⟩:∃PV:(Nat->Prop)->Nat->Prop,PV=λV2 b=>b=w.heap.size\/b=l2\/V2 b:=⟨_,rfl⟩;obtain⟨Fm,hFm⟩:∃Fm:World->(Nat->Prop)->(Nat->Prop)->(Nat->Prop)->Prop,Fm=λW D z V2=>(∀b,z b->D b)/\W.heap[w.heap.size]?=some (.deferred (some []))/\(∀b,V2 b->l2<b/\b<W.heap.size)/\(∀b,PV V2 b->¬D b)/\l2<W.heap.size:=⟨_,rfl⟩;obtain⟨J2,hJ2⟩:∃J2:Nat->World->(Nat->Prop)->(Nat->Prop)->Prop,J2=λj W z V2=>∃(w0:World) (D0 D:Nat->Prop) (E:Nat->Ent),aL {S with w0:=w0,D0:=D0,O:=noV} s.sig {tmps:=a.tmps,defers:=[]} W D E/\Fm W D z V2/\
   W.heap[l2]?=some (.loop (rec .ready none))/\J (A.kf j) W D (PV V2):=⟨_,rfl⟩
 obtain⟨JX2,hJX2⟩:∃JX2:World->(Nat->Prop)->(Nat->Prop)->Prop,JX2=λW z V2=>∃(D:Nat->Prop),(∀b,D b->b<W.heap.size)/\Fm W D z V2/\
   W.heap[l2]?=some (.loop (rec .done (some .ret)))/\(J it.L.length W D (PV V2)\/JX W D (PV V2)):=⟨_,rfl⟩
 obtain⟨JP2,hJP2⟩:∃JP2:List PanicEntry->World->(Nat->Prop)->(Nat->Prop)->Prop,JP2=λch W _ V2=>W.heap[w.heap.size]?=some (.deferred (some []))/\w.heap.size<W.heap.size/\(∀b,V2 b->l2<b)/\∃D0 V0,JP ch W D0 V0/\V0 w.heap.size/\∀b,V2 b->V0 b:=⟨_,rfl⟩;have anew:∀{S2:Base}{W W2:World}{D:Nat->Prop}{E:Nat->Ent},S2.P=S.P->S2.G=S.G->S2.N=S.N->S2.sv=[]->S2.rd=none->S2.nod=true->S2.gd=[]->aL S2 s.sig {tmps:=a.tmps,defers:=[]} W D E->W.heap.size<=W2.heap.size->(∀b,D b->W2.heap[b]?=W.heap[b]?)->
   aL {S with w0:=W2,D0:=D,O:=noV} s.sig {tmps:=a.tmps,defers:=[]} W2 D E:=λ{S2 W W2 D E} e1 e2 e3 e4 e5 e6 e7 hh hs hk=>by
  have:=hh.behindYield hmem hs hk e6 e7;have e:({S2 with w0:=W2,D0:=D,O:=λ_=>False}:Base)={S with w0:=W2,D0:=D,O:=noV}:=by
   cases S2;cases S;simp only at e1 e2 e3 e4 e5 e6 e7 hSs hSr hSn hSg;subst e1 e2 e3 e4 e5 e6 e7 hSs hSr hSn hSg;rfl
  rw[<- e];exact this
 have incl:∀{V2 V3:Nat->Prop},(∀b,V2 b->V3 b)->∀b,PV V2 b->PV V3 b:=λ{V2 V3} h b g=>by
  rw[hPV]at g ⊢;rcases g with g|g|g;exact .inl g;exact .inr (.inl g);exact .inr (.inr (h b g))
 have pvx:∀{W W2:World}{V2 X:Nat->Prop}{b:Nat},PV (λb=>V2 b\/(gv W W2 b/\X b)) b->PV V2 b\/(gv W W2 b/\X b):=λ{W W2 V2 X b} g=>by
  rw[hPV]at g ⊢;rcases g with g|g|g|g;exact .inl (.inl g);exact .inl (.inr (.inl g));exact .inl (.inr (.inr g));exact .inr g
 have fmBelow:∀{W W2:World}{D z V2:Nat->Prop},Fm W D z V2->(∀b,D b->b<W.heap.size)->Below W.heap.size W W2->∀X:Nat->Prop,Fm W2 (λb=>D b\/(gv W W2 b/\¬X b)) (λb=>z b\/(gv W W2 b/\¬X b)) (λb=>V2 b\/(gv W W2 b/\X b)):=λ{W W2 D z V2} hf hlt hb X=>by
  rw[hFm]at hf ⊢;obtain⟨f1,f2,f3,f4,f5⟩:=hf;refine⟨λb g=>g.imp (f1 b) id,(hb.block _ Z).trans f2,λb g=>?_,λb g g2=>?_,qK f5 hb.size⟩;rcases g with g|g;exact⟨(f3 b g).1,qK (f3 b g).2 hb.size⟩;exact⟨qK f5 g.1.1,g.1.2⟩;rcases pvx g with g|g;rcases g2 with g2|g2;exact f4 b g g2;have h1:=g2.1.1;rw[hPV]at g;rcases g with g|g|g;omega;omega;have:=(f3 b g).2;omega;rcases g2 with g2|g2;have:=hlt b g2;have:=g.1.1;omega;exact g2.2 g.2
 have fmSub:∀{W:World}{D z Dit2 V2 V3:Nat->Prop},Fm W D z V2->(∀b,Dit2 b->z b)->(∀b,V3 b->V2 b)->Fm W D Dit2 V3:=λ{W D z Dit2 V2 V3} hf h1 h2=>by
  rw[hFm]at hf ⊢;obtain⟨f1,f2,f3,f4,f5⟩:=hf;exact⟨λb g=>f1 b (h1 b g),f2,λb g=>f3 b (h2 b g),λb g=>f4 b (incl h2 b g),f5⟩
 have fmChg:∀{W W2:World}{D z V2:Nat->Prop},Fm W D z V2->Chg V2 W W2->W2.heap.size=W.heap.size->Fm W2 D z V2/\W2.heap[l2]?=W.heap[l2]?:=λ{W W2 D z V2} hf hc hs=>by
  rw[hFm]at hf ⊢;obtain⟨f1,f2,f3,f4,f5⟩:=hf;exact⟨⟨f1,(hc.block _ Z λg=>(by have:=(f3 _ g).1;omega)).trans f2,λb g=>by rw[hs];exact f3 b g,f4,by rw[hs];exact f5⟩,hc.block _ f5 λg=>(by have:=(f3 _ g).1;omega)⟩
 have chgPV:∀{W W2:World}{V2:Nat->Prop},Chg V2 W W2->Chg (PV V2) W W2:=λ{W W2 V2} hc=>⟨hc.os,hc.tape,hc.output,hc.size,λk hk hn=>hc.block k hk λg=>hn (by rw[hPV];exact .inr (.inr g))⟩;have pvF:∀b,PV noV b->b=w.heap.size\/b=l2:=λb g=>by
  rw[hPV]at g;rcases g with g|g|g;exact .inl g;exact .inr g;exact g.elim
 have hlow:Below S.w0.heap.size S.w0 W1:=by
  have h1:Below S.w0.heap.size S.w0 w:=⟨hd.low.os,hd.low.tape,hd.low.output,hd.low.size,λk hk=>hd.low.block k hk (hSO k)⟩;exact⟨hb1.os.trans h1.os,hb1.tape.trans h1.tape,hb1.output.trans h1.output,vP h1.size hb1.size,λk hk=>(hb1.block k (qK hk h1.size)).trans (h1.block k hk)⟩
 have hbase:S.w0.heap.size<=w.heap.size:=hd.low.size;have hJ1:J 0 W1 D (PV noV):=by
  refine H0.j2 _ _ _ _ _ _ (H0.j1 _ _ _ _ _ hJ0 hlow (PV noV)) (λb hb=>?_) (λb hb=>.inr ⟨?_,hb⟩);rcases hd.dhi b hb with g|g|g;exact .inl g;have:=hd.dlt b hb;refine .inr ⟨⟨g,Z⟩,λg2=>?_⟩;rcases pvF b g2 with g2|g2<;>omega;exact(hSO b g).elim;rcases pvF b hb with g|g;exact⟨Z,Z⟩;exact⟨Z,Z⟩
 have hd1:aL {S with w0:=W1,D0:=D,O:=noV} s.sig {tmps:=a.tmps,defers:=[]} W1 D E:=anew rfl rfl rfl hSs hSr hSn hSg hd Z λb hb=>hb1.block b (hd.dlt b hb);have hcaps1:AV.relL c.P ⟨W1,D,noM,noE⟩ caps cs:=
  AV.relL_mono (C:=⟨w,D,s.sig.m,E⟩) (C':=⟨W1,D,noM,noE⟩) ⟨λb g=>g,λb g=>hb1.block b (hd.dlt b g)⟩ (λk hk=>by rw[hnm]at hk;cases hk) hcaps
 have hG1:jG c.P ⟨W1,D,noM,noE⟩ c.G:=by
  have:=jG.mono (C:=⟨w,D,s.sig.m,E⟩) (C':=⟨W1,D,noM,noE⟩) ⟨λb g=>g,λb g=>hb1.block b (hd.dlt b g)⟩ hd.gl;rw[hP,<- HO.G]at this;exact this
 refine(hKI.at hgf hki hpre l2 J2 JX2 JP2 W1 D cs (λb g=>?_) hG1 hcaps1 ?_ ?_ ?_ ?_ ?_ ?_ ?_ ?_ ?_).mono ?_;have:=hd.dlt b g;omega;subst hJ2;rintro k W W2 z V ⟨w0,D0,D',E',q1,q2,q3,q5⟩ hb X;have hlt:l2<W.heap.size:=(qJ.1 q3).1;refine⟨w0,D0,_,E',grow q1 hb X,fmBelow q2 q1.dlt hb X,(hb.block _ hlt).trans q3,?_⟩;exact H0.j2 _ _ _ _ _ _ (H0.j1 _ _ _ _ _ q5 hb X) (λb g=>g) λb g=>pvx g;subst hJ2;rintro k W z Dit2 V V2 ⟨w0,D0,D',E',q1,q2,q3,q5⟩ hsub hsubV;exact⟨w0,D0,D',E',q1,fmSub q2 hsub hsubV,q3,H0.j2 _ _ _ _ _ _ q5 (λ_ g=>g) (incl hsubV)⟩;subst hJ2;rintro k W W2 z V ⟨w0,D0,D',E',q1,q2,q3,q5⟩ hc hsz;obtain⟨r1,r2⟩:=fmChg q2 hc hsz;have q2':=q2;rw[hFm]at q2';refine⟨W2,D',D',E',anew (S2:={S with w0:=w0,D0:=D0,O:=noV}) rfl rfl rfl hSs hSr hSn hSg q1 Z λb hb=>hc.block b (q1.dlt b hb) λg=>q2'.2.2.2.1 b (by rw[hPV];exact .inr (.inr g)) hb,r1,r2.trans q3,j3 _ _ _ _ _ q5 (chgPV hc) hsz⟩;subst hJX2;rintro W W2 z V ⟨D',q1,q2,q3,q4⟩ hb X;have hlt:l2<W.heap.size:=(qJ.1 q3).1;refine⟨_,λb g=>?_,fmBelow q2 q1 hb X,(hb.block _ hlt).trans q3,?_⟩;rcases g with g|g;exact qK (q1 b g) hb.size;exact g.1.2;rcases q4 with q4|q4;exact .inl (H0.j2 _ _ _ _ _ _ (H0.j1 _ _ _ _ _ q4 hb X) (λb g=>g) λb g=>pvx g);exact .inr (H0.x2 _ _ _ _ _ (H0.x1 _ _ _ _ q4 hb X) (λb g=>g) λb g=>pvx g);subst hJX2;rintro W z Dit2 V V2 ⟨D',q1,q2,q3,q4⟩ hsub hsubV;exact⟨D',q1,fmSub q2 hsub hsubV,q3,q4.imp (λq=>H0.j2 _ _ _ _ _ _ q (λ_ g=>g) (incl hsubV)) λq=>H0.x2 _ _ _ _ _ q (λ_ g=>g) (incl hsubV)⟩
 subst hJX2;rintro W W2 z V ⟨D',q1,q2,q3,q4⟩ hc hsz;obtain⟨r1,r2⟩:=fmChg q2 hc hsz;exact⟨D',λb g=>by rw[hsz];exact q1 b g,r1,r2.trans q3,q4.imp (λq=>j3 _ _ _ _ _ q (chgPV hc) hsz) λq=>x3 _ _ _ _ q (chgPV hc) hsz⟩;subst hJP2;rintro ch W W2 z V ⟨q1,q2,q3,D0,V0,q4,q5,q6⟩ hc hsz;refine⟨(hc.block _ q2 λg=>(by have:=q3 _ g;omega)).trans q1,by rw[hsz];exact q2,q3,D0,V0,p3 _ _ _ _ _ q4 ⟨hc.os,hc.tape,hc.output,hc.size,λk hk hn=>hc.block k hk λg=>hn (q6 k g)⟩ hsz,q5,q6⟩
 ·
  intro k y W z V vs hy hj hltd hu0;obtain⟨u,rfl,hu⟩:=V8 hone1 hu0;rw[hJ2]at hj;obtain⟨w0,D0,D',E',q1,q2,q3,q5⟩:=hj;have q2':=q2;rw[hFm]at q2';obtain⟨f1,f2,f3,f4,f5⟩:=q2';have hpsz:ps.size=1:=by have:=yF List.length hps;simpa using this
  have hyl:=run_yield (P:=c.P) (args:=#[u]) q3 (by rw[hrec];simp[hpsz]);rw[hrec]at hyl;have htm:(ps.zip #[u]).foldl (λt (p,v)=>t.setIfInBounds p v) a.tmps=a.tmps.setIfInBounds p u:=by
   have e:ps=#[p]:=by apply yR;exact hps
   rw[e];simp
  refine⟨fn2,_,qz,b,hyl,?_⟩;rw[htm];refine Lh hfn2 ?_;have hpN:p<S.N:=by rw[<- hl];exact hp
  have tms:∀t,((uF p it2.t y s).sig.T t).rel S.P ⟨W,D',s.sig.m,E'⟩ ((a.tmps.setIfInBounds p u).getD t undef):=by
   intro t;show((s.tm.set p (.dat it2.t y)).getD t .top).rel S.P _ _;by_cases e:t=p;subst e;have h1:(s.tm.set t (.dat it2.t y)).getD t .top=.dat it2.t y:=by
    rw[qA,zV (by rw[hl];exact hpN)];rfl
   have h2:(a.tmps.setIfInBounds t u).getD t undef=u:=by simp[Array.getD,hsz0,hpN]
   rw[h1,h2];exact au f1 (λ_ _=>rfl) hu;have h1:(s.tm.set p (.dat it2.t y)).getD t .top=s.tm.getD t .top:=by
    simp only[qA];rw[zW (λh=>e h.symm)]
   have h2:(a.tmps.setIfInBounds p u).getD t undef=a.tmps.getD t undef:=by
    simp only[qP,zO];rw[if_neg (λh=>e h.symm)]
   rw[h1,h2];exact q1.tm t
  have svs:AV.relL S.P ⟨W,D',s.sig.m,E'⟩ s.tm a.tmps.toList:=by
   refine AV.relL_mk (by rw[hl,vI,hsz0]) λi av v hi hv=>?_;have:=q1.tm i;have e1:s.sig.T i=av:=by show s.tm.getD i .top=av;rw[qA,hi];rfl
   have e2:a.tmps.getD i undef=v:=by
    rw[qP];simp only[yB]at hv;rw[hv];rfl
   rw[e1]at this;simpa only[e2]using this
  have hent:=q1.enter l2 (tm:=(uF p it2.t y s).sig.T) (tmps:=a.tmps.setIfInBounds p u) (by simpa using hsz0) tms svs;obtain⟨Sr,f⟩:∃Sr:Base,Sr={P:=S.P,w0:=W,D0:=D',N:=S.N,O:=aC s.sig.m E',G:=S.G,sv:=a.tmps.toList,rd:=some l2,nod:=true}:=⟨_,rfl⟩;have hent:aL Sr (uF p it2.t y s).sig {tmps:=a.tmps.setIfInBounds p u,defers:=[]} W D' E':=by rw[f];exact hent
  have hSrO:∀b,¬Sr.O b:=λb g=>by rw[f]at g;exact noAll _ _ g
  have hNpos:S.N<=a.tmps.toList.length:=by rw[vI,hsz0];omega
  have HOr:OkS c Sr:=by
   subst f;exact⟨HO.P,HO.G,HO.K,HO.I,HO.m,λ_=>hNpos,λh=>(by cases h),HO.KP⟩
  have hlr:(uF p it2.t y s).tm.length=Sr.N:=by
   subst f;show(s.tm.set p (.dat it2.t y)).length=S.N;rw[zX];exact hl
  have hrr:Sr.rd=some l2:=by rw[f]
  have hPr:Sr.P=c.P:=by rw[f];exact hP
  rw[<- hrr,<- hPr];refine OJ qz Sr _ _ _ HOr (hround k y hy) hlr (λe s1 hq hl1 a1 w1 hs1=>?_) _ W ⟨D',E',hent⟩;cases e<;>first
   |exact hq.elim
   |skip
  obtain⟨hm1,hq⟩:=hq;have hm1:s1.mem=[]:=zD.1 hm1;obtain⟨D3,E3,h3⟩:=hs1;have noAll1:∀b,¬aC s1.sig.m E3 b:=λb g=>by
   have em1:s1.sig.m=λ_=>none:=by
    funext k;show s1.mem.lookup k=none;rw[hm1];rfl
   rw[em1]at g;rcases g with⟨_,_,g,_⟩|⟨nm,i,g⟩;cases g;exact iU g
  have same1:∀b,b<W.heap.size->w1.heap[b]?=W.heap[b]?:=λb hb=>by
   have:=h3.low.block b (by rw[f];exact hb) (hSrO b);rw[this,f]
  have szW1:W.heap.size<=w1.heap.size:=by have:=h3.low.size;rw[f]at this;exact this
  have bel1:Below W.heap.size W w1:=⟨by have:=h3.low.os;rw[f]at this;exact this,by have:=h3.low.tape;rw[f]at this;exact this,by have:=h3.low.output;rw[f]at this;exact this,szW1,same1⟩;have hdhi:∀b,D3 b->D' b\/W.heap.size<=b:=λb hb=>by
   have:=h3.dhi b hb;rw[f]at this;rcases this with g|g|g;exact .inl g;exact .inr g;exact(noAll _ _ g).elim
  have hl3:w1.heap[l2]?=some (.loop (rec .ready none)):=(same1 _ f5).trans q3;have hlt3:l2<w1.heap.size:=qK f5 szW1;have hdef3:a1.defers=[]:=(h3.df.1.1 (by rw[f])).trans (by rw[f]);have hbr:=run_beginRound (P:=c.P) hl3 (by rw[hrec]);rw[hPr];refine⟨_,hbr,?_⟩;have pvLt:∀b,PV V b->b<W.heap.size:=λb g=>by
   rw[hPV]at g;rcases g with g|g|g;omega;omega;exact(f3 b g).2
  have pvl2:PV V l2:=by rw[hPV];exact .inr (.inl rfl)
  have pvmk:PV V w.heap.size:=by rw[hPV];exact .inl rfl
  have nl3:¬D3 l2:=λg=>by
   rcases hdhi _ g with g|g;exact f4 _ pvl2 g;omega
  have h4:=h3.again (.loop {rec .ready none with state:=.busy}) (by rw[f]) hdef3 nl3 (noAll1 _);obtain⟨Wb,hWb⟩:∃Wb,Wb=w1.putObj l2 (.loop {rec .ready none with state:=.busy}):=⟨_,rfl⟩;obtain⟨Sq,hSq⟩:∃Sq:Base,Sq={Sr with w0:=Wb,D0:=D3,O:=aC s1.sig.m E3}:=⟨_,rfl⟩;rw[show({rec .ready none with state:=.busy}:Loop)={rec .ready none with state:=.busy} from rfl,<- hWb]at h4;rw[<- hSq]at h4;rw[<- hWb];have szb:Wb.heap.size=w1.heap.size:=by rw[hWb];simp
  obtain⟨fr,hfr⟩:∃fr:FrY,fr={ro:=some l2,sv:=a.tmps.toList,V:=PV V,Dv:=D',W:=Wb}:=⟨_,rfl⟩;have HF:=H S.N fr (λ_=>by rw[hfr];exact hNpos);have hOkq:OkY c S.N fr Sq:=by
   refine⟨by rw[hSq,f];exact hP,by rw[hSq,f];exact HO.G.symm,by rw[hSq,f],λb g=>by rw[hSq]at g;exact noAll1 _ g,by rw[hSq,f,hfr],by rw[hSq,f,hfr],by rw[hSq,f],by rw[hSq,f],?_,λb hb=>?_,λb hb=>?_,λb hb g=>?_⟩;rw[hfr,hSq];exact⟨qL _,λ_ _=>rfl⟩;rw[hfr]at hb;rw[hSq];show b<Wb.heap.size;rw[szb];rcases hb with g|g;exact qK (q1.dlt b g) szW1;exact qK (pvLt b g) szW1;rw[hfr]at hb;rw[hSq];exact h3.dlo b (by rw[f];exact hb);rw[hfr]at hb;rw[hSq]at g;rcases hdhi b g with g|g;exact f4 b hb g;have:=pvLt b hb;omega
  have hgq:Kx fr J JX ⟨s1,A.kf k,true⟩ Sq.w0 Sq.D0:=by
   refine⟨λ_=>?_,λe=>by cases e⟩;rw[hfr,hSq];obtain⟨c1,c2⟩:=Chg.put (V:=PV V) (w:=w1) (o:=.loop {rec .ready none with state:=.busy}) pvl2;rw[<- hWb]at c1 c2;refine j3 _ _ _ _ _ (H0.j2 _ _ _ _ _ _ (H0.j1 _ _ _ _ _ q5 bel1 noV) (λb hb=>?_) λb hb=>.inl hb) c1 c2;rcases hdhi b hb with g|g;exact .inl g;exact .inr ⟨⟨g,h3.dlt b hb⟩,id⟩
  have notl:∀b,D' b->b≠l2:=λb hb e=>f4 l2 pvl2 (by rw[<- e];exact hb);have keptW:∀{w2:World},Kept fr w2->(W.heap.size<=w2.heap.size)/\(∀b,z b\/V b->w2.heap[b]?=W.heap[b]?)/\w2.heap[l2]?=some (.loop {rec .ready none with state:=.busy})/\w2.heap[w.heap.size]?=some (.deferred (some []))/\l2<w2.heap.size/\∀b,D' b->w2.heap[b]?=W.heap[b]?:=by
   intro w2 hk;rw[hfr]at hk;obtain⟨k1,k2⟩:=hk;have k1:Wb.heap.size<=w2.heap.size:=k1;have k2:∀b,D' b\/PV V b->w2.heap[b]?=Wb.heap[b]?:=k2;have wb:∀b,b≠l2->b<W.heap.size->Wb.heap[b]?=W.heap[b]?:=λb h1 h2=>by
    rw[hWb,World.putObj_heap_other h1];exact same1 b h2
   have hD:∀b,D' b->w2.heap[b]?=W.heap[b]?:=λb hb=>(k2 b (.inl hb)).trans (wb b (notl b hb) (q1.dlt b hb));refine⟨Z,λb hb=>?_,?_,?_,Z,hD⟩;rcases hb with hb|hb;exact hD b (f1 b hb);exact(k2 b (.inr (by rw[hPV];exact .inr (.inr hb)))).trans (wb b (λe=>by have:=(f3 b hb).1;omega) (f3 b hb).2);rw[k2 l2 (.inr pvl2),hWb];exact World.putObj_heap_same hlt3;exact((k2 _ (.inr pvmk)).trans (wb _ Z Z)).trans f2
  have fin:∀{w2:World} (jump:Option Code),Kept fr w2->(Instr.endRound l2 jump).run c.P w2=.ok (.bool jump.isNone) (w2.putObj l2 (.loop (rec (if jump.isNone then .ready else .done) jump))):=λ{w2} jump hk=>by
   have:=run_endRound (P:=c.P) jump (keptW hk).2.2.1;rw[hrec]at this ⊢;exact this
  have after:∀{w2:World} (o:Obj),Kept fr w2->W.heap.size<=(w2.putObj l2 o).heap.size/\(∀b,z b\/V b->(w2.putObj l2 o).heap[b]?=W.heap[b]?)/\Fm (w2.putObj l2 o) D' z V/\(w2.putObj l2 o).heap[l2]?=some o/\∀b,D' b->(w2.putObj l2 o).heap[b]?=W.heap[b]?:=λ{w2} o hk=>by
   obtain⟨k1,k2,k3,k4,k5,k6⟩:=keptW hk;have hD:∀b,D' b->(w2.putObj l2 o).heap[b]?=W.heap[b]?:=λb hb=>by rw[World.putObj_heap_other (notl b hb)];exact k6 b hb
   refine⟨by simpa using k1,λb hb=>?_,?_,World.putObj_heap_same k5,hD⟩;rcases hb with g|g;exact hD b (f1 b g);rw[World.putObj_heap_other (λe=>by have:=(f3 b g).1;omega)];exact k2 b (.inr g);rw[hFm];exact⟨f1,by rw[World.putObj_heap_other Z];exact k4,λb g=>⟨(f3 b g).1,by have:=(f3 b g).2;simp;omega⟩,f4,by simpa using k5⟩
  have hsimq:Sim Sq s1.sig a1 Wb:=⟨D3,E3,h4⟩;have hlq:s1.tm.length=S.N:=by rw[hl1,f]
  have hbody:=YO (N:=S.N) HF b ⟨s1,A.kf k,true⟩ _ (Yt c.P l2 λe W'=>W.heap.size<=W'.heap.size/\(∀b,z b\/V b->W'.heap[b]?=W.heap[b]?)/\((e=.returned (.bool true)/\J2 (k+1) W' z V)\/(e=.returned (.bool false)/\JX2 W' z V)\/∃ch,e=.panicked ch/\JP2 ch W' z V)) hq hlq (λe y2 hq2 hl2' a2 w2 hs2=>?_) (λch a2 w2 D2 hdf hj hk=>?_) a1 Wb ⟨Sq,hOkq,hgq,hsimq⟩;have e1:fr.ro=some l2:=by rw[hfr]
  rw[e1]at hbody;exact Ua (F:=Fr (some l2)) (by rw[hrr];exact Yd _) (aBb _) (NC _) hbody
  .obtain⟨S5,ho5,hg5,D5,E5,h5⟩:=hs2;have hnow:=hg5.now ho5 HF h5;obtain⟨o1,o2,o3,o4⟩:=ho5.now h5;have hk:Kept fr w2:=⟨o4,λb hb=>(o1 b hb).2⟩;have sub5:∀b,D' b->D5 b:=λb hb=>o2 b (by rw[hfr];exact hb);have eV:fr.V=PV V:=by rw[hfr]
   cases e with
   |normal=>
    obtain⟨n1,n2⟩:=hq2;obtain⟨r1,r2,r3,r4,r5⟩:=after (.loop (rec .ready none)) hk;have hJ:=hnow.1 n1;rw[n2,eV]at hJ;obtain⟨c1,c2⟩:=Chg.put (V:=PV V) (w:=w2) (o:=.loop (rec .ready none)) pvl2;refine⟨_,_,fin none hk,r1,r2,.inl ⟨rfl,?_⟩⟩;rw[hJ2];exact⟨_,D',D',E',anew (S2:={S with w0:=w0,D0:=D0,O:=noV}) rfl rfl rfl hSs hSr hSn hSg q1 r1 r5,r3,r4,j3 _ _ _ _ _ (H0.j2 _ _ _ _ _ _ hJ sub5 λ_ g=>g) c1 c2⟩
   |ret=>
    obtain⟨r1,r2,r3,r4,r5⟩:=after (.loop (rec .done (some .ret))) hk;obtain⟨c1,c2⟩:=Chg.put (V:=PV V) (w:=w2) (o:=.loop (rec .done (some .ret))) pvl2;refine⟨_,_,fin (some .ret) hk,r1,r2,.inr (.inl ⟨rfl,?_⟩)⟩;rw[hJX2];refine⟨D',λb hb=>qK (q1.dlt b hb) r1,r3,r4,?_⟩;cases hon:y2.on with
    |true=>
     have hJ:=hnow.1 hon;rw[hq2 hon,eV]at hJ;exact .inl (j3 _ _ _ _ _ (H0.j2 _ _ _ _ _ _ hJ sub5 λ_ g=>g) c1 c2)
    |false=>
     have hJ:=hnow.2 hon;rw[eV]at hJ;exact .inr (x3 _ _ _ _ (H0.x2 _ _ _ _ _ hJ sub5 λ_ g=>g) c1 c2)
   |exit i=>exact hq2.elim|goto t=>exact hq2.elim|panic ch=>exact hq2.elim|outgrown=>exact hq2.elim
  obtain⟨k1,k2,k3,k4,k5,k6⟩:=keptW hk;refine⟨hdf,k1,k2,.inr (.inr ⟨ch,rfl,?_⟩)⟩;rw[hJP2];have eV:fr.V=PV V:=by rw[hfr]
  rw[eV]at hj;exact⟨k4,Z,λb g=>(f3 b g).1,D2,PV V,hj,pvmk,λb g=>by rw[hPV];exact .inr (.inr g)⟩
 rw[hJ2];refine⟨_,_,D,E,hd1,?_,hL1,by rw[hk0];exact hJ1⟩;rw[hFm];refine⟨λ_ g=>g,hK1,λ_ g=>g.elim,λb g hb=>?_,Z⟩;have:=hd.dlt b hb;rcases pvF b g with g|g<;>omega
 ·
  have runs:∀w3:World,(results fn a.tmps).run c.P w3=.ok (.tuple #[]) w3:=λw3=>by simp[results,hres]
  have marks:∀{w3:World}{m:FrameMode}{POST:Ending->World->Prop},w3.heap[w.heap.size]?=some (.deferred (some []))->m≠.run->LeavesInM Fence.wide 0 c.P fn a.tmps POST [] m (w3.putObj w.heap.size (.deferred none))->LeavesInM Fence.wide 0 c.P fn a.tmps POST ([{target:=.collected w.heap.size,args:=#[]}]++a.defers) m w3:=λ{w3 m POST} h1 hm h2=>by
   rw[hdef];exact⟨hm,.inl ⟨w.heap.size,_,rfl,run_takeDeferred h1,h2⟩⟩
  have pvm:PV noV w.heap.size:=by rw[hPV];exact .inl rfl
  have pvl:PV noV l2:=by rw[hPV];exact .inr (.inl rfl)
  rintro e W2 (⟨⟨v,rfl⟩,hj⟩|⟨ch,rfl,D2,V2,hj⟩);case inr=>
   rw[hJP2]at hj;obtain⟨q1,q2,q3,D0,V0,q4,q5,q6⟩:=hj;obtain⟨c1,c2⟩:=Chg.put (V:=V0) (w:=W2) (o:=.deferred none) q5;exact marks q1 (by simp) (.inr ⟨ch,rfl,D0,V0,p3 _ _ _ _ _ q4 c1 c2⟩)
  rcases hj with⟨D2,hj⟩|⟨D2,hj⟩;rw[hJ2]at hj;obtain⟨w0,D0,D',E',q1,q2,q3,q5⟩:=hj;rw[hFm]at q2;have hel:=run_endLoop (P:=c.P) q3 (by rw[hrec];simp);refine⟨none,_,(by rw[hrec]at hel;exact hel),?_⟩;refine marks (by rw[World.putObj_heap_other Z];exact q2.2.1) (by simp) ⟨_,runs _,.inl ⟨⟨_,rfl⟩,.inl ⟨D',?_⟩⟩⟩;rw[hkn]at q5;exact H0.j2 _ _ _ _ _ _ (j3 _ _ _ _ _ (j3 _ _ _ _ _ q5 (Chg.put pvl).1 (Chg.put pvl).2) (Chg.put pvm).1 (Chg.put pvm).2) (λ_ g=>g) λ_ g=>g.elim;rw[hJX2]at hj;obtain⟨D',q1,q2,q3,q5⟩:=hj;rw[hFm]at q2;have hel:=run_endLoop (P:=c.P) q3 (by rw[hrec];simp);refine⟨some .ret,_,(by rw[hrec]at hel;exact hel),?_⟩;refine Ua (F:=Fence.wide) (n:=0) rfl (λ_=>trivial) rfl (wpIn_ret ?_);refine marks (by rw[World.putObj_heap_other Z];exact q2.2.1) (by simp) ⟨_,runs _,.inl ⟨⟨_,rfl⟩,?_⟩⟩;rcases q5 with q5|q5;exact .inl ⟨D',H0.j2 _ _ _ _ _ _ (j3 _ _ _ _ _ (j3 _ _ _ _ _ q5 (Chg.put pvl).1 (Chg.put pvl).2) (Chg.put pvm).1 (Chg.put pvm).2) (λ_ g=>g) λ_ g=>g.elim⟩;exact .inr ⟨D',H0.x2 _ _ _ _ _ (x3 _ _ _ _ (x3 _ _ _ _ q5 (Chg.put pvl).1 (Chg.put pvl).2) (Chg.put pvm).1 (Chg.put pvm).2) (λ_ g=>g) λ_ g=>g.elim⟩
theorem Tj{l:Nat}{A:Zg}
  (H:∀(N:Nat) (fr:FrY),(fr.ro≠none->N<=fr.sv.length)->UI c it l N fr J JX JP) (hKI:aR c.P c.G c.KI)
  (j3:∀k j u D1 V,J k j D1 V->Chg V j u->u.heap.size=j.heap.size->J k u D1 V) (x3:∀j u D1 V,JX j D1 V->Chg V j u->u.heap.size=j.heap.size->JX u D1 V)
  (p3:∀X j u D1 V,JP X j D1 V->Chg V j u->u.heap.size=j.heap.size->JP X u D1 V)
  {fn:Func} (z:fn.results=#[]) {S:Base} (HO:OkS c S) (hSO:∀b,¬S.O b) (hSs:S.sv=[]) (hSr:S.rd=none) (hSg:S.gd=[]) (hSn:S.nod=true) (hJ0:J 0 S.w0 S.D0 noV):
  ∀(x:Code) (s:St),evN c it l A x s->s.tm.length=S.N->∀a w,Sim S s.sig a w->
  At c.P none x (bodyPostM Fence.wide 0 c.P fn λe W'=>((∃v,e=.returned v)/\((∃f,J it.L.length W' f noV)\/∃f,JX W' f noV))\/∃X,e=.panicked X/\∃f V2,JP X W' f V2) a w
 |.seq x y,s,h,hl,a,w,hs=>by
  unfold evN at h;have hx:=OJ (A:=A.A) x S s _ (Exit.then (At c.P none y (bodyPostM Fence.wide 0 c.P fn λe W'=>((∃v,e=.returned v)/\((∃f,J it.L.length W' f noV)\/∃f,JX W' f noV))\/∃X,e=.panicked X/\∃f V2,JP X W' f V2))
   (bodyPostM Fence.wide 0 c.P fn λe W'=>((∃v,e=.returned v)/\((∃f,J it.L.length W' f noV)\/∃f,JX W' f noV))\/∃X,e=.panicked X/\∃f V2,JP X W' f V2)) HO h hl (λe s' hq hl' a' w' hs'=>by
    cases e<;>first
     |exact Tj H hKI j3 x3 p3 z HO hSO hSs hSr hSg hSn hJ0 y s' hq hl' a' w' hs'
     |exact hq.elim) a w hs
  rw[HO.P.symm,hSr]at hx;exact xF hx
 |.rangeFunc g ps qz b,s,h,hl,a,w,hs=>by
  unfold evN at h;split at h;case h_2=>exact h.elim
  rename_i s1 _;split at h;case h_2=>exact h.elim
  rename_i ms hms;obtain⟨g1,g2⟩:=bK h;obtain⟨D,E,hd⟩:=EW hs hms g1;exact gE H hKI j3 x3 p3 z HO hSO hSs hSr hSg hSn g2 ((ni hms).symm.trans hl) hd hJ0
 |.skip,_,h,_,_,_,_=>by unfold evN at h;exact h.elim|.region _ _ _,_,h,_,_,_,_=>by unfold evN at h;exact h.elim|.cond _ _ _,_,h,_,_,_,_=>by unfold evN at h;exact h.elim|.block id x,s,h,hl,a,w,hs=>by
  unfold evN at h;refine ud λb k cs hb hf=>?_;obtain⟨e,a1,j,hq,r⟩:=Tj H hKI j3 x3 p3 z HO hSO hSs hSr hSg hSn hJ0 x s h hl a w hs b k cs hb hf;refine⟨e,a1,j,?_,r⟩;cases e<;>first
   |exact hq
   |exact hq.elim
 |.exit _,_,h,_,_,_,_=>by unfold evN at h;exact h.elim|.ret,_,h,_,_,_,_=>by unfold evN at h;exact h.elim|.loop _,_,h,_,_,_,_=>by unfold evN at h;exact h.elim|.scope _,_,h,_,_,_,_=>by unfold evN at h;exact h.elim|.label _,_,h,_,_,_,_=>by unfold evN at h;exact h.elim|.goto _,_,h,_,_,_,_=>by unfold evN at h;exact h.elim|.refuse _,_,h,_,_,_,_=>by unfold evN at h;exact h.elim
theorem JL{A:Zg}{f:FuncId}{caps:List AV}(hK:ay c.P c.G c.K)(hI:aR c.P c.G c.KI)(hm:c.P.follows .mixedOrders=true)(h:aFo c A f caps it)(hKP:c.KP=λ_ _ _=>none:=by rfl):lS c.P c.G f caps it:=by
 intro hpre l J JX JP w D us hD hG y j1 j2 j3 x1 x2 x3 p3 hyld h0;unfold aFo at h;split at h;case h_2=>exact h.elim
 rename_i fn hf;split at h;case h_2=>exact h.elim
 rename_i b hb;obtain⟨hres,hnm,hone,X,h⟩:=h;have h:=h l hpre;have hKP':bG c.P c.G c.KP:=λf args m r h=>by rw[hKP]at h;cases h
 have H:∀(N:Nat) (fr:FrY),(fr.ro≠none->N<=fr.sv.length)->UI c it l N fr J JX JP:=λN fr hrs=>⟨hK,hI,hKP',hm,λ_=>X,hrs,j1,j2,x1,x2,hyld⟩;have j:caps.length=us.length:=AV.relL_length y;have hargs:AV.relL c.P ⟨w,D,noM,noE⟩ (.yld l::caps) (.func (.yield l) #[] #[]::us):=⟨_,_,rfl,rfl,y⟩;have earr:#[Value.func (.yield l) #[] #[]]++us.toArray=(Value.func (.yield l) #[] #[]::us).toArray:=by simp
 rw[earr];obtain⟨S,L⟩:∃S:Base,S={P:=c.P,w0:=w,D0:=D,N:=(caps.length+1)+(fn.ntmps-(caps.length+1)),O:=λ_=>False,G:=c.G,sv:=[],rd:=none,nod:=true}:=⟨_,rfl⟩;have z:aL S (rP fn l caps).s.sig {tmps:=(Value.func (.yield l) #[] #[]::us).toArray++Array.replicate (fn.ntmps-(Value.func (.yield l) #[] #[]::us).toArray.size) undef,defers:=[]} w D noE:=by
  rw[L];refine⟨?_,⟨⟨λ_=>rfl,⟨[],rfl⟩,xC⟩,λd hd=>(by cases hd)⟩,λt=>?_,λnm b hm=>(by cases hm),λnm b hm=>(by cases hm),λnm nm' b b' hm=>(by cases hm),Chg.refl _ _,hD,λb hb=>hb,λb hb=>.inl hb,
   hG,rfl,fu.nil λk i b g=>(by obtain⟨_,_,_,_,_,_,g1,_⟩:=g;cases g1)⟩
  simp[j];show(((.yld l::caps)++List.replicate (fn.ntmps-(caps.length+1)) (AV.val undef)).getD t .top).rel c.P ⟨w,D,noM,noE⟩ _;rw[qA,qP];by_cases ht:t<(AV.yld l::caps).length;rw[vU ht,kM (by simpa[j]using ht)];obtain⟨u,g1,g2⟩:=AV.relL_get hargs (qB ht);rw[qB ht];simp only[kQ,g1,vJ];exact g2;rw[qV Z,kJ (by simp[<- j]at ht ⊢;omega)];rw[wU,yQ];split;rename_i h1;rw[if_pos (by simp[<- j]at h1 ⊢;omega)];rfl;trivial
 have HO:OkS c S:=by
  rw[L];exact⟨rfl,rfl,hK,hI,hm,λe=>(e rfl).elim,λ_=>by rw[X];rfl,hKP'⟩
 have hr:fn.results=#[]:=by
  apply yR;exact zD.1 hres
 exact Db hf hb (Tj H hI j3 x3 p3 hr HO (λb g=>by rw[L]at g;exact g) (by rw[L]) (by rw[L]) (by rw[L]) (by rw[L]) (by rw[L];exact h0) b (rP fn l caps).s h (by rw[L];simp[rP];omega) _ w ⟨D,noE,z⟩)
end Go.Eng
namespace Go.Eng
open Go.RowKit
def aDz(u:Nat->Value)(n:Nat):Lv:=(List.range n).map u
def Af:Lv->List AV->List AV|u::us,a::qz=>.pin u a::Af us qz|_,_=>[]
def rZ:Lv->List AV->Option (List Ob)
 |[],_=>some []|u::us,.pin u' _::qz=>match rZ us qz with
  |some q=>some ((u'=u)::q)|none=>none
 |_,_=>none
def lQ:AV->AV|.yld l=>.yld l|a=>Vr a
def anew(us:Lv)(caps:List AV)(s:St):St:={s with tm:=(s.tm.take 1).map lQ++Af us caps++(s.tm.drop (caps.length+1)).map lQ}
def bare(s:St):St:={s with tm:=s.tm.map lQ}
def Yq(c:Cfg)(it:iD)(l:Nat)(us:Lv)(caps:List AV)(ops:Array Oper):List Oper->Y->(Y->Prop)->Prop
 |[],y,Q=>Q y|o::os,y,Q=>match Py y.s.sig.T ops o.guard with
  |some g=>match yieldOf c.G y.s.sig.T g o.op with
   |some (l',ns,v)=>if nG o.dst y.s.tm.length=true/\(y.s.mem.isEmpty&&y.s.sv.isEmpty)=true/\caps.length<y.s.tm.length then match asY it.t v,rZ us (y.s.tm.drop 1)with
    |some x,some ps=>XH g (all (ns++ps) (l'=l/\y.on=true/\oL it.L y.k x/\Yq c it l us caps ops os ⟨setSlot o.dst (.dat .bool true) (anew us caps y.s),y.k+1,true⟩ Q/\Yq c it l us caps ops os ⟨setSlot o.dst (.dat .bool false) (bare y.s),y.k+1,false⟩ Q))
      (Yq c it l us caps ops os ⟨setSlot o.dst (.grd g (.dat .bool false)) y.s,y.k,y.on⟩ Q)
    |_,_=>False
    else False
   |none=>match gY c.P c.G c.K (c.mt o) ops y.s.nx y.s.sig o with
    |some r=>if gn r y.s.tm.length=true/\GL r y.s=true then all r.need (Yq c it l us caps ops os ⟨cZ r y.s,y.k,y.on⟩ Q)else False|none=>False
  |none=>False
def rgL(c:Cfg)(it:iD)(l:Nat)(us:Lv)(caps:List AV)(ops:Array Oper)(draw:Bool)(y:Y)(Q:Y->Prop):Prop:=if draw=true then False else Yq c it l us caps ops ops.toList y Q
def EM(fn:Func)(l:Nat)(us:Lv)(caps:List AV):Y:=⟨⟨(.yld l::Af us caps)++List.replicate (fn.ntmps-(caps.length+1)) (.val undef),[],0,[]⟩,0,true⟩
def evL(c:Cfg)(A:IW)(f:FuncId)(caps:List AV)(it:iD):Prop:=match c.P.funcs[f]? with
 |some fn=>match fn.body with
  |some b=>fn.results.toList.isEmpty=true/\yx it.t=true/\c.rng=false/\∀(l:Nat) (u:Nat->Value),it.pre->evZ c (rgL c it l (aDz u caps.length) caps) A b (EM fn l (aDz u caps.length) caps) (aDP it)|none=>False
 |none=>False
theorem wo{P:Program}{C C':Ctx}{a:AV}{v:Value}(h:a.rel P C v):(lQ a).rel P C' v:=by
 unfold lQ;split;exact h;exact EY h
theorem iV:∀{us:Lv}{qz:List AV},us.length=qz.length->(Af us qz).length=qz.length|[],[],_=>rfl|_::us,_::qz,h=>by simp[Af,iV (us:=us) (qz:=qz) (by simpa using h)]
theorem Jl:∀{us:Lv}{qz:List AV}{i:Nat}{x:AV},(Af us qz)[i]?=some x->∃u a,us[i]?=some u/\qz[i]?=some a/\x=.pin u a|[],_,_,_,h=>by simp[Af]at h|_::_,[],_,_,h=>by simp[Af]at h|u::us,a::qz,0,x,h=>by simp[Af]at h;exact⟨u,a,rfl,rfl,h.symm⟩|u::us,a::qz,i+1,x,h=>by simp only[Af,List.getElem?_cons_succ]at h ⊢;exact Jl h
theorem Gk:∀{us:Lv}{qz:List AV}{q:List Ob},rZ us qz=some q->(∀p∈q,p)->∀{i:Nat}{u:Value},us[i]?=some u->∃a,qz[i]?=some (.pin u a)
 |[],_,_,_,_,i,u,h=>by simp at h|u'::us,[],q,h,_,_,_,_=>by simp[rZ]at h|u'::us,x::qz,q,h,j,i,u,hi=>by
  cases x<;>first
   |(simp[rZ]at h;done)
   |skip
  rename_i y A;simp only[rZ]at h;split at h;rename_i G f;cases h;have e:y=u':=j _ (wL ..);cases i with
  |zero=>simp at hi;subst hi e;exact⟨A,rfl⟩|succ i=>simpa using Gk f (λp z=>j p (wX _ z)) (by simpa using hi)
  cases h
theorem Xo{t:Ty}(h:yx t=true){w:World}{D:Nat->Prop}{x:t.den}{us:Lv}(f:ae w D t x us):ae w noV t x us:=by
 cases t<;>first|exact f|cases h
section
variable {c:Cfg}{it:iD}{l N:Nat}{us:Lv}{caps:List AV}{J:Nat->World->Prop}{JX:World->Prop}{JP:List PanicEntry->World->Prop}
structure aBq(c:Cfg)(it:iD)(l:Nat)(us:Lv)(caps:List AV)(J:Nat->World->Prop)(JX:World->Prop)(JP:List PanicEntry->World->Prop):Prop where
 K:ay c.P c.G c.K
 I:aR c.P c.G c.KI
 KP:bG c.P c.G c.KP
 m:c.P.follows .mixedOrders=true
 rng:c.rng=false
 flat:yx it.t=true
 len:us.length=caps.length
 jc:∀k w1,J k w1->∃D:Nat->Prop,(∀b,D b->b<w1.heap.size)/\jG c.P ⟨w1,D,noM,noE⟩ c.G/\AV.relL c.P ⟨w1,D,noM,noE⟩ caps us
 xc:∀w1,JX w1->∃D:Nat->Prop,(∀b,D b->b<w1.heap.size)/\jG c.P ⟨w1,D,noM,noE⟩ c.G
 j1:∀k w1 w2,J k w1->Below w1.heap.size w1 w2->J k w2
 x1:∀w1 w2,JX w1->Below w1.heap.size w1 w2->JX w2
 yld:∀k y W u,it.L[k]?=some y->J k W->ae W noV it.t y [u]->YieldAt Fence.wide 0 c.P l #[u] W λe W' =>
   W.heap.size<=W'.heap.size/\((e=.returned (.bool true)/\J (k+1) W')\/(e=.returned (.bool false)/\JX W')\/∃ch,e=.panicked ch/\JP ch W')
def qw(c:Cfg)(N:Nat)(w:World)(D:Nat->Prop):Base:={P:=c.P,w0:=w,D0:=D,N:=N,O:=λ_=>False,G:=c.G,sv:=[],rd:=none,nod:=true}
def IV(J:Nat->World->Prop)(JX:World->Prop)(y:Y)(w:World):Prop:=(y.on=true->J y.k w)/\(y.on=false->JX w)
def aDZ(c:Cfg)(N:Nat)(J:Nat->World->Prop)(JX:World->Prop)(y:Y)(a:Act)(w:World):Prop:=∃w0 D0,IV J JX y w0/\Sim (qw c N w0 D0) y.s.sig a w
theorem aBq.okS(H:aBq c it l us caps J JX JP)(w:World)(D:Nat->Prop):OkS c (qw c N w D):=
 ⟨rfl,rfl,H.K,H.I,H.m,λe=>(e rfl).elim,λ_=>by rw[H.rng];rfl,H.KP⟩
theorem YZ{w0:World}{D0:Nat->Prop}{σ:Sig}{a:Act}{w:World}{D:Nat->Prop}{E:Nat->Ent}(h:aL (qw c N w0 D0) σ a w D E):Below w0.heap.size w0 w:=
 ⟨h.low.os,h.low.tape,h.low.output,h.low.size,λk f=>h.low.block k f id⟩
theorem IV.now(H:aBq c it l us caps J JX JP){y:Y}{w0 w:World}(f:IV J JX y w0)(hb:Below w0.heap.size w0 w):IV J JX y w:=
 ⟨λe=>H.j1 _ _ _ (f.1 e) hb,λe=>H.x1 _ _ (f.2 e) hb⟩
theorem QA{tm:List AV}{a:Act}{w:World}{D:Nat->Prop}(f:a.tmps.size=N)(hd:a.defers=[])(z:∀b,D b->b<w.heap.size)(y:jG c.P ⟨w,D,noM,noE⟩ c.G)
  (u:∀t,(tm.getD t .top).rel c.P ⟨w,D,noM,noE⟩ (a.tmps.getD t undef)) (nx:Nat):aL (qw c N w D) (St.sig ⟨tm,[],nx,[]⟩) a w D noE:=
 ⟨f,⟨⟨λ_=>hd,⟨[],hd⟩,by rw[hd];exact xC⟩,λd h=>by rw[hd]at h;cases h⟩,u,λnm b hm=>(by cases hm),λnm b hm=>(by cases hm),λnm j b L hm=>(by cases hm),Chg.refl _ _,z,λb hb=>hb,λb hb=>.inl hb,
  y,rfl,fu.nil λk i b g=>(by obtain⟨_,_,_,_,_,_,A,_⟩:=g;cases A)⟩
theorem getD_map{f:AV->AV}(h:f .top=.top)(l:List AV)(t:Nat):(l.map f).getD t .top=f (l.getD t .top):=by
 simp only[qA,qQ];cases l[t]?<;>simp[h]
theorem X5{P:Program}{C C':Ctx}{s:St}{tmps:Array Value}{q:List Ob}(hl:us.length=caps.length)(hlt:caps.length<s.tm.length)(h:∀t,(s.tm.getD t .top).rel P C (tmps.getD t undef))
  (X:rZ us (s.tm.drop 1)=some q) (L:∀p∈q,p) (hc:AV.relL P C' caps us) (t:Nat):((anew us caps s).tm.getD t .top).rel P C' (tmps.getD t undef):=by
 have f:lQ .top=.top:=rfl;have l1:((s.tm.take 1).map lQ).length=1:=by rw[vX,qO];omega
 have l2:(Af us caps).length=caps.length:=iV hl;show(((s.tm.take 1).map lQ++Af us caps++(s.tm.drop (caps.length+1)).map lQ).getD t .top).rel P C' _;rcases wW t 1 with g|g;have e:((s.tm.take 1).map lQ++Af us caps++(s.tm.drop (caps.length+1)).map lQ).getD t .top=lQ (s.tm.getD t .top):=by
  rw[qA,zJ,vU Z,<- qA,getD_map f];congr 1;rw[qA,qA,vV,if_pos g]
 rw[e];exact wo (h t);rcases wW t (caps.length+1)with g2|g2;have hi:t-1<(Af us caps).length:=by omega
 obtain⟨u,av,G,h2,h3⟩:=Jl (qB hi);have e:((s.tm.take 1).map lQ++Af us caps++(s.tm.drop (caps.length+1)).map lQ).getD t .top=.pin u av:=by
  rw[qA,zJ,qV Z,l1,vU hi,qB hi,h3];rfl
 rw[e];obtain⟨ov,A⟩:=Gk X L G;rw[vF,show 1+(t-1)=t by omega]at A;have z:=h t;rw[qA,A]at z;have y:tmps.getD t undef=u:=z.1;obtain⟨u',j,h8⟩:=AV.relL_get hc h2;rw[G]at j;cases j;exact⟨y,by rw[y];exact h8⟩;have e:((s.tm.take 1).map lQ++Af us caps++(s.tm.drop (caps.length+1)).map lQ).getD t .top=lQ (s.tm.getD t .top):=by
  rw[qA,zJ,qV Z,l1,qV Z,l2,<- qA,getD_map f];congr 1;rw[qA,qA,vF,show caps.length+1+(t-1-caps.length)=t by omega]
 rw[e];exact wo (h t)
theorem Xm:∀{t:Ty}{v w:AV}{x:t.den},yx t=true->asY t [v,w]=some x->False
 |.pair _ _,_,_,_,h,_|.str,_,_,_,h,_|.sl _,_,_,_,h,_=>by cases h
 |.int _,_,_,_,_,h|.bool,_,_,_,_,h=>by simp[asY]at h
theorem S3{P:Program}{C:Ctx}{t:Ty}{x:t.den}{u:Value}(h:yx t=true)(j:AV.relL P C (Jn t x) [u]):ae C.w C.D t x [u]:=by
 cases t with
 |pair a b=>cases h
 |_=>
  obtain⟨z,f,e,y,_⟩:=j;cases e;exact y
theorem ND(H:aBq c it l us caps J JX JP){y:Y}{w0:World}{D0:Nat->Prop}(hg:IV J JX y w0){a:Act}{w:World}{D:Nat->Prop}{E:Nat->Ent}(hd:aL (qw c N w0 D0) y.s.sig a w D E)(z:y.s.mem=[])(hsv:y.s.sv=[])(hlt:caps.length<y.s.tm.length)
  (hl:y.s.tm.length=N) {o:Oper} (hdst:nG o.dst y.s.tm.length=true) {l':Nat}{ns ps:List Ob}{v:List AV} (hy:yieldOf c.G y.s.sig.T true o.op=some (l',ns,v)) {x:it.t.den} (hx:asY it.t v=some x) (hps:rZ us (y.s.tm.drop 1)=some ps) (hns:∀q∈ns++ps,q) (hll:l'=l) (hon:y.on=true) (hat:oL it.L y.k x)
  {K:Act->World->Prop}{R:Exit->Act->World->Prop} (hP:∀ch a w,a.defers=[]->JP ch w->R (.panic ch) a w)
  (hK:∀(b:Bool) (s':St) (a':Act) (w':World),s'=setSlot o.dst (.dat .bool b) (if b=true then anew us caps y.s else bare y.s)->aDZ c N J JX ⟨s',y.k+1,b⟩ a' w'->K a' w'):o.wpIn Fence.wide 0 c.P a w K R:=by
 obtain⟨f,args,at_,n1,n2,hop,hf,rfl,hav⟩:=uf hy;obtain⟨av,v1,hargs,ea,rfl⟩:∃av v1,args.toList=[av]/\ug true (evT c.G y.s.sig.T av)=(v1,n2)/\v=[v1]:=by
  rcases hav with g|⟨_,_,_,_,_,_,_,_,_,rfl,_⟩;exact g;exact(Xm H.flat hx).elim
 rw[hll]at hf;have hfv:=dX hd f;have hav0:=dX hd av;have A:=nL (g:=true) rfl (λq hq=>hns q (qI.2 (.inl (qI.2 (.inl (by have j:=hq;rw[show(qw c N w0 D0).G=c.G from rfl,hf]at j;exact j)))))) hfv;have hav2:=nL (g:=true) rfl (λq hq=>hns q (qI.2 (.inl (qI.2 (.inr (by have j:=hq;rw[show(qw c N w0 D0).G=c.G from rfl,ea]at j;exact j)))))) hav0;rw[show(qw c N w0 D0).G=c.G from rfl,hf]at A;have hfv3:a.eval f=.func (.yield l) #[] #[]:=A;rw[show(qw c N w0 D0).G=c.G from rfl,ea]at hav2;have hcell:=Xo H.flat (S3 H.flat (Ue hx (us:=[a.eval av]) ⟨_,_,rfl,hav2,rfl⟩));have hyl:=H.yld y.k x w (a.eval av) hat ((hg.now H (YZ hd)).1 hon) hcell;obtain⟨fn,tmps,assign,body,hrun,u⟩:=hyl;unfold Oper.wpIn;refine⟨λf _=>trivial,?_⟩;have nodef:∀d,o.op≠.defer d:=λd e=>by rw[hop]at e;cases e
 rw[Oper.semAt_eq _ _ _ nodef];have hexec:(execOp a.eval o).run c.P w=.ok (.round l fn tmps assign body) w:=by
  obtain⟨dst,op,ty,pos,after,guard⟩:=o;simp only at hop;subst hop;have e1:args.map a.eval=#[a.eval av]:=by
   apply yR;rw[qAy,hargs];rfl
  simp only[execOp,resolve,e1,hfv3,Deferred.ofValue,wO,yN,wB,invoke,qAn];simpa using hrun
 rw[hexec,Oper.uponIn_round];refine⟨λh=>(by cases h),?_⟩;have X:a.defers=[]:=hd.df.1.1 rfl;have hsz:a.tmps.size=N:=hd.sz;have fin:∀(b:Bool) (tm:List AV) (w':World) (D':Nat->Prop),tm.length=N->(∀b,D' b->b<w'.heap.size)->jG c.P ⟨w',D',noM,noE⟩ c.G->(∀t,(tm.getD t .top).rel c.P ⟨w',D',noM,noE⟩ (a.tmps.getD t undef))->
   Sim (qw c N w' D') (setSlot o.dst (.dat .bool b) ⟨tm,[],y.s.nx,[]⟩).sig (a.put o.dst (.bool b)) w':=λb tm w' D' h1 h2 h3 h4=>
  ⟨D',noE,(QA hsz X h2 h3 h4 y.s.nx).slot (s:=⟨tm,[],y.s.nx,[]⟩) h1 (by rw[show(St.mk tm [] y.s.nx []).tm.length=y.s.tm.length from h1.trans hl.symm];exact hdst) rfl⟩
 refine RoundIn.mono u ?_;rintro e w' ⟨hsz',hres⟩;rcases hres with⟨rfl,hj⟩|⟨rfl,hj⟩|⟨ch,rfl,hj⟩;obtain⟨D',d1,d2,d3⟩:=H.jc _ _ hj;refine hK true _ _ w' rfl ⟨w',D',⟨λ_=>hj,λe=>(by cases e)⟩,?_⟩;have e:(if true=true then anew us caps y.s else bare y.s)=⟨(anew us caps y.s).tm,[],y.s.nx,[]⟩:=by rw[if_pos rfl];unfold anew;rw[z,hsv]
 rw[e];refine fin true _ w' D' ?_ d1 d2 λt=>X5 H.len hlt hd.tm hps (λp hp=>hns p (qI.2 (.inr hp))) d3 t;unfold anew;simp only[qG,vX,qO,vZ,iV H.len];omega;obtain⟨D',d1,d2⟩:=H.xc _ hj;refine hK false _ _ w' rfl ⟨w',D',⟨λe=>(by cases e),λ_=>hj⟩,?_⟩;have e:(if false=true then anew us caps y.s else bare y.s)=⟨(bare y.s).tm,[],y.s.nx,[]⟩:=by rw[if_neg (by decide)];unfold bare;rw[z,hsv]
 rw[e];refine fin false _ w' D' (by unfold bare;simp[hl]) d1 d2 λt=>?_;show((y.s.tm.map lQ).getD t .top).rel _ _ _;rw[getD_map rfl];exact wo (hd.tm t);exact hP ch a w' X hj
theorem ux(H:aBq c it l us caps J JX JP){ops:Array Oper}{Q:Y->Prop}{R:Exit->Act->World->Prop}(hR:∀y',Q y'->y'.s.tm.length=N->∀a w,aDZ c N J JX y' a w->R .normal a w)(hP:∀ch a w,a.defers=[]->JP ch w->R (.panic ch) a w):
  ∀(os:List Oper) (j:Nat) (y:Y),(∀i o,os[i]?=some o->ops[j+i]?=some o)->Yq c it l us caps ops os y Q->y.s.tm.length=N->∀a w,aDZ c N J JX y a w->wpOpsIn Fence.wide 0 c.P ops R (List.range' j os.length) a w
 |[],j,y,_,h,G,a,w,hs=>by
  simp only[yZ,qBt,wpOpsIn];simp only[Yq]at h;exact hR y h G a w hs
 |o::os,j,y,A,h,G,a,w,hs=>by
  have ho:ops[j]?=some o:=by simpa using A 0 o rfl
  have z:∀i o',os[i]?=some o'->ops[j+1+i]?=some o':=λi o' hi=>by
   have:=A (i+1) o' (by simpa using hi);rw[show j+1+i=j+(i+1) by omega];exact this
  obtain⟨w0,D0,hg,D,E,hd⟩:=hs;simp only[Yq]at h;split at h;case h_2=>exact h.elim
  rename_i g hge;have L:=CY (o:=o) hd hge;rw[wR,qAw,wpOpsIn_cons];split at h
  ·
   rename_i l' ns v hy;split at h;case isFalse=>exact h.elim
   rename_i hc;obtain⟨u,hms,hlt⟩:=hc;simp only[qE,zD]at hms;split at h;case h_2=>exact h.elim
   rename_i x ps hx hps;unfold wpOpIn;rw[ho];simp only;rw[L];cases g with
   |false=>
    simp only[wF,xM];refine⟨λf _=>trivial,ux H hR hP os (j+1) _ z (h.2 rfl) (by simp[setSlot];split<;>simp[G]) _ _ ⟨w0,D0,hg,D,E,?_⟩⟩;exact hd.slot G u ⟨λe=>(by cases e),λ_=>rfl⟩
   |true=>
    simp only[kE];obtain⟨hns,hll,hon,hat,h1,h2⟩:=bK (h.1 rfl);refine ND H hg hd hms.1 hms.2 hlt G u hy hx hps hns hll hon hat hP λb s' a' w' es hs'=>?_;have ls:s'.tm.length=N:=by
     rw[es];cases b;rw[if_neg (by decide)];unfold setSlot bare;split<;>simp[G];rw[if_pos rfl];have:(anew us caps y.s).tm.length=N:=by
      unfold anew;simp only[qG,vX,qO,vZ,iV H.len];omega
     unfold setSlot;split<;>simp[this]
    cases b;subst es;exact ux H hR hP os (j+1) _ z h2 ls _ _ hs';subst es;exact ux H hR hP os (j+1) _ z h1 ls _ _ hs'
  ·
   split at h;case h_2=>exact h.elim
   rename_i r hr;split at h;case isFalse=>exact h.elim
   rename_i X;obtain⟨hns,hcont⟩:=bK h;have u:∀d,o.dst=some d->d<(qw c N w0 D0).N:=by
    intro d hdd;have h2:=X.1;unfold gn at h2;simp only[qE]at h2;have:=h2.1;rw[(jN hr).1,hdd]at this;rw[G]at this;exact vO this
   have:=pu (S:=qw c N w0 D0) (Q:=R) H.K ho ⟨D,E,hd⟩ u hr hns (λk hk=>by
    have:=X.2;unfold GL at this;rw[hk]at this;exact KG this)
   refine wpOpIn_mono (λa' w' h'=>ux H hR hP os (j+1) _ z hcont (by rw[jg];exact G) a' w' ⟨w0,D0,hg,?_⟩) this;show Sim _ (cZ r y.s).sig a' w';rw[gw X.1];exact h'
end
theorem JM{c:Cfg}{A:IW}{f:FuncId}{caps:List AV}{it:iD}(hK:ay c.P c.G c.K)(hI:aR c.P c.G c.KI)(hm:c.P.follows .mixedOrders=true)(h:evL c A f caps it)(hKP:c.KP=λ_ _ _=>none:=by rfl):IU c.P c.G f caps it:=by
 intro hpre l J JX JP w us jc xc j1 x1 hyld h0;unfold evL at h;split at h;case h_2=>exact h.elim
 rename_i fn hf;split at h;case h_2=>exact h.elim
 rename_i b hb;obtain⟨hres,hflat,hrng,h⟩:=h;obtain⟨D,hD,hG,z⟩:=jc 0 w h0;have j:us.length=caps.length:=(AV.relL_length z).symm;obtain⟨u,hu⟩:∃u:Nat->Value,aDz u caps.length=us:=⟨λi=>us.getD i undef,by
  unfold aDz;apply List.ext_getElem;simp[j];intro i h1 h2;simp[qA,h2]⟩
 have h:=h l u hpre;rw[hu]at h;have H:aBq c it l us caps J JX JP:=⟨hK,hI,(λf args m r h=>by rw[hKP]at h;cases h),hm,hrng,hflat,j,jc,xc,j1,x1,hyld⟩;have earr:#[Value.func (.yield l) #[] #[]]++us.toArray=(Value.func (.yield l) #[] #[]::us).toArray:=by simp
 rw[earr];obtain⟨N,hN⟩:∃N,N=(caps.length+1)+(fn.ntmps-(caps.length+1)):=⟨_,rfl⟩;refine callsIn_of_wp_marks hf hb trivial ?_;have lp:(Af us caps).length=caps.length:=iV j;have hlS:(EM fn l us caps).s.tm.length=N:=by rw[hN];simp[EM,lp];omega
 have pinR:AV.relL c.P ⟨w,D,noM,noE⟩ (.yld l::Af us caps) (Value.func (.yield l) #[] #[]::us):=by
  refine⟨_,_,rfl,rfl,AV.relL_mk (by rw[lp,j]) λi a v h1 h2=>?_⟩;obtain⟨u',a',g1,g2,rfl⟩:=Jl h1;rw[h2]at g1;cases g1;obtain⟨v',g3,g4⟩:=AV.relL_get z g2;rw[h2]at g3;cases g3;exact⟨rfl,g4⟩
 have hstart:aL (qw c N w D) (EM fn l us caps).s.sig {tmps:=(Value.func (.yield l) #[] #[]::us).toArray++Array.replicate (fn.ntmps-(Value.func (.yield l) #[] #[]::us).toArray.size) undef,defers:=[]} w D noE:=by
  refine QA (by rw[hN];simp[j]) rfl hD hG (λt=>?_) 0;show(((.yld l::Af us caps)++List.replicate (fn.ntmps-(caps.length+1)) (AV.val undef)).getD t .top).rel c.P ⟨w,D,noM,noE⟩ _;rw[qA,qP];by_cases ht:t<(AV.yld l::Af us caps).length;rw[vU ht,kM (by simpa[j,lp]using ht)];obtain⟨u,g1,g2⟩:=AV.relL_get pinR (qB ht);rw[qB ht];simp only[kQ,g1,vJ];exact g2;rw[qV Z,kJ (by simp[j,lp]at ht ⊢;omega)];rw[wU,yQ];split;rename_i h1;rw[if_pos (by simp[j,lp]at h1 ⊢;omega)];rfl;trivial
 refine sR (N:=N) (F:=Fence.wide) (X:=aDZ c N J JX) (PQ:=λch a w=>a.defers=[]/\JP ch w) (λy a w ⟨w0,D0,hg,hs⟩=>⟨qw c N w0 D0,H.okS w0 D0,rfl,rfl,hs,λs' a' w' hs'=>⟨w0,D0,hg,hs'⟩⟩)
  (λid ops draw y Q R hr hl hR hP a w hs=>?_) b (EM fn l us caps) (aDP it) _ h hlS (λe y' hq hl a' w' hs'=>?_) (λch a w ⟨hd,hj⟩=>?_) _ w ⟨w,D,⟨λ_=>h0,λe=>by cases e⟩,D,noE,hstart⟩
 unfold rgL at hr;split at hr;exact hr.elim;rename_i hdr;have hdr:draw=false:=by simpa using hdr
 subst hdr;refine wpIn_region ?_;have:=ux H hR (λch a w h1 h2=>hP ch a w ⟨h1,h2⟩) ops.toList 0 y (λi o ho=>by simpa using ho) hr hl a w hs;rw[qAv];simpa using this;have key:(y'.on=true->y'.k=it.L.length)->LeavesInM Fence.wide 0 c.P fn a'.tmps (λe W'=>((∃v,e=.returned v)/\(J it.L.length W'\/JX W'))\/∃ch,e=.panicked ch/\JP ch W') a'.defers .returning w':=by
  intro hq;obtain⟨w0,D0,hg,D',E',hd⟩:=hs';have hdef:a'.defers=[]:=hd.df.1.1 rfl;rw[hdef];have hgn:=hg.now H (YZ hd);have hr:fn.results=#[]:=by
   apply yR;exact zD.1 hres
  refine⟨.tuple #[],by simp[results,hr],.inl ⟨⟨_,rfl⟩,?_⟩⟩;cases hon:y'.on with
  |true=>exact .inl (by rw[<- hq hon];exact hgn.1 hon)|false=>exact .inr (hgn.2 hon)
 cases e<;>first
  |exact key hq
  |exact hq.elim
 show LeavesInM _ _ _ _ _ _ _ _ _;rw[hd];exact .inr ⟨ch,rfl,hj⟩
end Go.Eng
namespace Go.Eng
theorem oE_{p q:Prop}(h:p)(e:q=p:=by kernel_rfl):q:=of_eq e h
theorem oE{p q:Prop}(h:p)(e:q=p:=by kernel_rfl):q:=of_eq e h
open Go.RowKit
def aFd(l:List Nat)(s:St):St:={s with tm:=(List.range s.tm.length).map λi=>if l.contains i then s.tm.getD i .top else .top}
def lvA(L:List (Nat×List Nat))(A:Ann):Ann:=⟨λid s=>match L.lookup id with
 |none=>A.loop id s|some l=>match A.loop id s with
  |some sp=>some {sp with st:=λx=>aFd l (sp.st x)}
  |none=>none,A.pre,A.cut⟩
inductive AK where
 |val (t:Ty)
 |row (t:Ty)
 |ptr (t:Ty)
 |arr (t:Ty)
 |fn (g:FuncId) (t:Ty)
 |fnp (g:FuncId) (t:Ty)
 |fn0 (g:FuncId)
 |fnp0 (g:FuncId)
 |bp (t:Ty)
 |mp (nm:Nat)
 |pv (nm:Nat) (a b:Ty)
 |pvf (a b:Ty)
 |pvb (a b:Ty)
 |fnb (g:FuncId) (t:Ty)
@[reducible] def AK.den:AK->Type
 |.val t=>t.den|.row t=>t.den|.ptr t=>t.den|.arr t=>List t.den|.fn _ t=>t.den|.fnp _ t=>t.den|.fn0 _=>PUnit|.fnp0 _=>PUnit|.bp t=>t.den|.mp _=>PUnit|.pv _ a b=>a.den×b.den|.pvf a b=>a.den×b.den|.pvb a b=>a.den×b.den|.fnb _ t=>t.den
def AK.av:(k:AK)->k.den->AV|.val t,x=>.dat t x|.row t,x=>.agg (cellsOf t x)|.ptr t,x=>.ip t x|.arr t,x=>.ia t x|.fn g t,x=>.fn g [.ip t x]|.fnp g t,x=>.ipv (.fn g [.ip t x])|.fn0 g,_=>.fn g []|.fnp0 g,_=>.ipv (.fn g [])|.bp t,x=>.ipv (.ip t x)|.mp nm,_=>.ptr nm 1 0 0|.pv nm a b,x=>.ips [.ip a x.1,.ip b x.2,.ptr nm 1 0 0]|.pvf a b,x=>.ips [.ip a x.1,.ip b x.2,.top]|.pvb a b,x=>.ipv (.ips [.ip a x.1,.ip b x.2,.top])|.fnb g t,x=>.fn g [.ipv (.ip t x)]
def UG(t:Ty):AV->Option t.den|.ip t' x=>if h:t'=t then some (h▸x)else none|_=>none
def aDY(g:FuncId)(t:Ty):AV->Option t.den|.fn g' [a]=>if g'=g then UG t a else none|_=>none
def aAX(g:FuncId)(t:Ty):AV->Option t.den|.fn g' [.ipv a]=>if g'=g then UG t a else none|_=>none
def aDX(a b:Ty):AV->Option (a.den×b.den)
 |.ips [x,y,.top]=>match UG a x,UG b y with
  |some x,some y=>some (x,y)|_,_=>none
 |_=>none
def aAV(nm:Nat)(a b:Ty):AV->Option (a.den×b.den)
 |.ips [x,y,.ptr nm' 1 0 0]=>if nm'=nm then match UG a x,UG b y with
  |some x,some y=>some (x,y)|_,_=>none
  else none
 |_=>none
def X4(g:FuncId):AV->Option PUnit|.fn g' []=>if g'=g then some ⟨⟩else none|_=>none
def AK.of:(k:AK)->AV->Option k.den
 |.val t,a=>a.qz t|.row t,a=>match a with
  |.agg cs=>match cV t cs with
   |some (x,[])=>some x|_=>none
  |_=>none
 |.ptr t,a=>UG t a|.arr t,a=>match a with
  |.ia t' x=>if h:t'=t then some (h▸x)else none|_=>none
 |.fn g t,a=>aDY g t a|.fnp g t,a=>match a with
  |.ipv b=>aDY g t b|_=>none
 |.fn0 g,a=>X4 g a|.fnp0 g,a=>match a with
  |.ipv b=>X4 g b|_=>none
 |.bp t,a=>match a with
  |.ipv b=>UG t b|_=>none
 |.mp nm,a=>match a with
  |.ptr nm' 1 0 0=>if nm'=nm then some ⟨⟩else none|_=>none
 |.pv nm a b,x=>aAV nm a b x|.pvf a b,x=>aDX a b x|.pvb a b,x=>match x with
  |.ipv y=>aDX a b y|_=>none
 |.fnb g t,a=>aAX g t a
variable {a:AV}{t:Ty}
theorem mS{x:t.den}(h:UG t a=some x):a=.ip t x:=by
 unfold UG at h;split at h;split at h;rename_i e;subst e;cases h;rfl;cases h;cases h
variable {g:FuncId}
theorem Ug{x:t.den}(h:aDY g t a=some x):a=.fn g [.ip t x]:=by
 unfold aDY at h;split at h;split at h;rename_i e;subst e;rw[mS h];cases h;cases h
theorem X3{x:t.den}(h:aAX g t a=some x):a=.fn g [.ipv (.ip t x)]:=by
 unfold aAX at h;split at h;split at h;rename_i e;subst e;rw[mS h];cases h;cases h
theorem Uf{t s:Ty}{x:t.den×s.den}(h:aDX t s a=some x):a=.ips [.ip t x.1,.ip s x.2,.top]:=by
 unfold aDX at h;split at h;split at h;rename_i j f;cases h;rw[mS j,mS f];cases h;cases h
variable {nm:Nat}
theorem X1{t s:Ty}{x:t.den×s.den}(h:aAV nm t s a=some x):a=.ips [.ip t x.1,.ip s x.2,.ptr nm 1 0 0]:=by
 unfold aAV at h;split at h;split at h;rename_i e;subst e;split at h;rename_i j f;cases h;rw[mS j,mS f];cases h;cases h;cases h
theorem Ny{x:PUnit}(h:X4 g a=some x):a=.fn g []:=by
 unfold X4 at h;split at h;split at h;rename_i e;subst e;rfl;cases h;cases h
theorem AK.of_rel{P:Program}{C:Ctx}{k:AK}{a:AV}{x:k.den}{v:Value}(h:k.of a=some x)(f:a.rel P C v):(k.av x).rel P C v:=by
 cases k with
 |val t=>exact AV.as_rel h f|row t=>
  simp only[AK.of]at h;split at h;split at h;rename_i y z;cases h;obtain⟨us,e,g⟩:=f;obtain⟨u,j,G,A,g2⟩:=cy z g;have g2':j=[]:=g2;subst g2' G;exact⟨u++[],e,by rw[wH];exact b8 A⟩;cases h;cases h
 |ptr t=>rw[mS h]at f;exact f|arr t=>
  simp only[AK.of]at h;split at h;split at h;rename_i e;subst e;cases h;exact f;cases h;cases h
 |fn g t=>rw[Ug h]at f;exact f|fnp g t=>
  simp only[AK.of]at h;split at h;rw[Ug h]at f;exact f;cases h
 |fn0 g=>rw[Ny h]at f;exact f|fnp0 g=>
  simp only[AK.of]at h;split at h;rw[Ny h]at f;exact f;cases h
 |bp t=>
  simp only[AK.of]at h;split at h;rw[mS h]at f;exact f;cases h
 |mp nm=>
  simp only[AK.of]at h;split at h;split at h;rename_i e;subst e;exact f;cases h;cases h
 |pv nm a b=>rw[X1 h]at f;exact f|pvf a b=>rw[Uf h]at f;exact f|pvb a b=>
  simp only[AK.of]at h;split at h;rw[Uf h]at f;exact f;cases h
 |fnb g t=>rw[X3 h]at f;exact f
@[reducible] def AKs:List AK->Type
 |[]=>PUnit|k::r=>k.den×AKs r
def avK:(l:List AK)->AKs l->List AV|[],_=>[]|k::r,x=>k.av x.1::avK r x.2
def ofK:(l:List AK)->List AV->Option (AKs l)
 |[],[]=>some ⟨⟩|k::r,a::qz=>match k.of a,ofK r qz with
  |some x,some y=>some (x,y)|_,_=>none
 |_,_=>none
variable {P:Program}
theorem iW{C:Ctx}:∀{l:List AK}{qz:List AV}{x:AKs l}{us:Lv},ofK l qz=some x->AV.relL P C qz us->AV.relL P C (avK l x) us
 |[],[],_,_,_,j=>j|k::r,a::qz,x,us,h,j=>by
  simp only[ofK]at h;split at h;rename_i y z G A;cases h;obtain⟨u,f,e,L,g2⟩:=j;exact⟨u,f,e,AK.of_rel G L,iW A g2⟩;cases h
 |[],_::_,_,_,h,_=>by simp[ofK]at h|_::_,[],_,_,h,_=>by simp[ofK]at h
noncomputable def aA(l:List AK)(pre:AKs l->Ob)(ret:AKs l->AV)(args:List AV)(m:Mem):Option lI:=match m with
 |[]=>match ofK l args with
  |some x=>some ⟨pre x,ret x,[]⟩|none=>none
 |_=>none
variable {G:List (Nat×AV)}{f:FuncId}{l:List AK}
theorem af{pre:AKs l->Ob}{ret:AKs l->AV}(h:∀x,aj P G f (avK l x) [] ⟨pre x,ret x,[]⟩):
  ∀args m c,aA l pre ret args m=some c->aj P G f args m c:=by
 intro args m c hc;unfold aA at hc;split at hc;split at hc;rename_i x j;cases hc;exact(h x).args λC us _ u=>iW j u;cases hc;cases hc
def kOr(f0:FuncId)(k:List AV->Mem->Option lI)(K:Kt):Kt:=λf args m=>if f=f0 then k args m else K f args m
theorem ai{j:FuncId}{k:List AV->Mem->Option lI}{K:Kt}(u:∀args m c,k args m=some c->aj P G j args m c)(y:ay P G K):ay P G (kOr j k K):=by
 intro f args m c h;unfold kOr at h;split at h;rename_i e;subst e;exact u args m c h;exact y f args m c h
def MX(l:List AK)(pre:AKs l->Ob)(ret:AKs l->AV)(b:AKs l->Blk)(args:List AV)(m:Mem):Option lI:=match m with
 |[]=>match ofK l args with
  |some x=>some ⟨pre x,ret x,[(0,b x)]⟩|none=>none
 |_=>none
theorem Ic{pre:AKs l->Ob}{ret:AKs l->AV}{b:AKs l->Blk}(h:∀x,aj P G f (avK l x) [] ⟨pre x,ret x,[(0,b x)]⟩):
  ∀args m c,MX l pre ret b args m=some c->aj P G f args m c:=by
 intro args m c hc;unfold MX at hc;split at hc;split at hc;rename_i x j;cases hc;exact(h x).args λC us _ u=>iW j u;cases hc;cases hc
def Ir(l:List AK)(q:AKs l->DR)(args:List AV)(m:Mem):Option DR:=match m with
 |[]=>match ofK l args with
  |some x=>some (q x)|none=>none
 |_=>none
def pOr(f0:FuncId)(k:List AV->Mem->Option DR)(KP:KPt):KPt:=λf args m=>if f=f0 then k args m else KP f args m
theorem nA{q:AKs l->DR}(h:∀x,fq P G f (avK l x) [] (q x)):∀args m r,Ir l q args m=some r->fq P G f args m r:=by
 intro args m r hc;unfold Ir at hc;split at hc;split at hc;rename_i x j;cases hc;exact λy z w D E us X L u A=>h x y z w D E us X L (iW j u) A;cases hc;cases hc
theorem mg{j:FuncId}{k:List AV->Mem->Option DR}{KP:KPt}(u:∀args m r,k args m=some r->fq P G j args m r)(y:bG P G KP):bG P G (pOr j k KP):=by
 intro f args m r h;unfold pOr at h;split at h;rename_i e;subst e;exact u args m r h;exact y f args m r h
def noP:KPt:=λ_ _ _=>none
theorem Aj:bG P G noP:=λf args m r h=>by cases h
def asVar(nm:Nat)(t:Ty):Mem->Option t.den|[(nm',.var [.dat t' x])]=>if nm'=nm then if h:t'=t then some (h▸x)else none else none|_=>none
variable {m:Mem}
theorem Nx{x:t.den}(h:asVar nm t m=some x):m=[(nm,.var [.dat t x])]:=by
 unfold asVar at h;split at h;split at h;rename_i e;split at h;rename_i f;subst e f;cases h;rfl;cases h;cases h;cases h
def YF(nm:Nat)(t:Ty)(l:List AK)(pre:AKs l->t.den->Ob)(ret:AKs l->t.den->AV)(upd:AKs l->t.den->t.den)(args:List AV)(m:Mem):Option lI:=match asVar nm t m,ofK l args with|some xs,some x=>some ⟨pre x xs,ret x xs,[(nm,.var [.dat t (upd x xs)])]⟩|_,_=>none
theorem rm{pre:AKs l->t.den->Ob}{ret:AKs l->t.den->AV}{upd:AKs l->t.den->t.den}
  (h:∀x xs,aj P G f (avK l x) [(nm,.var [.dat t xs])] ⟨pre x xs,ret x xs,[(nm,.var [.dat t (upd x xs)])]⟩):∀args m c,YF nm t l pre ret upd args m=some c->aj P G f args m c:=by
 intro args m c hc;unfold YF at hc;split at hc;rename_i xs x y u;cases hc;rw[Nx y];exact(h x xs).args λC us _ j=>iW u j;cases hc
def oX(nm:Nat)(t:Ty)(l:List AK)(q:AKs l->t.den->DR)(args:List AV)(m:Mem):Option DR:=match asVar nm t m,ofK l args with|some xs,some x=>some (q x xs)|_,_=>none
theorem vq{q:AKs l->t.den->DR}(h:∀x xs,fq P G f (avK l x) [(nm,.var [.dat t xs])] (q x xs)):∀args m r,oX nm t l q args m=some r->fq P G f args m r:=by
 intro args m r hc;unfold oX at hc;split at hc;rename_i xs x h1 X;cases hc;rw[Nx h1];exact λu y w D E us L A j z=>h x xs u y w D E us L A (iW X j) z;cases hc
variable {p:Prop}{args:List AV}{A:Ann}{c:Cfg}
theorem zF{r:lI}(u:ay c.P c.G c.K)(y:aR c.P c.G c.KI)(hm:c.P.follows .mixedOrders=true)(h:p)(j:c.KP=λ_ _ _=>none:=by rfl)(e:evF c A f args m r=p:=by kernel_rfl):aj c.P c.G f args m r:=oy u y hm (oE h e) j
theorem zM{ret:AV}{upd:Mem}{q:DR}(u:ay c.P c.G c.K)(y:aR c.P c.G c.KI)(hm:c.P.follows .mixedOrders=true)(j:bG c.P c.G c.KP)(h:p)(e:evM c A f args m ret upd q=p:=by kernel_rfl):aj c.P c.G f args m ⟨q.pre/\q.ok=true,ret,upd⟩/\fq c.P c.G f args m q:=rR u y hm j (oE h e)
theorem zC{ret:AV}{q:DR}(u:ay c.P c.G c.K)(y:aR c.P c.G c.KI)(hm:c.P.follows .mixedOrders=true)(j:bG c.P c.G c.KP)(h:p)(e:evC c A f args ret q=p:=by kernel_rfl):aj c.P c.G f args [] ⟨q.pre/\q.ok=true,ret,[]⟩/\fq c.P c.G f args [] q:=ER u y hm j (oE h e)
variable {it:iD}
theorem zI{A:IW}(u:ay c.P c.G c.K)(y:aR c.P c.G c.KI)(hm:c.P.follows .mixedOrders=true)(h:p)(j:c.KP=λ_ _ _=>none:=by rfl)(e:evI c A f args it=p:=by kernel_rfl):lS c.P c.G f args it:=rx u y hm (oE h e) j
theorem zN{A:Zg}(u:ay c.P c.G c.K)(y:aR c.P c.G c.KI)(hm:c.P.follows .mixedOrders=true)(h:p)(j:c.KP=λ_ _ _=>none:=by rfl)(e:aFo c A f args it=p:=by kernel_rfl):lS c.P c.G f args it:=JL u y hm (oE h e) j
theorem zL{A:IW}(u:ay c.P c.G c.K)(y:aR c.P c.G c.KI)(hm:c.P.follows .mixedOrders=true)(h:p)(j:c.KP=λ_ _ _=>none:=by rfl)(e:evL c A f args it=p:=by kernel_rfl):IU c.P c.G f args it:=JM u y hm (oE h e) j
theorem zR{Kz:Kt}{A A0 Ac:Ann}{r:lI}(j:ay c.P [] Kz)(y:ay c.P c.G c.K)(z:aR c.P c.G c.KI)(hm:c.P.follows .mixedOrders=true)(u:bG c.P c.G c.KP)(h:p)(e:evR c Kz A0 A Ac f args r=p:=by kernel_rfl):aj c.P c.G f args [] r:=rQ j y z hm u (oE h e)
abbrev EO(P:Program)(G:List (Nat×AV))(f:FuncId)(k:List AV->Mem->Option lI):Prop:=∀args m c,k args m=some c->aj P G f args m c
def T5{A:Type}(a:A):Prop:=a=a/\True
def L7{A B:Type}(a:A)(b:B)(r:Prop):Prop:=a=a/\b=b/\r
def k7{A B:Type}(a:A)(b:B):Prop:=a=a/\b=b/\True
def Q4{A B C:Type}(a:A)(b:B)(c:C)(r:Prop):Prop:=a=a/\b=b/\c=c/\r
def u9{A B C:Type}(a:A)(b:B)(c:C):Prop:=a=a/\b=b/\c=c/\True
def T4{A B C D:Type}(a:A)(b:B)(c:C)(d:D)(r:Prop):Prop:=a=a/\b=b/\c=c/\d=d/\r
def k8{A B C D:Type}(a:A)(b:B)(c:C)(d:D):Prop:=a=a/\b=b/\c=c/\d=d/\True
def T6{A B C D E:Type}(a:A)(b:B)(c:C)(d:D)(e:E)(r:Prop):Prop:=a=a/\b=b/\c=c/\d=d/\e=e/\r
def d8{A B C D E:Type}(a:A)(b:B)(c:C)(d:D)(e:E):Prop:=a=a/\b=b/\c=c/\d=d/\e=e/\True
def w6{A B C D E F:Type}(a:A)(b:B)(c:C)(d:D)(e:E)(f:F)(r:Prop):Prop:=a=a/\b=b/\c=c/\d=d/\e=e/\f=f/\r
def d9{A B C D E F:Type}(a:A)(b:B)(c:C)(d:D)(e:E)(f:F):Prop:=a=a/\b=b/\c=c/\d=d/\e=e/\f=f/\True
def T7{A B C D E F G:Type}(a:A)(b:B)(c:C)(d:D)(e:E)(f:F)(g:G)(r:Prop):Prop:=a=a/\b=b/\c=c/\d=d/\e=e/\f=f/\g=g/\r
def f7q{A B C D E F G:Type}(a:A)(b:B)(c:C)(d:D)(e:E)(f:F)(g:G):Prop:=a=a/\b=b/\c=c/\d=d/\e=e/\f=f/\g=g/\True
def z8{A B C D E F G H:Type}(a:A)(b:B)(c:C)(d:D)(e:E)(f:F)(g:G)(h:H)(r:Prop):Prop:=a=a/\b=b/\c=c/\d=d/\e=e/\f=f/\g=g/\h=h/\r
def f8q{A B C D E F G H:Type}(a:A)(b:B)(c:C)(d:D)(e:E)(f:F)(g:G)(h:H):Prop:=a=a/\b=b/\c=c/\d=d/\e=e/\f=f/\g=g/\h=h/\True
def L4{A B C D E F G H I:Type}(a:A)(b:B)(c:C)(d:D)(e:E)(f:F)(g:G)(h:H)(i:I)(r:Prop):Prop:=a=a/\b=b/\c=c/\d=d/\e=e/\f=f/\g=g/\h=h/\i=i/\r
def f9q{A B C D E F G H I:Type}(a:A)(b:B)(c:C)(d:D)(e:E)(f:F)(g:G)(h:H)(i:I):Prop:=a=a/\b=b/\c=c/\d=d/\e=e/\f=f/\g=g/\h=h/\i=i/\True
def L5(x r:Prop):Prop:=(x->x->x)/\r
def Q2(x r:Prop):Prop:=(x->x->x)/\(x->x->x)/\r
def Q3(x r:Prop):Prop:=(x->x->x)/\(x->x->x)/\(x->x->x)/\r
attribute [simp] L5 Q2 Q3 L7 Q4 T4 T6 w6 T7 z8 L4 T5 k7 u9 k8 d8 d9 f7q f8q f9q
theorem qc:((∀{A:Type} (a:A),T5 a=True)/\(∀{A B:Type} (a:A) (b:B) (r:Prop),L7 a b r=r)/\(∀{A B:Type} (a:A) (b:B),k7 a b=True)/\(∀{A B C:Type} (a:A) (b:B) (c:C) (r:Prop),Q4 a b c r=r)/\(∀{A B C:Type} (a:A) (b:B) (c:C),u9 a b c=True)/\(∀{A B C D:Type} (a:A) (b:B) (c:C) (d:D) (r:Prop),T4 a b c d r=r)/\(∀{A B C D:Type} (a:A) (b:B) (c:C) (d:D),k8 a b c d=True)/\(∀{A B C D E:Type} (a:A) (b:B) (c:C) (d:D) (e:E) (r:Prop),T6 a b c d e r=r)/\(∀{A B C D E:Type} (a:A) (b:B) (c:C) (d:D) (e:E),d8 a b c d e=True)/\(∀{A B C D E F:Type} (a:A) (b:B) (c:C) (d:D) (e:E) (f:F) (r:Prop),w6 a b c d e f r=r)/\(∀{A B C D E F:Type} (a:A) (b:B) (c:C) (d:D) (e:E) (f:F),d9 a b c d e f=True)/\(∀{A B C D E F G:Type} (a:A) (b:B) (c:C) (d:D) (e:E) (f:F) (g:G) (r:Prop),T7 a b c d e f g r=r)/\(∀{A B C D E F G:Type} (a:A) (b:B) (c:C) (d:D) (e:E) (f:F) (g:G),f7q a b c d e f g=True)/\(∀{A B C D E F G H:Type} (a:A) (b:B) (c:C) (d:D) (e:E) (f:F) (g:G) (h:H) (r:Prop),z8 a b c d e f g h r=r)/\(∀{A B C D E F G H:Type} (a:A) (b:B) (c:C) (d:D) (e:E) (f:F) (g:G) (h:H),f8q a b c d e f g h=True)/\(∀{A B C D E F G H I:Type} (a:A) (b:B) (c:C) (d:D) (e:E) (f:F) (g:G) (h:H) (i:I) (r:Prop),L4 a b c d e f g h i r=r)/\(∀{A B C D E F G H I:Type} (a:A) (b:B) (c:C) (d:D) (e:E) (f:F) (g:G) (h:H) (i:I),f9q a b c d e f g h i=True)/\(∀x r:Prop,L5 x r=r)/\(∀x r:Prop,Q2 x r=r)/\(∀x r:Prop,Q3 x r=r))/\((∀x y,Dy x true y=(x||y))/\(∀x y,Dy x y false=(x&&y))/\(∀{b:Prop}(α:Type)[Nonempty α],(∀_:α,b)↔b)/\(∀{b:Prop}(α:Prop)[Nonempty α],(α->b)↔b)/\(∀b,(true&&b)=b)/\(∀b,(b&&true)=b)/\(∀b,(false||b)=b)/\(∀b,(b||false)=b)/\(∀p,(True/\p)=p)/\(∀p,(p/\True)=p)/\(∀{a:Prop},a->a↔True)/\(∀α:Prop,(α->True)=True)/\(∀α:Type,(α->True)=True)/\(∀b,((!b)=true)=(b=false))/\(∀a b,((a||b)=true)=(a=true\/b=true))/\(∀{x y},(x||y)=false↔x=false/\y=false)/\(∀b,((!b)=false)=(b=true))/\(∀a b,((a&&b)=true)=(a=true/\b=true))/\(∀{x y},(x&&y)=false↔x=true->y=false)/\(∀b,(!!b)=b)/\(∀{α:Type}{p:α->Prop}{b},(∃a,p a/\a=b)↔p b)/\(∀{α:Type}{p:α->Prop}{b},(∃a,p a/\b=a)↔p b)/\(∀{α:Type}{p:α->Prop}{b},(∃a,a=b/\p a)↔p b)/\∀{α:Type}{p:α->Prop}{b},(∃a,b=a/\p a)↔p b):=⟨by simp[L5,Q2,Q3,L7,Q4,T4,T6,w6,T7,z8,L4,T5,k7,u9,k8,d8,d9,f7q,f8q,f9q],⟨λx _=>by cases x<;>rfl,λx _=>by cases x<;>rfl,λα _=>gI α,λα _=>gI α,by simp⟩⟩
theorem qd:(∀n:Nat,(n:Int).toNat=n)/\(∀n,0+n=n)/\(∀n,n*1=n)/\(∀n:Nat,Int.ofNat n=n)/\(∀{p:Prop}[Decidable p],(decide p=true)=p)/\(∀{p:Prop}{x:Decidable p},decide p=false↔¬p)/\(∀{α:Type}[BEq α][LawfulBEq α]{a b:α},(a==b)=true↔a=b)/\(∀{α:Type}[BEq α][LawfulBEq α]{a b:α},(a != b)=true↔a≠b)/\(∀{α:Type}[BEq α][LawfulBEq α]{a b:α},(a==b)=false↔a≠b)/\∀{α:Type}[BEq α][LawfulBEq α]{a b:α},(a != b)=false↔a=b:=by simp;exact⟨yX,qCq,qAj,bne_eq_false_iff_eq⟩
theorem Z9{p q:Prop}(h:q)(e:p=q:=by conv=>lhs;simp only[qc,Dh,Et,Dj,qd,Du,Ed,Ea,Dn,Ee,Ef,Eb,Ew,Di,Ei,Dp,Dq,Es,Dz,Dx,Dk,Dt,Ej,Fp,Dc,Ec,Dl,Eh,Em,Dw,Eu,Fg,Ep,En,Fe,Fb,Ez,Ey,Eo,Fj,Fh]):p:=e▸h
def Z8(i:Nat)(α:Type)(inv:α->Prop)(st:St->α->St)(μ:α->Nat):Ann:=⟨λid s=>if id=i then some {α:=α,inv:=inv,st:=st s,μ:=μ} else none,λ_ _=>none,λ_ _=>none⟩
abbrev Z0:=Value.slice none 0 0
abbrev V6:=(0:Int)
end Go.Eng
namespace Go.Eng
open Go.RowKit
structure How where
 mb:Tmp->Bool:=λ_=>false
 rng:Bool:=false
 own:Bool:=false
 rcv:Bool:=false
 pre:Nat->St->Option St:=λ_ _=>none
def XQ:AV->AV->Bool|.buf a n,.buf b k=>a==b&&n==k|a,b=>AV.same a b
def aAT:Blk->Blk->Bool|.buf _ t xs [],.buf _ t' ys []=>if h:t'=t then(Ty.sl t).eqb xs (h▸ys)else false|.var cs,.var ds=>cs.length==ds.length&&(cs.zip ds).all λp=>XQ p.1 p.2|_,_=>false
def ends(own:Bool)(m:Mem)(s:St)(v:AV):lI:=match own,v,m with
 |true,.buf nm n,[]=>match s.mem.lookup nm with
  |some b=>⟨True,.buf nm n,[(nm,aCM s.mem b)]⟩|none=>⟨True,v,[]⟩
 |_,_,_=>⟨True,aFk s.mem ((s.mem.map (·.1)).filter λk=>!(m.any λp=>p.1==k)) v,m.filterMap λp=>match s.mem.lookup p.1 with|some b=>if aAT p.2 b=true then none else some (p.1,b)|none=>none⟩
def aAk:Exit->Bool|.normal=>true|.ret=>true|_=>false
def leave(P:Program)(rng own:Bool)(fn:Func)(m:Mem)(s:St):Option lI:=match sweep rng s with
 |some s1=>match aCh P s1 fn.results.toList with
  |some (ns,v)=>match Ov {s1 with tm:=[v]} (Xx (ends own m s1 v).ret m (ends own m s1 v).upd)with
   |some ms=>if(m.isEmpty||(((ends own m s1 v).upd.all λp=>m.any λq=>q.1==p.1)&&(fA m&&fA (ends own m s1 v).upd&&(ends own m s1 v).ret.simple)))=true/\Jr (sj m (ends own m s1 v).upd)=true/\Jr ns=true/\Jr ms=true then some (ends own m s1 v)else none|none=>none
  |none=>none
 |none=>none
def Jf(c:Cfg)(h:How)(f:FuncId)(args:List AV)(m:Mem):Option lI:=match c.P.funcs[f]? with
 |some fn=>match fn.body with
  |some b=>match run c (PD h.pre) 1000 b (fz fn args m)with
   |some (e,s)=>if aAk e=true then leave c.P c.rng h.own fn m s else none|none=>none
  |none=>none
 |none=>none
def aE6:Kt:=λ_ _ _=>none
def aEW(c:Cfg)(h:How)(f:FuncId)(args:List AV):Option lI:=match Ls c.P f with
 |some g=>match run c.norng (PD h.pre) 1000 g.pre (fz g.fn args [])with
  |some (.normal,s)=>match run c (PD h.pre) 1000 g.rest (OE c.G g.t g.cf g.caps s)with
   |some (e,s2)=>match sweep c.rng s2 with
    |some s3=>match run (c.bare aE6) (PD h.pre) 1000 g.crest (TL g.fc g.t3 g.t2 (.val .nilIface) s3)with
     |some (e4,s4)=>if(aAk e&&aAk e4&&c.rng&&goes c.P g.cf&&nG (some g.t) s.tm.length&&nG (some g.t3) (s3.sv.length+(g.fc.ntmps-s3.sv.length))&&nG (some g.t2) (s3.sv.length+(g.fc.ntmps-s3.sv.length)))=true then leave c.P false false g.fn [] (ui s4)else none|none=>none
    |none=>none
   |none=>none
  |_=>none
 |none=>none
theorem all_in:∀{l:List Ob}{q:Prop},(∀p∈l,p)->q->all l q|[],_,_,h=>h|_::_,_,h,g=>⟨h _ (.head _),all_in (λp f=>h p (.tail _ f)) g⟩
variable {P:Program}
theorem LM{rng own:Bool}{fn:Func}{m:Mem}{s:St}{r:lI}(h:leave P rng own fn m s=some r):
  Pv P rng fn m r s/\(m.isEmpty||((r.upd.all λp=>m.any λq=>q.1==p.1)&&(fA m&&fA r.upd&&r.ret.simple)))=true/\∀p∈sj m r.upd,p:=by
 unfold leave at h;split at h;case h_2=>cases h
 rename_i u f;split at h;case h_2=>cases h
 rename_i ns v G;split at h;case h_2=>cases h
 rename_i ms j;split at h;case isFalse=>cases h
 rename_i L;obtain⟨A,k2,z,y⟩:=L;cases h;refine⟨?_,A,jR k2⟩;unfold Pv;rw[f];show(match aCh P u fn.results.toList with|some (ns,v)=>_|none=>False);rw[G];show(match Ov {u with tm:=[v]} _ with|some ms=>_|none=>False);rw[j];exact all_in (jR z) (all_in (jR y) trivial)
variable {c:Cfg}
theorem M6{pre:Nat->St->Option St}{b:Code}{s:St}{e:Exit}{s':St}(h:run c (PD pre) 1000 b s=some (e,s')){Q:Exit->St->Prop}(f:Q e s'):ev c (PD pre) b s Q:=by
 show(match run c (PD pre) 1000 b s with|some (e,s')=>Q e s'|none=>False);rw[h];exact f
variable {args:List AV}{f:FuncId}
theorem fT{h:How}{m:Mem}{r:lI}(X:ay c.P c.G c.K)(hI:aR c.P c.G c.KI)(hm:c.P.follows .mixedOrders=true)(y:bG c.P c.G c.KP)(j:Jf c h f args m=some r):aj c.P c.G f args m r:=by
 unfold Jf at j;split at j;case h_2=>cases j
 rename_i fn z;split at j;case h_2=>cases j
 rename_i b hb;split at j;case h_2=>cases j
 rename_i e s u;split at j;case isFalse=>cases j
 rename_i L;obtain⟨g1,g2,g3⟩:=LM j;refine rS (A:=PD h.pre) X hI hm y ?_;unfold evF;rw[z];show(match fn.body with|some b=>_|none=>False);rw[hb];refine⟨g2,λ_=>all_in g3 (M6 u ?_)⟩;cases e<;>first|exact g1|cases L
theorem fI{h:How}{r:lI}(hK:ay c.P c.G c.K)(hI:aR c.P c.G c.KI)(hm:c.P.follows .mixedOrders=true)(u:bG c.P c.G c.KP)(j:aEW c h f args=some r):aj c.P c.G f args [] r:=by
 unfold aEW at j;split at j;case h_2=>cases j
 rename_i g hg;split at j;case h_2=>cases j
 rename_i s h1;split at j;case h_2=>cases j
 rename_i e z h2;split at j;case h_2=>cases j
 rename_i s3 h3;split at j;case h_2=>cases j
 rename_i e4 s4 h4;split at j;case isFalse=>cases j
 rename_i y;simp only[qE]at y;obtain⟨⟨⟨⟨⟨⟨k1,k2⟩,k3⟩,k4⟩,k5⟩,X⟩,L⟩:=y;obtain⟨g1,_⟩:=LM j;refine rQ (A:=PD h.pre) (A0:=PD h.pre) (Ac:=PD h.pre) (Kz:=aE6) (λ_ _ _ _ h=>by cases h) hK hI hm u ?_;unfold evR;rw[hg];refine⟨⟨k3,k4⟩,λ_=>M6 h1 ⟨k5,M6 h2 ?_⟩⟩;have key:uk c z (A8 (c.bare aE6) (PD h.pre) g.fn g.fc g.crest g.t3 g.t2 r (.val .nilIface)):=by
  unfold uk;rw[h3];refine⟨X,L,M6 h4 ?_⟩;cases e4<;>first|exact g1|cases k2
 cases e<;>first|exact key|cases k1
def aBo(cn:List AV)(a:AV):AV:=match cn.find? (AV.same a)with|some b=>b|none=>a
theorem aAP(cn:List AV)(a:AV):aBo cn a=a:=by
 unfold aBo;split;rename_i b h;exact(AV.same_eq (qBc h)).symm;rfl
def Kc(c:Cfg)(cn:List AV)(how:FuncId->List AV->Option How):Nat->Kt
 |0=>c.K|d+1=>λf args m=>match c.K f (args.map (aBo cn)) m with
  |some r=>some r|none=>match how f args with
   |some h=>if h.rcv then(match m with|[]=>aEW {c with K:=Kc c cn how d,mb:=h.mb,rng:=true} h f (args.map (aBo cn))|_=>none)
    else Jf {c with K:=Kc c cn how d,mb:=h.mb,rng:=h.rng} h f (args.map (aBo cn)) m
   |none=>none
variable {how:FuncId->List AV->Option How}
theorem aA5{cn:List AV}(u:ay c.P c.G c.K)(y:aR c.P c.G c.KI)(hm:c.P.follows .mixedOrders=true)(j:bG c.P c.G c.KP):∀d,ay c.P c.G (Kc c cn how d)
 |0=>u|d+1=>λf args m r h=>by
  have e:args.map (aBo cn)=args:=(zY λa _=>aAP cn a).trans (List.map_id _);unfold Kc at h;rw[e]at h;split at h;rename_i r' z;cases h;exact u f args m _ z;split at h;rename_i hw _;split at h;split at h;exact fI (c:={c with K:=Kc c cn how d,mb:=hw.mb,rng:=true}) (aA5 u y hm j d) y hm j h;cases h;exact fT (c:={c with K:=Kc c cn how d,mb:=hw.mb,rng:=hw.rng}) (aA5 u y hm j d) y hm j h;cases h
def aFg(K K':Kt):Kt:=λf args m=>match K f args m with|some r=>some r|none=>K' f args m
variable {G:List (Nat×AV)}
theorem aAg{K j:Kt}(h:ay P G K)(y:ay P G j):ay P G (aFg K j):=λf args m r e=>by
 unfold aFg at e;split at e;rename_i u;cases e;exact h f args m _ u;exact y f args m r e
def knK(l:List (FuncId×List AV×AV))(K:Kt):Kt:=λf args m=>match m,l.find? λq=>q.1==f&&AV.sameL args q.2.1 with|[],some q=>some ⟨True,q.2.2,[]⟩|_,_=>K f args m
def knP(P:Program)(G:List (Nat×AV))(l:List (FuncId×List AV×AV)):Prop:=∀q∈l,aj P G q.1 q.2.1 [] ⟨True,q.2.2,[]⟩
variable {l:List (FuncId×List AV×AV)}
theorem YJ{K:Kt}(y:knP P G l)(z:ay P G K):ay P G (knK l K):=by
 intro f args m r h;unfold knK at h;split at h;rename_i q u;cases h;have j:=qBc u;simp only[qE,yX]at j;rw[<- j.1,AV.sameL_eq j.2];exact y q (List.mem_of_find?_eq_some u);exact z f args _ r h
theorem aAd:knP P G []:=λ_ h=>by cases h
theorem pY{r:AV}(h:aj P G f args [] ⟨True,r,[]⟩)(u:knP P G l):knP P G ((f,args,r)::l):=λq j=>by
 rcases zK.1 j with rfl|g;exact h;exact u q g
def answers(c:Cfg)(cn:List AV)(how:FuncId->List AV->Option How)(f:FuncId)(args:List AV)(ret:AV):Bool:=match Kc c cn how 20 f args []with|some r=>r.pre.b&&AV.same r.ret ret&&r.upd.isEmpty|none=>false
theorem Bi{cn:List AV}{ret:AV}(z:ay c.P c.G c.K)(A:aR c.P c.G c.KI)(hm:c.P.follows .mixedOrders=true)(j:c.KP=λ_ _ _=>none)(h:answers c cn how f args ret=true):
  aj c.P c.G f args [] ⟨True,ret,[]⟩:=by
 unfold answers at h;split at h;rename_i r y;simp only[qE,zD]at h;obtain⟨⟨h1,X⟩,L⟩:=h;have g:=aA5 (cn:=cn) (how:=how) z A hm (λ_ _ _ _ h=>by rw[j]at h;cases h) 20 f args [] r y;obtain⟨p,v,u⟩:=r;obtain rfl:u=[]:=L;obtain rfl:=AV.same_eq X;exact λ_=>g (p.h h1);cases h
end Go.Eng
