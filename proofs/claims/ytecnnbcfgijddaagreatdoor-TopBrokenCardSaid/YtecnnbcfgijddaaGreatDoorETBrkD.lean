/- H9 -/
import Derived.Test.YtecnnbcfgijddaaGreatDoorETBrkC
import Derived.Sort.LoopGhostIn
import Derived.RangeFuncLeaves
import Derived.RangeFuncSeq
import Derived.OrdersIn
import Derived.RangeFuncCalls
import Derived.RangeFuncFrom
set_option linter.unusedSimpArgs false
set_option linter.unusedVariables false
namespace Go.Eng
open Go.RowKit
abbrev Mem:=List (Nat×Blk)
structure lI where
 pre:Ob
 ret:AV
 upd:Mem:=[]
abbrev Kt:=FuncId->List AV->Mem->Option lI
def noM:Nat->Option Blk:=λ_=>none
def noE:Nat->Ent:=λ_=>⟨0,0,true,noR⟩
def bH(m:Mem):Nat->Option Blk:=λnm=>m.lookup nm
structure Held(P:Program)(w:World)(D:Nat->Prop)(m:Nat->Option Blk)(E:Nat->Ent):Prop where
 bl:∀nm b,m nm=some b->dQ P 0 ⟨w,D,m,E⟩ (E nm) b
 own:∀nm b,m nm=some b->(E nm).isNil=false->(E nm).b<w.heap.size/\¬D (E nm).b
 inj:∀nm nm' b b',m nm=some b->m nm'=some b'->(E nm).isNil=false->(E nm').isNil=false->(E nm).b=(E nm').b->nm=nm'
 pv:fu 0 (λ_=>True) m E w.heap.size D
theorem fu.nil{lo n:Nat}{O D:Nat->Prop}{m:Nat->Option Blk}{E:Nat->Ent}(h:∀nm i b,cC m E nm i b->False):fu lo O m E n D:=
 ⟨λnm i b g=>(h nm i b g).elim,λnm i b g=>(h nm i b g).elim,λnm i b _ _ g=>(h nm i b g).elim⟩
variable {E:Nat->Ent}
theorem iU{nm i b:Nat}(h:cC (λ_=>none) E nm i b):False:=by
 obtain⟨_,_,_,_,_,_,h,_⟩:=h;cases h
theorem Held.none(P:Program)(w:World)(D:Nat->Prop)(E:Nat->Ent):Held P w D (bH []) E:=
 ⟨λ_ _ h=>(by cases h),λ_ _ h=>(by cases h),λ_ _ _ _ h=>(by cases h),fu.nil λ_ _ _ h=>iU h⟩
def bD(m:Nat->Option Blk)(E:Nat->Ent):Nat->Prop:=λb=>∃nm blk,m nm=some blk/\(E nm).isNil=false/\b=(E nm).b
structure Left(P:Program)(m:Nat->Option Blk)(upd:Mem)(w:World)(D:Nat->Prop)(E:Nat->Ent)(w':World)(D':Nat->Prop)(E':Nat->Ent):Prop where
 chg:Chg (bD m E) w w'
 dlo:∀b,D b->D' b
 dhi:∀b,D' b->D b\/w.heap.size<=b\/bD m E b
 dlt:∀b,D' b->b<w'.heap.size
 held:Held P w' D' (upM m upd) E'
 agree:∀nm b b',m nm=some b->upM m upd nm=some b'->b'.len=b.len->E' nm=E nm
 moved:∀nm b b',m nm=some b->upM m upd nm=some b'->(E' nm).isNil=false->bD m E (E' nm).b\/w.heap.size<=(E' nm).b
 fresh:∀nm b,m nm=none->upM m upd nm=some b->(E' nm).isNil=false->w.heap.size<=(E' nm).b
 priv:∀nm i b,cC (upM m upd) E' nm i b->cC m E nm i b\/w.heap.size<=b
def aj(P:Program)(G:List (Nat×AV))(f:FuncId)(args:List AV)(m:Mem)(c:lI):Prop:=
 c.pre->∀(w:World) (D:Nat->Prop) (E:Nat->Ent) (us:Lv),(∀b,D b->b<w.heap.size)->jG P ⟨w,D,bH m,E⟩ G->AV.relL P ⟨w,D,bH m,E⟩ args us->Held P w D (bH m) E->
  Calls P f us.toArray w λe w'=>∃v D' E',e=.returned v/\Left P (bH m) c.upd w D E w' D' E'/\c.ret.rel P ⟨w',D',upM (bH m) c.upd,E'⟩ v
def ay(P:Program)(G:List (Nat×AV))(K:Kt):Prop:=∀f args m c,K f args m=some c->aj P G f args m c
structure DR where
 pre:Prop
 ok:Bool
 pan:Value
abbrev KPt:=FuncId->List AV->Mem->Option DR
def chainOf(v:Value):List PanicEntry:=[{v:=v,recovered:=false}]
def fq(P:Program)(G:List (Nat×AV))(f:FuncId)(args:List AV)(m:Mem)(r:DR):Prop:=
 r.pre->r.ok=false->∀(w:World) (D:Nat->Prop) (E:Nat->Ent) (us:Lv),(∀b,D b->b<w.heap.size)->jG P ⟨w,D,bH m,E⟩ G->AV.relL P ⟨w,D,bH m,E⟩ args us->Held P w D (bH m) E->
  Calls P f us.toArray w λe w'=>e=.panicked (chainOf r.pan)/\Chg (bD (bH m) E) w w'
def bG(P:Program)(G:List (Nat×AV))(KP:KPt):Prop:=∀f args m r,KP f args m=some r->fq P G f args m r
def Wu(P:Program)(t:TypeId)(a:AV):AV:=match a with
 |.val (.slice none 0 0)=>match PZ P t with
  |some (.sl e)=>.dat (.sl e) []|_=>a
 |.agg cs=>match PZ P t with
  |some ty=>match cV ty cs with
   |some (x,[])=>.agg (cellsOf ty x)|_=>a
  |none=>a
 |_=>a
def ym(P:Program):List TypeId->List AV->List AV|t::ts,a::qz=>Wu P t a::ym P ts qz|_,qz=>qz
variable {C:Ctx}{P:Program}{v:Value}
theorem Rw{t:TypeId}{a:AV}(h:a.rel P C v):(Wu P t a).rel P C v:=by
 unfold Wu;split;split;simp only[AV.rel]at h;subst h;exact bf _ _ _;exact h;split;split;rename_i x u;obtain⟨us,e,g⟩:=h;obtain⟨j,f,z,y,g2⟩:=cy u g;have g2':f=[]:=g2;subst g2' z;exact⟨j++[],e,by rw[wH];exact b8 y⟩;exact h;exact h;exact h
theorem uZ:∀{ts:List TypeId}{qz:List AV}{us:Lv},AV.relL P C qz us->AV.relL P C (ym P ts qz) us
 |[],_,_,h=>h|_::_,[],_,h=>h|t::ts,a::qz,us,h=>by
  obtain⟨u,f,e,j,g2⟩:=h;exact⟨u,f,e,Rw j,uZ g2⟩
def lk(P:Program)(f:FuncId):List TypeId:=match P.funcs[f]? with|some fn=>fn.params.toList|none=>[]
def aCE:AV->Bool|.val (.slice none 0 0)=>true|_=>false
def gq(P:Program)(K:Kt)(f:FuncId)(args caps:List AV):List AV:=
 if(args.any aCE&&(K f (args++caps) []).isSome)=true then args else ym P (lk P f) args
variable {f:FuncId}{qz:List AV}{caps:List AV}{us:Lv}{K:Kt}
theorem Ru(h:AV.relL P C qz us):AV.relL P C (gq P K f qz caps) us:=by
 unfold gq;split;exact h;exact uZ h
def nameless(a:AV):Bool:=a.names.isEmpty
def dV(m:Nat->Option Blk):List Nat->Mem
 |[]=>[]|nm::r=>match m nm with
  |some b=>(nm,b)::dV m r|none=>dV m r
theorem dU(m:Nat->Option Blk)(k:Nat):∀l:List Nat,(dV m l).lookup k=if k∈l then m k else none
 |[]=>rfl|nm::r=>by
  simp only[dV];split;rename_i b hb;simp only[List.lookup];by_cases e:k=nm;subst e;simp[hb];have:(k==nm)=false:=by simpa using e
  simp only[this,dU m k r,zK,e,false_or];rename_i hb;rw[dU m k r];by_cases e:k=nm;subst e;simp[hb];simp[e]
def mr(ns:List Nat)(b:Blk):Bool:=b.names.all λk=>ns.contains k
def OD(n:Nat)(b:Blk):Prop:=match b with|.buf _ _ _ _=>Dz n b.len|_=>n=b.len
instance (n:Nat) (b:Blk):Decidable (OD n b):=by
 unfold OD;split<;>infer_instance
theorem MS{n:Nat}{b:Blk}(h:OD n b):n<=b.len:=by
 unfold OD at h;split at h;exact h;exact yK h
abbrev grow(b0 b:Blk):Prop:=OD b0.len b
theorem aAr{b0 b:Blk}(h:grow b0 b):b0.len<=b.len:=MS h
def UQ(m:Nat->Option Blk)(ns:List Nat):Mem->Option (List Ob)
 |[]=>some []|(k,b)::r=>match m k,UQ m ns r with
  |some b0,some q=>if ns.contains k&&mr ns b&&decide (b0.es=b.es)then some (grow b0 b::q)else none|_,_=>none
def SU:Mem->Mem->Option (Nat×Blk)|[],[(k,b)]=>if b.names.isEmpty then some (k,b)else none|_,_=>none
def cN(m:Nat->Option Blk)(l:List Nat):List Nat:=l++l.flatMap λk=>match m k with|some b=>b.names|none=>[]
variable {k:Nat}{l:List Nat}{m:Nat->Option Blk}
theorem eJ(h:k∈l):k∈cN m l:=qI.2 (.inl h)
theorem qp(h:k∈cN m l):k∈l\/∃j∈l,∃b,m j=some b/\k∈b.names:=by
 rcases qI.1 h with h|h;exact .inl h;obtain⟨j,u,f⟩:=xA.1 h;split at f;rename_i b hb;exact .inr ⟨j,u,b,hb,f⟩;cases f
theorem tZ{j k:Nat}{b:Blk}(h:j∈l)(hb:m j=some b)(f:k∈b.names):k∈cN m l:=
 qI.2 (.inr (xA.2 ⟨j,h,by rw[hb];exact f⟩))
theorem qo{l u:List Nat}(h:∀k∈l,k∈u)(y:k∈cN m l):k∈cN m u:=by
 rcases qp y with g|⟨j,z,b,hb,f⟩;exact eJ (h k g);exact tZ (h j z) hb f
theorem xo{m m':Nat->Option Blk}(h:∀k∈l,m' k=m k):cN m' l=cN m l:=by
 unfold cN;congr 1;simp only[List.flatMap_def];congr 1;exact zY λk f=>by rw[h k f]
def yz(P:Program)(K:Kt)(nx:Nat)(m:Nat->Option Blk)(callee:AV)(args:List AV):Option Core:=
 match callee,args with
 |.fn f caps,args=>if goes P f then
   if(cN m (AV.namesL (gq P K f args caps++caps))).all (λk=>match m k with|some b=>mr (cN m (AV.namesL (gq P K f args caps++caps))) b|none=>true)then
   match K f (gq P K f args caps++caps) (dV m (cN m (AV.namesL (gq P K f args caps++caps))))with
   |some c=>match SU (dV m (cN m (AV.namesL (gq P K f args caps++caps)))) c.upd with
    |some (k0,b0)=>if c.ret.names.all (λk=>k==k0)then some {need:=[c.pre],val:=gM nx c.ret,upd:=[(nx,b0)],new:=some nx} else none|none=>match UQ m (cN m (AV.namesL (gq P K f args caps++caps))) c.upd with
     |some q=>if c.ret.names.all (λk=>(cN m (AV.namesL (gq P K f args caps++caps))).contains k)then some {need:=c.pre::q,val:=c.ret,upd:=c.upd} else none|none=>none
   |none=>none
   else none
  else none
 |.clo1 a r pre g,[x]=>match x.qz a with
  |some x=>some {need:=[pre x],val:=.dat r (g x)}|none=>none
 |.clo2 a b r pre g,[x,y]=>match x.qz a,y.qz b with
  |some x,some y=>some {need:=[pre x y],val:=.dat r (g x y)}|_,_=>none
 |_,_=>none
theorem mF{P : Program}{f : FuncId}(h : goes P f = true)(w : World)(args : Array Value):(callFunc f args).run P w = .ok (.enter f args) w := by
  unfold goes at h;split at h
  · rename_i fn hf
    simp only [qE,qCq,ne_eq] at h;have h1 : fn.body.isNone = false := by cases hb : fn.body <;> simp_all
    have h2 : (fn.name == "runtime.NumGoroutine") = false := by simpa using h.2
    simp only [callFunc,wO,run_program,wB,hf,h2,h1];rfl
  · cases h
theorem sf{C C':Ctx}{a:AV}(j:nameless a=true)(L:Later C C')(h:a.rel P C v):a.rel P C' v:=
 AV.rel_mono L (λnm f=>by
  unfold nameless at j;rw[zD]at j;rw[j]at f;cases f) h
theorem dI(m:Nat->Option Blk)(u:Mem)(k:Nat):upM m u k=match u.lookup k with|some b=>some b|none=>m k:=rfl
variable {ns:List Nat}
theorem q8:∀{u:Mem}{q:List Ob},UQ m ns u=some q->(∀p∈q,p)->∀(k:Nat) (b:Blk),u.lookup k=some b->
  ∃b0,m k=some b0/\k∈ns/\b0.es=b.es/\b0.len<=b.len/\∀x∈b.names,x∈ns
 |[],_,_,_,k,b,f=>by simp at f|(k',L)::r,q,h,j,k,b,f=>by
  simp only[UQ]at h;split at h;case h_2=>cases h
  rename_i b0 G hm z;split at h;case isFalse=>cases h
  rename_i hc;cases h;simp only[qE,qF]at hc;simp only[List.lookup]at f;split at f;rename_i e;cases f;have e:k=k':=by simpa using e
  subst e;refine⟨b0,hm,by simpa using hc.1.1,hc.2,aAr (Ob.get j (by simp)),λx y=>?_⟩;have:=hc.1.2;unfold mr at this;rw[qW]at this;simpa using this x y;exact q8 z (λp A=>j p (by simp[A])) k b f
theorem aL.called{S:Base}{σ:Sig}{a:Act}{w w':World}{D D':Nat->Prop}{E E':Nat->Ent}(h:aL S σ a w D E){ns:List Nat}{upd:Mem}{q:List Ob}
  (hns:∀k∈ns,∀b,σ.m k=some b->∀x∈b.names,x∈ns) (hu:UQ σ.m ns upd=some q) (hq:∀p∈q,p) (hl:Left S.P (bH (dV σ.m ns)) upd w D E w' D' E'):
  aL S ⟨σ.T,upM σ.m upd,σ.sv⟩ a w' D' (λk=>if k∈ns then E' k else E k)/\Later ⟨w,D,σ.m,E⟩ ⟨w',D',upM σ.m upd,λk=>if k∈ns then E' k else E k⟩:=by
 obtain⟨E2,hE2⟩:∃E2:Nat->Ent,E2=λk=>if k∈ns then E' k else E k:=⟨_,rfl⟩;have e2i:∀k,k∈ns->E2 k=E' k:=λk hk=>by rw[hE2];exact if_pos hk
 have e2o:∀k,k∉ns->E2 k=E k:=λk hk=>by rw[hE2];exact if_neg hk
 rw[<- hE2];have mem:∀k,bH (dV σ.m ns) k=if k∈ns then σ.m k else none:=λk=>dU σ.m k ns;have up:∀k b,upM σ.m upd k=some b->(∃b0,σ.m k=some b0/\b0.es=b.es/\b0.len<=b.len):=λk b hk=>by
  rw[dI]at hk;split at hk;rename_i b1 h1;cases hk;obtain⟨b0,A,_,g2,g3,_⟩:=q8 hu hq k _ h1;exact⟨b0,A,g2,g3⟩;exact⟨b,hk,rfl,qL _⟩
 have same:∀k,k∈ns->upM (bH (dV σ.m ns)) upd k=upM σ.m upd k:=λk hk=>by
  rw[dI,dI];split;rfl;rw[mem,if_pos hk]
 have names:∀k b,k∈ns->upM σ.m upd k=some b->∀x∈b.names,x∈ns:=λk b hk hb=>by
  rw[dI]at hb;split at hb;rename_i b1 h1;cases hb;obtain⟨_,_,_,_,_,g⟩:=q8 hu hq k _ h1;exact g;exact hns k hk b hb
 have keep:∀k,k<w.heap.size->¬bD (bH (dV σ.m ns)) E k->w'.heap[k]?=w.heap[k]?:=λk hk hno=>hl.chg.block k hk hno;have blk:∀k,bD (bH (dV σ.m ns)) E k->∃nm b,σ.m nm=some b/\nm∈ns/\(E nm).isNil=false/\k=(E nm).b:=by
  rintro k ⟨nm,b,A,g2,g3⟩;rw[mem]at A;split at A;rename_i z;exact⟨nm,b,A,z,g2,g3⟩;cases A
 have L:Later ⟨w,D,σ.m,E⟩ ⟨w',D',upM σ.m upd,E2⟩:=⟨hl.dlo,λb hb=>keep b (h.dlt b hb) λhx=>by
  obtain⟨nm,bb,A,_,g2,g3⟩:=blk b hx;exact(h.own nm bb A g2).2.2 (g3▸hb)⟩
 have rowKeep:∀nm b i k,σ.m nm=some b->rowsOf (E nm) b i k->w'.heap[k]?=w.heap[k]?:=λnm b i k hm hr=>keep k (h.pv.lt hm hr) λhx=>by
  obtain⟨u,b2,A,_,g3,g4⟩:=blk _ hx;exact h.pv.ent nm i k (aK.2 ⟨b,hm,hr⟩) u b2 A g3 g4.symm
 have hml:∀nm b,nm∈ns->σ.m nm=some b->bH (dV σ.m ns) nm=some b:=λnm b z hb=>by rw[mem,if_pos z];exact hb
 have mov:∀nm b,nm∈ns->upM σ.m upd nm=some b->(E' nm).isNil=false->(∃u b2,σ.m u=some b2/\u∈ns/\(E u).isNil=false/\(E' nm).b=(E u).b)\/w.heap.size<=(E' nm).b:=λnm b z hb hi=>by
  obtain⟨b0,g0,_⟩:=up nm b hb;rcases hl.moved nm b0 b (hml nm b0 z g0) (by rw[same nm z];exact hb) hi with g|g;exact .inl (blk _ g);exact .inr g
 have prv:∀nm i k,cC (upM σ.m upd) E2 nm i k->cC σ.m E nm i k\/(nm∈ns/\w.heap.size<=k/\cC (upM (bH (dV σ.m ns)) upd) E' nm i k):=λnm i k hk=>by
  obtain⟨bb,A,g2⟩:=aK.1 hk;by_cases z:nm∈ns;rw[e2i nm z]at g2;have hp:cC (upM (bH (dV σ.m ns)) upd) E' nm i k:=aK.2 ⟨bb,by rw[same nm z];exact A,g2⟩;rcases hl.priv nm i k hp with g|g;left;obtain⟨b2,q1,q2⟩:=aK.1 g;rw[mem,if_pos z]at q1;exact aK.2 ⟨b2,q1,q2⟩;exact .inr ⟨z,g,hp⟩;rw[e2o nm z]at g2;left;have hlk:upd.lookup nm=none:=by
   cases hx:upd.lookup nm with
   |none=>rfl|some b1=>
    obtain⟨_,_,g,_⟩:=q8 hu hq nm b1 hx;exact(z g).elim
  rw[dI,hlk]at A;exact aK.2 ⟨bb,A,g2⟩
 have pvNew:fu S.w0.heap.size S.O (upM σ.m upd) E2 w'.heap.size D':=by
  refine⟨λnm i k hk=>?_,λnm i k hk f b' X hi e=>?_,λnm i k f j h1 h2=>?_⟩;rcases prv nm i k hk with g|⟨_,A,g2⟩;obtain⟨q1,q2,q3⟩:=h.pv.own nm i k g;refine⟨q1,qK q2 hl.chg.size,λhd=>?_⟩;rcases hl.dhi _ hd with r|r|r;exact q3 r;omega;obtain⟨u,b2,r1,_,r3,r4⟩:=blk _ r;exact h.pv.ent nm i k g u b2 r1 r3 r4.symm;obtain⟨_,q2,q3⟩:=hl.held.pv.own nm i k g2;exact⟨.inl (vP h.low.size A),q2,q3⟩;obtain⟨b0,g0,_⟩:=up f b' X;by_cases G:f∈ns;rw[e2i f G]at hi e;rcases prv nm i k hk with g|⟨_,A,g2⟩;rcases mov f b' G X hi with⟨u,b2,q1,_,q3,q4⟩|q;exact h.pv.ent nm i k g u b2 q1 q3 (q4.symm.trans e);have:=(h.pv.own nm i k g).2.1;omega;exact hl.held.pv.ent nm i k g2 f b' (by rw[same f G];exact X) hi e;rw[e2o f G]at hi e;have hlt:=(h.own f b0 g0 hi).2.1;rcases prv nm i k hk with g|⟨_,A,_⟩;exact h.pv.ent nm i k g f b0 g0 hi e;omega;rcases prv nm i k h1 with g|⟨_,A,g2⟩<;>rcases prv f j k h2 with q|⟨_,q1,q2⟩
  exact h.pv.inj nm i k f j g q;have:=(h.pv.own nm i k g).2.1;omega;have:=(h.pv.own f j k q).2.1;omega;exact hl.held.pv.inj nm i k f j g2 q2
 refine⟨h.go (m':=upM σ.m upd) L (λk=>.inl λb' X=>?_) (λnm b hm=>?_) (λnm b hm hi=>?_) (λnm f b b' hb X hi hi' e=>?_)
  (h.low.step hl.chg.os hl.chg.tape hl.chg.output hl.chg.size λk hk hno=>keep k (qK hk h.low.size) λhx=>?_) hl.dlt (λb hb=>?_) pvNew,L⟩
 obtain⟨b0,A,g2,g3⟩:=up k b' X;refine⟨b0,A,g2,g3,λhe=>?_⟩;show E2 k=E k;by_cases z:k∈ns;rw[e2i k z];exact hl.agree k b0 b' (hml k b0 z A) (by rw[same k z];exact X) he.symm;exact e2o k z;by_cases z:nm∈ns;right;have:=hl.held.bl nm b (by rw[same nm z];exact hm);rw[e2i nm z];refine dQ.mono (C:=⟨w',D',upM (bH (dV σ.m ns)) upd,E'⟩) (C':=⟨w',D',upM σ.m upd,E2⟩) ⟨λ_ g=>g,λ_ _=>rfl⟩ (λx hx b' X=>?_) (λ_=>rfl) (λ_ _ _=>rfl) this;exact⟨b',(by show upM (bH (dV σ.m ns)) upd x=some b';rw[same x (names nm b z hm x hx)];exact X),rfl,qL _,λ_=>e2i x (names nm b z hm x hx)⟩;left;have hlk:upd.lookup nm=none:=by
  cases hx:upd.lookup nm with
  |none=>rfl|some b1=>
   obtain⟨_,_,g,_⟩:=q8 hu hq nm b1 hx;exact(z g).elim
 have hm2:σ.m nm=some b:=by rw[dI,hlk]at hm;exact hm
 refine⟨hm2,e2o nm z,λhi=>keep _ (h.own nm b hm2 hi).2.1 λhx=>?_,λi k hr=>rowKeep nm b i k hm2 hr⟩;obtain⟨u,b2,A,g2,g3,g4⟩:=blk _ hx;have:=h.inj nm u b b2 hm2 A hi g3 g4;subst this;exact z g2;obtain⟨b0,A,_⟩:=up nm b hm;by_cases z:nm∈ns;rw[e2i nm z]at hi ⊢;obtain⟨q1,q2⟩:=hl.held.own nm b (by rw[same nm z];exact hm) hi;refine⟨?_,q1,q2⟩;rcases mov nm b z hm hi with⟨u,b2,r1,_,r3,r4⟩|r;rw[r4];exact(h.own u b2 r1 r3).1;exact .inl (vP h.low.size r);rw[e2o nm z]at hi ⊢;obtain⟨g2,g3,g4⟩:=h.own nm b0 A hi;refine⟨g2,qK g3 hl.chg.size,λhd=>?_⟩;rcases hl.dhi _ hd with g|g|g;exact g4 g;exact xP _ (qK g3 g);obtain⟨u,b2,r1,r2,r3,r4⟩:=blk _ g;have:=h.inj nm u b0 b2 A r1 hi r3 r4;subst this;exact z r2;obtain⟨b0,A,_⟩:=up nm b hb;obtain⟨b1,g2,_⟩:=up f b' X;have mix:∀x y bx b1,x∈ns->y∉ns->upM σ.m upd x=some bx->σ.m y=some b1->(E' x).isNil=false->(E y).isNil=false->(E' x).b=(E y).b->False:=λx y bx b1 hx hy hbx hy1 hix hiy e=>by
  rcases mov x bx hx hbx hix with⟨u,b2,r1,r2,r3,r4⟩|r;have:=h.inj u y b2 b1 r1 hy1 r3 hiy (r4.symm.trans e);subst this;exact hy r2;have:=(h.own y b1 hy1 hiy).2.1;omega
 by_cases z:nm∈ns<;>by_cases G:f∈ns;rw[e2i nm z]at hi e;rw[e2i f G]at hi' e;exact hl.held.inj nm f b b' (by rw[same nm z];exact hb) (by rw[same f G];exact X) hi hi' e;rw[e2i nm z]at hi e;rw[e2o f G]at hi' e;exact(mix nm f b b1 z G hb g2 hi hi' e).elim;rw[e2o nm z]at hi e;rw[e2i f G]at hi' e;exact(mix f nm b' b0 G z X A hi' hi e.symm).elim;rw[e2o nm z]at hi e;rw[e2o f G]at hi' e;exact h.inj nm f b0 b1 A g2 hi hi' e;obtain⟨nm,bb,A,_,g2,g3⟩:=blk k hx;rcases(h.own nm bb A g2).1 with g|g;rw[<- g3]at g;omega;exact hno (g3▸g);rcases hl.dhi b hb with g|g|g;exact .inl g;exact .inr (.inl (vP h.low.size g));obtain⟨u,b2,r1,_,r3,r4⟩:=blk _ g;rw[r4];exact .inr ((h.own u b2 r1 r3).1)
theorem aL.calledNew{S:Base}{σ:Sig}{a:Act}{w w':World}{D D':Nat->Prop}{E E':Nat->Ent}(h:aL S σ a w D E){nx y:Nat}{b0:Blk}(hu:Unm nx σ)(hb0:b0.names=[])(z:Left S.P (bH []) [(y,b0)] w D E w' D' E'):
  aL S ⟨σ.T,upM σ.m [(nx,b0)],σ.sv⟩ a w' D' (upE E nx (E' y)):=by
 have hk0:upM (bH []) [(y,b0)] y=some b0:=by rw[dR,if_pos rfl]
 have keep:∀k,k<w.heap.size->w'.heap[k]?=w.heap[k]?:=λk u=>z.chg.block k u λ⟨nm,blk,g,_⟩=>(by cases g);have e1:upE E nx (E' y) nx=E' y:=by simp[upE]
 have e2:∀k,k≠nx->upE E nx (E' y) k=E k:=λk u=>by simp[upE,u]
 have m2:∀k b,k≠nx->upM σ.m [(nx,b0)] k=some b->σ.m k=some b:=λk b u hb=>by rw[dR,if_neg u]at hb;exact hb
 have m1:∀b,upM σ.m [(nx,b0)] nx=some b->b=b0:=λb hb=>by rw[dR,if_pos rfl]at hb;exact(wE hb).symm
 have fr:(E' y).isNil=false->w.heap.size<=(E' y).b:=z.fresh y b0 rfl hk0;have prv:∀nm i k,cC (upM σ.m [(nx,b0)]) (upE E nx (E' y)) nm i k->(nm≠nx/\cC σ.m E nm i k)\/(nm=nx/\w.heap.size<=k/\cC (upM (bH []) [(y,b0)]) E' y i k):=λnm i k u=>by
  obtain⟨bb,g1,g2⟩:=aK.1 u;by_cases hn:nm=nx;subst hn;have eb:=m1 bb g1;subst eb;rw[e1]at g2;have hp:cC (upM (bH []) [(y,bb)]) E' y i k:=aK.2 ⟨bb,hk0,g2⟩;rcases z.priv y i k hp with g|g;obtain⟨_,q,_⟩:=aK.1 g;cases q;exact .inr ⟨rfl,g,hp⟩;rw[e2 nm hn]at g2;exact .inl ⟨hn,aK.2 ⟨bb,m2 nm bb hn g1,g2⟩⟩
 have pvNew:fu S.w0.heap.size S.O (upM σ.m [(nx,b0)]) (upE E nx (E' y)) w'.heap.size D':=by
  refine⟨λnm i k u=>?_,λnm i k u f b' X hi e=>?_,λnm i k f j h1 h2=>?_⟩;rcases prv nm i k u with⟨_,g⟩|⟨_,g1,g2⟩;obtain⟨q1,q2,q3⟩:=h.pv.own nm i k g;refine⟨q1,qK q2 z.chg.size,λhd=>?_⟩;rcases z.dhi _ hd with r|r|⟨_,_,r,_⟩;exact q3 r;omega;cases r;obtain⟨_,q2,q3⟩:=z.held.pv.own y i k g2;exact⟨.inl (vP h.low.size g1),q2,q3⟩;by_cases hn:f=nx;subst hn;rw[e1]at hi e;rcases prv nm i k u with⟨_,g⟩|⟨_,g1,g2⟩;have:=(h.pv.own nm i k g).2.1;have:=fr hi;omega;exact z.held.pv.ent y i k g2 y b0 hk0 hi e;have A:=m2 f b' hn X;rw[e2 f hn]at hi e;have hlt:=(h.own f b' A hi).2.1;rcases prv nm i k u with⟨_,g⟩|⟨_,g1,_⟩;exact h.pv.ent nm i k g f b' A hi e;omega;rcases prv nm i k h1 with⟨n1,g⟩|⟨n1,g1,g2⟩<;>rcases prv f j k h2 with⟨n2,q⟩|⟨n2,q1,q2⟩
  exact h.pv.inj nm i k f j g q;have:=(h.pv.own nm i k g).2.1;omega;have:=(h.pv.own f j k q).2.1;omega;exact⟨n1.trans n2.symm,(z.held.pv.inj y i k y j g2 q2).2⟩
 refine h.go (m':=upM σ.m [(nx,b0)]) ⟨z.dlo,λb hb=>keep b (h.dlt b hb)⟩ (λk=>?_) (λnm b hm=>?_) (λnm b hm hi=>?_) (λnm f b b' hb X hi L e=>?_)
  (h.low.step z.chg.os z.chg.tape z.chg.output z.chg.size λk u _=>keep k (qK u h.low.size)) z.dlt (λb hb=>?_) pvNew
 by_cases u:k=nx;subst u;exact .inr hu;exact .inl λb' X=>⟨b',m2 k b' u X,rfl,qL _,λ_=>e2 k u⟩;by_cases u:nm=nx;subst u;right;have eb:=m1 b hm;subst eb;rw[e1];exact dQ.mono (C:=⟨w',D',upM (bH []) [(y,b)],E'⟩) (C':=⟨w',D',upM σ.m [(nm,b)],upE E nm (E' y)⟩) ⟨λ_ g=>g,λ_ _=>rfl⟩ (λx hx=>by rw[hb0]at hx;cases hx) (λ_=>rfl) (λ_ _ _=>rfl) (z.held.bl y b hk0);have A:=m2 nm b u hm;exact .inl ⟨A,e2 nm u,λhi=>keep _ (h.own nm b A hi).2.1,λi k hr=>keep _ (h.pv.lt A hr)⟩;by_cases u:nm=nx;subst u;rw[e1]at hi ⊢;exact⟨.inl (vP h.low.size (fr hi)),z.held.own y b0 hk0 hi⟩;have A:=m2 nm b u hm;rw[e2 nm u]at hi ⊢;obtain⟨g1,g2,g3⟩:=h.own nm b A hi;refine⟨g1,qK g2 z.chg.size,λhd=>?_⟩;rcases z.dhi _ hd with g|g|⟨_,_,g,_⟩;exact g3 g;omega;cases g;by_cases u:nm=nx<;>by_cases G:f=nx;rw[u,G];subst u;rw[e1]at hi e;rw[e2 f G]at L e;have:=(h.own f b' (m2 f b' G X) L).2.1;have:=fr hi;omega;subst G;rw[e1]at L e;rw[e2 nm u]at hi e;have:=(h.own nm b (m2 nm b u hb) hi).2.1;have:=fr L;omega;rw[e2 nm u]at hi e;rw[e2 f G]at L e;exact h.inj nm f b b' (m2 nm b u hb) (m2 f b' G X) hi L e;rcases z.dhi b hb with g|g|⟨_,_,g,_⟩;exact .inl g;exact .inr (.inl (vP h.low.size g));cases g
theorem aL.pureCall{S:Base}{σ:Sig}{a:Act}{w w':World}{D:Nat->Prop}{E:Nat->Ent}(h:aL S σ a w D E)(hw:Below w.heap.size w w'):
  aL S σ a w' (λb=>D b\/gv w w' b) E:=
 h.world hw (λb=>⟨λg=>g.imp id (λg=>⟨g,.inr g⟩),λg=>g.imp id (λg=>g.1)⟩) (λb g=>by
  rcases g with g|g;exact qK (h.dlt b g) hw.size;exact g.2)
theorem aL.heldOf{S:Base}{σ:Sig}{a:Act}{w:World}{D:Nat->Prop}{E:Nat->Ent}(h:aL S σ a w D E)(ns:List Nat):Held S.P w D (bH (dV σ.m ns)) E:=by
 have mem:∀k b,bH (dV σ.m ns) k=some b->σ.m k=some b:=λk b y=>by
  have:=dU σ.m k ns;unfold bH at y;rw[this]at y;split at y;exact y;cases y
 refine⟨λnm b hb=>?_,λnm b hb hi=>(h.own nm b (mem nm b hb) hi).2,λnm f b G hb u=>h.inj nm f b G (mem _ _ hb) (mem _ _ u),?_⟩
 rotate_left
 have z:∀nm i b,cC (bH (dV σ.m ns)) E nm i b->cC σ.m E nm i b:=λnm i b hb=>by
  obtain⟨L,g1,g2⟩:=aK.1 hb;exact aK.2 ⟨L,mem nm L g1,g2⟩
 exact⟨λnm i b hb=>⟨.inr trivial,(h.pv.own nm i b (z _ _ _ hb)).2⟩,λnm i b hb f blk A hi=>h.pv.ent nm i b (z _ _ _ hb) f blk (mem _ _ A) hi,λnm i b f j h1 X=>h.pv.inj nm i b f j (z _ _ _ h1) (z _ _ _ X)⟩;exact dQ.mono (C:=⟨w,D,σ.m,E⟩) (C':=⟨w,D,bH (dV σ.m ns),E⟩) ⟨λ_ g=>g,λ_ _=>rfl⟩ (λx _ G u=>⟨G,mem _ _ u,rfl,qL _,λ_=>rfl⟩) (λ_=>rfl) (λ_ _ _=>rfl) (h.bl nm b (mem nm b hb))
variable {D:Nat->Prop}{w:World}
theorem Aa(ns:List Nat)(h:AV.relL P ⟨w,D,m,E⟩ qz us):
  AV.relL P ⟨w,D,bH (dV m ns),E⟩ qz us:=
 AV.relL_mono (C:=⟨w,D,m,E⟩) (C':=⟨w,D,bH (dV m ns),E⟩) ⟨λ_ h=>h,λ_ _=>rfl⟩ (λk _ j f=>⟨j,(by
  have:=dU m k ns;replace f:(dV m ns).lookup k=some j:=f;rw[this]at f;split at f;exact f;cases f),rfl,qL _,λ_=>rfl⟩) h
variable {S:Base}{a:Act}{args:List AV}{u:Value}{σ:Sig}{callee:AV}{c:Core}{nx:Nat}
theorem Dm(hK:ay S.P S.G K)(h:aL S σ a w D E)
  (hc:yz S.P K nx σ.m callee args=some c) (hn:∀q∈c.need,q) (hunm:∀k,c.new=some k->Unm k σ) (hcal:callee.rel S.P ⟨w,D,σ.m,E⟩ u) (L:AV.relL S.P ⟨w,D,σ.m,E⟩ args us):
  ∃f qz,(do let d <- Deferred.ofValue u us.toArray;invoke d.target d.args).run S.P w=.ok (.enter f qz) w/\
   Calls S.P f qz w λe w''=>∃v,e=.returned v/\Outcome S ⟨σ.T,upM σ.m c.upd,σ.sv⟩ a c.val v w'':=by
 have X:∀f caps,u=.func (.func f) #[] caps->goes S.P f=true->(do let d <- Deferred.ofValue u us.toArray;invoke d.target d.args).run S.P w=.ok (.enter f (us.toArray++caps)) w:=by
  intro f caps hu hg;subst hu;simp only[Deferred.ofValue,wO,yN,wB,invoke,qAn];exact mF hg w _
 unfold yz at hc;split at hc;rename_i f caps;split at hc;case isFalse=>cases hc
 rename_i hg;split at hc;case isFalse=>cases hc
 rename_i hall;split at hc;case h_2=>cases hc
 rename_i cr hk;have hns:∀k∈cN σ.m (AV.namesL (gq S.P K f args caps++caps)),∀b,σ.m k=some b->∀x∈b.names,x∈cN σ.m (AV.namesL (gq S.P K f args caps++caps)):=by
  intro k hk b hb x hx;rw[qW]at hall;have:=hall k hk;rw[hb]at this;unfold mr at this;simp only[qW]at this;simpa using this x hx
 obtain⟨cs,hu,hcaps⟩:=hcal;have hall2:=Aa (cN σ.m (AV.namesL (gq S.P K f args caps++caps))) (AV.relL_append (Ru (P:=S.P) (K:=K) (f:=f) (caps:=caps) L) hcaps);have e:us.toArray++cs.toArray=(us++cs).toArray:=by simp
 have j:=λhp:cr.pre=>hK f _ _ cr hk hp w D E (us++cs) h.dlt (jG.mono (C:=⟨w,D,σ.m,E⟩) ⟨λ_ g=>g,λ_ _=>rfl⟩ h.gl) hall2 (h.heldOf _);split at hc;rename_i k0 b0 hfr;split at hc;case isFalse=>cases hc
 rename_i hnm;cases hc;unfold SU at hfr;split at hfr;case h_2=>cases hfr
 rename_i k1 b1 hmem hupd;split at hfr;case isFalse=>cases hfr
 rename_i hb0;cases hfr;refine⟨f,_,X f _ hu hg,?_⟩;rw[e];refine(j (Ob.get hn (by simp))).mono λe w' he=>?_;obtain⟨v,D',E',rfl,hl,hv⟩:=he;rw[hmem,hupd]at hl hv;refine⟨v,rfl,D',upE E nx (E' k0),h.calledNew (hunm nx rfl) (zD.1 hb0) hl,?_⟩;refine AV.rel_ren (m:=upM (bH []) [(k0,b0)]) (E:=E') (k:=k0) ?_ ?_ (λx hx=>?_) hv;show upM σ.m [(nx,b0)] nx=upM (bH []) [(k0,b0)] k0;rw[dR,dR,if_pos rfl,if_pos rfl];simp[upE];have:=qW.1 hnm x hx;simpa using this;split at hc;case h_2=>cases hc
 rename_i q hq;split at hc;case isFalse=>cases hc
 rename_i hnl;cases hc;refine⟨f,_,X f _ hu hg,?_⟩;rw[e];refine(j (Ob.get hn (by simp))).mono λe w' he=>?_;obtain⟨v,D',E',rfl,hl,hv⟩:=he;obtain⟨g1,g2⟩:=h.called hns hq (λp hp=>hn p (by simp[hp])) hl;refine⟨v,rfl,D',_,g1,AV.rel_mono (C:=⟨w',D',upM (bH (dV σ.m (cN σ.m (AV.namesL (gq S.P K f args caps++caps))))) cr.upd,E'⟩) (C':=⟨w',D',upM σ.m cr.upd,λk=>if k∈cN σ.m (AV.namesL (gq S.P K f args caps++caps))then E' k else E k⟩) ⟨λ_ g=>g,λ_ _=>rfl⟩ (λnm hnm b' A=>?_) hv⟩;have hin:nm∈cN σ.m (AV.namesL (gq S.P K f args caps++caps)):=by
  have:=qW.1 hnl nm hnm;simpa using this
 have hml:∀b,σ.m nm=some b->bH (dV σ.m (cN σ.m (AV.namesL (gq S.P K f args caps++caps)))) nm=some b:=λb hb=>by
  show(dV σ.m _).lookup nm=some b;rw[dU,if_pos hin];exact hb
 replace A:upM σ.m cr.upd nm=some b':=A;rw[dI]at A;have ex:∃b0,σ.m nm=some b0/\upM (bH (dV σ.m (cN σ.m (AV.namesL (gq S.P K f args caps++caps))))) cr.upd nm=some b':=by
  split at A;rename_i b1 h1;obtain⟨b0,k1,_⟩:=q8 hq (λp hp=>hn p (by simp[hp])) nm b1 h1;exact⟨b0,k1,by rw[dI,h1];exact A⟩;rename_i h1;exact⟨b',A,by rw[dI,h1];exact hml b' A⟩
 obtain⟨b0,k1,k2⟩:=ex;exact⟨b',k2,rfl,qL _,λ_=>if_pos hin⟩;rename_i a1 r pre g x;split at hc;case h_2=>cases hc
 rename_i y hy;cases hc;obtain⟨u1,us',e,r1,r2⟩:=L;simp only[AV.relL]at r2;subst r2 e;obtain⟨f,caps,hu,hg,j⟩:=hcal;have hr:=AV.as_rel hy r1;refine⟨f,_,X f _ hu hg,?_⟩;refine(j w D (λb hb=>hb) h.dlt (λ_ _=>rfl) y u1 (Ob.get hn (by simp)) hr).mono λe w' he=>?_;obtain⟨v,rfl,hw,hv⟩:=he;exact⟨v,rfl,_,E,h.pureCall hw,hv⟩;rename_i a1 b1 r pre g x x2;split at hc;case h_2=>cases hc
 rename_i y z hy hz;cases hc;obtain⟨u1,us',e,r1,u2,us'',e2,r2,r3⟩:=L;simp only[AV.relL]at r3;subst r3 e2 e;obtain⟨f,caps,hu,hg,j⟩:=hcal;refine⟨f,_,X f _ hu hg,?_⟩;refine(j w D (λb hb=>hb) h.dlt (λ_ _=>rfl) y z u1 u2 (Ob.get hn (by simp)) (AV.as_rel hy r1) (AV.as_rel hz r2)).mono λe w' he=>?_;obtain⟨v,rfl,hw,hv⟩:=he;exact⟨v,rfl,_,E,h.pureCall hw,hv⟩;cases hc
mutual
def Ou(m:Nat->Option Blk):AV->Option (List Ob×AV)
 |.buf nm n=>match m nm with
  |some (.buf _ t xs [])=>some ([xs.length=n],.dat (.sl t) xs)|_=>none
 |.agg cs=>match G5 m cs with
  |some (ns,ds)=>some (ns,.agg ds)|none=>none
 |a=>if a.names.isEmpty then some ([],a)else none
def G5(m:Nat->Option Blk):List AV->Option (List Ob×List AV)
 |[]=>some ([],[])|a::qz=>match Ou m a,G5 m qz with
  |some (p,x),some (q,xs)=>some (p++q,x::xs)|_,_=>none
end
def Vr:AV->AV|.dat (.int k) x=>.dat (.int k) x|.dat .bool x=>.dat .bool x|.dat .str x=>.dat .str x|_=>.top
theorem EY{C C':Ctx}{a:AV}(h:a.rel P C v):(Vr a).rel P C' v:=by
 unfold Vr;split;exact h;exact h;exact h;trivial
theorem QF{C C':Ctx}:∀{qz:List AV}{us:Lv},AV.relL P C qz us->AV.relL P C' (qz.map Vr) us
 |[],_,h=>h|a::qz,_,h=>by
  obtain⟨u,f,e,y,j⟩:=h;exact⟨u,f,e,EY y,QF j⟩
def yt(m:Nat->Option Blk)(E:Nat->Ent)(D:Nat->Prop):Nat->Prop:=λb=>D b\/bD m E b
theorem xS(h:aL S σ a w D E){nm:Nat}{el:TypeId}{t:Ty}{xs:List t.den}(hm:σ.m nm=some (.buf el t xs [])):
  ae w (yt σ.m E D) (.sl t) xs [(E nm).handle xs.length]:=by
 obtain⟨raw,z,r2⟩:=h.bl nm _ hm;cases f:(E nm).isNil with
 |true=>
  have e3:(E nm).handle xs.length=.slice none 0 0:=by unfold Ent.handle;rw[f];rfl
  rw[e3]at z ⊢;rcases z.2 with⟨_,hz⟩|⟨g,cap,cur,G,_⟩;have:xs=[]:=vK hz;subst this;exact bf _ _ _;cases G
 |false=>
  have e3:(E nm).handle xs.length=.slice (some ⟨(E nm).b,0,none⟩) xs.length (E nm).cap:=by unfold Ent.handle;rw[f];rfl
  rw[e3]at z ⊢;have L:xs.length<=(E nm).cap:=by
   rcases z.2 with⟨G,_⟩|⟨g,cap,cur,G,_,_,L,_⟩;cases G;simp only[yH,yE]at G;omega
  refine⟨_,_,rfl,L,(λh=>by cases h),(λad had _=>by cases had;rfl),λi y hy=>?_⟩;have hr:=r2 i y hy;simp only[List.lookup]at hr;refine⟨_,_,rfl,.inr ⟨nm,_,hm,f,rfl⟩,?_,au (λ_ g=>.inl g) (λ_ _=>rfl) hr⟩;intro j u A;rw[vV]at A;split at A;rw[vF]at A;have X:i*t.sz+j<xs.length*t.sz:=by rw[<- z.1];exact(qC.1 A).1
  show w.cell? ⟨(E nm).b,0+i*t.sz+j,none⟩=some u;rw[zG,z.cellAt _ X];exact A;cases A
mutual
theorem RL(h:aL S σ a w D E):∀{x y:AV}{ns:List Ob}{v:Value},Ou σ.m x=some (ns,y)->(∀q∈ns,q)->x.rel S.P ⟨w,D,σ.m,E⟩ v->y.rel S.P ⟨w,yt σ.m E D,bH [],E⟩ v
 |x,y,ns,v,hc,z,j=>by
  unfold Ou at hc;split at hc;rename_i nm n;split at hc;case h_2=>cases hc
  rename_i el t xs hm;cases hc;have f:xs.length=n:=Ob.get z (by simp);have A:=(j _ hm).2 f;rw[<- f]at A;rw[A];exact xS h hm;rename_i cs;split at hc;case h_2=>cases hc
  rename_i G ds L;cases hc;obtain⟨us,h1,X⟩:=j;exact⟨us,h1,G4 h L z X⟩;split at hc;case isFalse=>cases hc
  rename_i u;cases hc;exact sf (C:=⟨w,D,σ.m,E⟩) (C':=⟨w,yt σ.m E D,bH [],E⟩) u ⟨λ_ g=>.inl g,λ_ _=>rfl⟩ j
theorem G4(h:aL S σ a w D E):∀{xs ys:List AV}{ns:List Ob}{vs:Lv},G5 σ.m xs=some (ns,ys)->(∀q∈ns,q)->AV.relL S.P ⟨w,D,σ.m,E⟩ xs vs->AV.relL S.P ⟨w,yt σ.m E D,bH [],E⟩ ys vs
 |[],ys,ns,vs,hc,A,u=>by
  simp only[G5,vT,kL]at hc;rw[<- hc.2];exact u
 |x::xs,ys,ns,vs,hc,A,u=>by
  simp only[G5]at hc;split at hc;rename_i p y q G X L;cases hc;obtain⟨v,f,e,g1,g2⟩:=u;exact⟨v,f,e,RL h X (λz j=>A z (qI.2 (.inl j))) g1,G4 h L (λz j=>A z (qI.2 (.inr j))) g2⟩;cases hc
end
mutual
theorem JI{m m':Nat->Option Blk}:∀{x:AV},(∀k∈x.names,m' k=m k)->Ou m' x=Ou m x
 |x,h=>by
  unfold Ou;split;rename_i nm n;rw[h nm (by simp[AV.names])];rename_i cs;rw[vz λk f=>h k (by simpa[AV.names]using f)];rfl
theorem vz{m m':Nat->Option Blk}:∀{xs:List AV},(∀k∈AV.namesL xs,m' k=m k)->G5 m' xs=G5 m xs
 |[],_=>rfl|x::xs,h=>by
  simp only[G5];rw[JI (x:=x) λk f=>h k (by simp[AV.namesL,f]),vz (xs:=xs) λk f=>h k (by simp[AV.namesL,f])]
end
def OZ(P:Program)(K:Kt)(nx:Nat)(m:Nat->Option Blk)(callee:AV)(args:List AV):Option Core:=match yz P K nx m callee args with|some c=>some c|none=>yz P K nx m (kb callee) (tu args)
theorem XS(X:ay S.P S.G K)(h:aL S σ a w D E)
  (hc:OZ S.P K nx σ.m callee args=some c) (L:∀q∈c.need,q) (y:∀k,c.new=some k->Unm k σ) (z:callee.rel S.P ⟨w,D,σ.m,E⟩ u) (j:AV.relL S.P ⟨w,D,σ.m,E⟩ args us):
  ∃f qz,(do let d <- Deferred.ofValue u us.toArray;invoke d.target d.args).run S.P w=.ok (.enter f qz) w/\
   Calls S.P f qz w λe A=>∃v,e=.returned v/\Outcome S ⟨σ.T,upM σ.m c.upd,σ.sv⟩ a c.val v A:=by
 unfold OZ at hc;split at hc;rename_i c1 h1;cases hc;exact Dm X h h1 L y z j;exact Dm X h hc L y (AV.rel_forg z) (AV.relL_forg j)
def selC(P:Program)(K:Kt)(nx:Nat)(m:Nat->Option Blk)(args:List AV)(t:Ty):List AV->Option (List (List Ob×t.den))
 |[]=>some []|c::cs=>match yz P K nx m c args,selC P K nx m args t cs with
  |some co,some r=>match co.upd,co.new,co.val.qz t with
   |[],none,some x=>some ((co.need,x)::r)|_,_,_=>none
  |_,_=>none
def uy{α:Type}(i:Nat):Nat->List (List Ob×α)->List Ob|_,[]=>[]|j,q::r=>q.1.map (Ob.under (i=j))++uy i (j+1) r
def nC(P:Program)(K:Kt)(nx:Nat)(m:Nat->Option Blk)(f:AV)(args:List AV):Option Core:=match f with
 |.sel i cs=>match cs with
  |[]=>none|c::r=>match yz P K nx m c args with
   |some co=>match co.val with
    |.dat t _=>match selC P K nx m args t (c::r)with
     |some q=>some {need:=uy (Dc i) 0 q,val:=.dat t (Dw (q.map (·.2)) (Dc i) t.dflt)}|none=>none
    |_=>none
   |none=>none
 |f=>OZ P K nx m f args
theorem QD{t:Ty}:∀{cs:List AV}{q:List (List Ob×t.den)},selC P K nx m args t cs=some q->∀{j:Nat}{c:AV},cs[j]?=some c->
  ∃f x,yz P K nx m c args=some f/\f.upd=[]/\f.new=none/\f.val.qz t=some x/\q[j]?=some (f.need,x)
 |[],_,_,j,c,h=>by simp at h|c'::cs,q,u,j,c,h=>by
  unfold selC at u;split at u;case h_2=>cases u
  rename_i f r z y;split at u;case h_2=>cases u
  rename_i x L G A;cases u;cases j with
  |zero=>
   simp only[xK,vT]at h;subst h;exact⟨f,x,z,L,G,A,rfl⟩
  |succ j=>simpa using QD y (by simpa using h)
theorem zr{α:Type}{i:Nat}:∀{q:List (List Ob×α)}{b j:Nat}{ns:List Ob}{x:α},(∀p∈uy i b q,p)->q[j]?=some (ns,x)->i=b+j->∀p∈ns,p
 |[],_,_,_,_,_,h,_=>by simp at h|y::q,b,j,ns,x,u,h,e=>by
  intro p f;cases j with
  |zero=>
   simp only[xK,vT]at h;subst h;exact u (Ob.under (i=b) p) (by simp only[uy,qI,vW];exact .inl ⟨p,f,rfl⟩) Z
  |succ j=>
   exact zr (b:=b+1) (λp f=>u p (by simp only[uy,qI];exact .inr f)) (by simpa using h) Z p f
theorem Ko(hK:ay S.P S.G K)(h:aL S σ a w D E)
  (hc:nC S.P K nx σ.m callee args=some c) (hn:∀q∈c.need,q) (A:∀k,c.new=some k->Unm k σ) (y:callee.rel S.P ⟨w,D,σ.m,E⟩ u) (j:AV.relL S.P ⟨w,D,σ.m,E⟩ args us):
  ∃f qz,(do let d <- Deferred.ofValue u us.toArray;invoke d.target d.args).run S.P w=.ok (.enter f qz) w/\
   Calls S.P f qz w λe X=>∃v,e=.returned v/\Outcome S ⟨σ.T,upM σ.m c.upd,σ.sv⟩ a c.val v X:=by
 unfold nC at hc;split at hc;rename_i i cs;split at hc;cases hc;rename_i c0 r;split at hc;case h_2=>cases hc
 rename_i co0 _;split at hc;case h_2=>cases hc
 rename_i t _ _;split at hc;case h_2=>cases hc
 rename_i q hq;cases hc;obtain⟨vs,g1,g2⟩:=y;have L:i.toNat<(c0::r).length:=by rw[AV.relL_length g1];exact(qC.1 g2).1
 obtain⟨co,x,k1,k2,k3,k4,k5⟩:=QD hq (qB L);obtain⟨u',g3,g4⟩:=AV.relL_get g1 (qB L);have eu:u'=u:=wE (g3.symm.trans g2);subst eu;have z:=zr (b:=0) (i:=i.toNat) hn k5 Z;obtain⟨f,qz,h1,h2⟩:=Dm hK h k1 z (λk hk=>by rw[k3]at hk;cases hk) g4 j;refine⟨f,qz,h1,h2.mono λe w' he=>?_⟩;obtain⟨v,rfl,D',E',p1,p2⟩:=he;rw[k2]at p1 p2;refine⟨v,rfl,D',E',p1,?_⟩;have hx:=AV.as_rel k4 p2;have ev:(q.map (·.2)).getD i.toNat t.dflt=x:=by
  simp only[List.getD,qQ,k5];rfl
 show ae _ _ t ((q.map (·.2)).getD i.toNat t.dflt) [v];rw[ev];exact hx;exact XS hK h hc hn A y j
def oF:RV->Option Core|(.ip t x,_)=>some {val:=.ip t x}|(.ptr nm g i c,some b)=>some {need:=[b.len=g],val:=.ptr nm g i c}|(.fn f caps,_)=>some {val:=.fn f caps}|(.ipv x,_)=>some {val:=.ipv x}|(.ips cs,_)=>some {val:=.ips cs}|(.ia t xs,_)=>some {val:=.ia t xs}|(.sel i cs,_)=>if cs.all aFi then some {val:=.sel i cs} else none|_=>none
def Jd:Operand->Operand->Bool|.tmp i,.tmp j=>i==j|.const (.int k x),.const (.int k' y)=>decide (k=k')&&decide (x=y)|_,_=>false
def DF(P:Program)(nx:Nat)(b:Builtin)(ts:Array TypeId)(vs:List RV):Option Core:=
 match b,vs with
 |.len,[x]=>match ts[0]? with
  |some t=>aFb P t x|none=>none
 |.append,[s,x]=>match ts.toList with
  |[t,t']=>if t=t' then aDb P nx t s x else none|_=>none
 |.copy,[d,s]=>match ts.toList with
  |[t,_]=>aAJ P t d s|_=>none
 |.max,vs=>match(vs.map (·.1):List AV)with
  |.dat (.int k) x::r=>match aBj true k x r with
   |some y=>some {val:=.dat (.int k) y}|none=>none
  |_=>none
 |.min,vs=>match(vs.map (·.1):List AV)with
  |.dat (.int k) x::r=>match aBj false k x r with
   |some y=>some {val:=.dat (.int k) y}|none=>none
  |_=>none
 |_,_=>none
def opE(P:Program)(K:Kt)(mt:Bool)(nx:Nat)(m:Nat->Option Blk)(o:Op)(vs:List RV):Option Core:=
 match o,vs with
 |.move _,[x]=>some {val:=x.1}|.assign _,[x]=>some {val:=x.1}|.alloc e,[]=>match yb P nx e with
  |some c=>some c|none=>Uj P nx e
 |.build t parts,vs=>TX P t (parts.toList.map (·.1)) vs|.box e _,[x]=>match rI P m mt e x.1 with
  |some c=>some c|none=>match Kr P mt nx e x with
   |some c=>some c|none=>aFy P mt nx e x
 |.buildSlice t len parts,vs=>match RH P mt t len (parts.toList.map (·.1)) (vs.map (·.1))with
  |some c=>some c|none=>aFa P mt nx t len (parts.toList.map (·.1)) (vs.map (·.1))
 |.load t _,[p]=>match B7 P t p with
  |some c=>some c|none=>match tU P t p with
   |some c=>some c|none=>WO P t p
 |.store t _ _,[p,v]=>match uo P t p v with
  |some c=>some c|none=>match uq P t p v with
   |some c=>some c|none=>match Qx P t p v with
    |some c=>some c|none=>jM P m t p v
 |.nilCheck _,[p]=>oF p|.binOp op xT _ y _,[a,b]=>match SL P op xT y a.1 b.1 with
  |some c=>some c|none=>aFz P op xT a.1 b.1
 |.unOp op _ _,[a]=>unE op a.1|.convert s d _,[a]=>match TV P s d a.1 with
  |some c=>some c|none=>aAK P s d a.1
 |.makeInterface t _,[x]=>RF P t x.1|.typeAssert _ _ t ok,[x]=>Ks P t ok x.1|.makeFunc (.func f) first _,vs=>if first.isEmpty then some {val:=.fn f (vs.map (·.1))} else none
 |.makeSlice t l c,[a,b]=>tE P nx t a.1 b.1 (Jd l c)|.slice t _ none none none,[x]=>match xN P t x with
  |some c=>some c|none=>zq P t x.1 none none
 |.slice t _ (some _) none none,[x,l]=>zq P t x.1 (some l.1) none|.slice t _ none (some _) none,[x,h]=>zq P t x.1 none (some h.1)|.slice t _ (some _) (some _) none,[x,l,h]=>zq P t x.1 (some l.1) (some h.1)|.fieldAddr s _ f,[p]=>rE P s f p|.field t _ f,[x]=>Tf P t f x.1|.indexAddr t _ _,[x,i]=>match wv P t x i.1 with
  |some c=>some c|none=>ry P t x i.1
 |.index t _ _,[x,i]=>match CG P t x.1 i.1 with
  |some c=>some c|none=>SG P t x.1 i.1
 |.extract _ i,[x]=>CX i x.1|.call c,vs=>match c.callee,vs with
  |.builtin b,vs=>DF P nx b c.argTypes vs|.value _,f::args=>nC P K nx m f.1 (args.map (·.1))|_,_=>none
 |_,_=>none
theorem BK(h:AV.relL P C [] us):us=[]:=h
theorem fX{a:AV}(h:AV.relL P C [a] [u]):a.rel P C u:=by
 obtain⟨_,_,e,g,_⟩:=h;cases e;exact g
theorem uJ{a b:AV}{u v:Value}(h:AV.relL P C [a,b] [u,v]):a.rel P C u/\b.rel P C v:=by
 obtain⟨_,_,e,g,_,_,f,g2,_⟩:=h;cases e;cases f;exact⟨g,g2⟩
theorem aCj{a b c:AV}{u v x:Value}(h:AV.relL P C [a,b,c] [u,v,x]):a.rel P C u/\b.rel P C v/\c.rel P C x:=by
 obtain⟨_,_,e,g,_,_,y,g2,_,_,j,f,_⟩:=h;cases e;cases y;cases j;exact⟨g,g2,f⟩
theorem Yields.value{S:Base}{σ:Sig}{a:Act}{x:AV}{s:Sem Value}{w:World}(h:∃r w',s.run S.P w=.ok r w'/\Outcome S σ a x r w'):
  Yields S σ a x ((do pure (Next.value (<- s)):Sem Next).run S.P w):=by
 obtain⟨r,w',j,f⟩:=h;exact .inl ⟨r,w',by simp[j],f⟩
theorem Yields.same{S:Base}{σ:Sig}{a:Act}{x:AV}{s:Sem Value}{w:World}{D:Nat->Prop}{E:Nat->Ent}(f:aL S σ a w D E)(h:∃r,s.run S.P w=.ok r w/\x.rel S.P ⟨w,D,σ.m,E⟩ r):
  Yields S σ a x ((do pure (Next.value (<- s)):Sem Next).run S.P w):=by
 obtain⟨r,u,j⟩:=h;exact Yields.value ⟨r,w,u,D,E,f,j⟩
theorem NP{i j:Operand}(h:Jd i j=true)(a:Act):a.eval i=a.eval j:=by
 unfold Jd at h;split at h;simp only[yX]at h;subst h;rfl;simp only[qE,qF]at h;obtain⟨rfl,rfl⟩:=h;rfl;cases h
theorem toList_map{α β:Type}(xs:Array α)(f:α->β):xs.map f=(xs.toList.map f).toArray:=by
 apply yR;simp
variable {vs:List RV}
theorem Kq(h:aL S σ a w D E){b:Builtin}{ts:Array TypeId}{ty:TypeId}{cs:Array Bool}
  (X:AV.relL S.P ⟨w,D,σ.m,E⟩ (vs.map (·.1)) us) (f:∀v∈vs,v.2=da σ.m v.1) (hc:DF S.P nx b ts vs=some c) (hn:∀q∈c.need,q) (hu:∀k,c.new=some k->Unm k σ):
  Yields S ⟨σ.T,upM σ.m c.upd,σ.sv⟩ a c.val ((builtin b ts ty cs us.toArray).run S.P w):=by
 unfold DF at hc;split at hc;rename_i x;obtain⟨u,j,e,A,g2⟩:=X;have g2':=BK g2;subst g2' e;split at hc;rename_i t ht;obtain⟨r,h1,h2,h3,_⟩:=xV (ty:=ty) h ht (f x (by simp)) hc hn A;rw[h3];exact Yields.same h ⟨r,h1,h2⟩;cases hc;rename_i s x;obtain⟨u,j,e,A,u2,us2,e2,g3,g4⟩:=X;have g4':=BK g4;subst g4' e2 e;split at hc;rename_i t t' L;split at hc;rename_i ht;subst ht;have z:ts=#[t,t]:=by apply yR;exact L
 subst z;exact Yields.value (aAY h (f s (by simp)) (f x (by simp)) hc hn A g3 hu);cases hc;cases hc;rename_i d s;obtain⟨u,j,e,A,u2,us2,e2,g3,g4⟩:=X;have g4':=BK g4;subst g4' e2 e;split at hc;rename_i t t' L;have z:ts=#[t,t']:=by apply yR;exact L
 subst z;exact Yields.value (XG h (f d (by simp)) (f s (by simp)) hc hn A g3);cases hc;split at hc;rename_i k x r G;split at hc;rename_i y hy;cases hc;rw[G]at X;obtain⟨u,j,e,A,g2⟩:=X;subst e;simp only[AV.rel,ae,vG,vY]at A;subst A;have:=BH (P:=S.P) (w:=w) true k r j x y hy g2;refine Yields.same h ⟨.int k y,?_,rfl⟩;simp only[Builtin.max_];exact this;cases hc;cases hc;split at hc;rename_i k x r G;split at hc;rename_i y hy;cases hc;rw[G]at X;obtain⟨u,j,e,A,g2⟩:=X;subst e;simp only[AV.rel,ae,vG,vY]at A;subst A;have:=BH (P:=S.P) (w:=w) false k r j x y hy g2;refine Yields.same h ⟨.int k y,?_,rfl⟩;simp only[Builtin.min_];exact this;cases hc;cases hc;cases hc
theorem aCs(hK:ay S.P S.G K)(h:aL S σ a w D E){mt:Bool}{o:Oper}
  (hr:AV.relL S.P ⟨w,D,σ.m,E⟩ (vs.map (·.1)) (o.op.operands.toList.map a.eval)) (L:∀v∈vs,v.2=da σ.m v.1)
  (hc:opE S.P K mt nx σ.m o.op vs=some c) (hn:∀q∈c.need,q) (hu:∀k,c.new=some k->Unm k σ/\∀v∈vs,k∉v.1.names):
  Yields S ⟨σ.T,upM σ.m c.upd,σ.sv⟩ a c.val ((execOp a.eval o).run S.P w):=by
 have hu1:∀k,c.new=some k->Unm k σ:=λk hk=>(hu k hk).1;obtain⟨dst,op,type,pos,after,guard⟩:=o;simp only at hr hc;unfold opE at hc;split at hc;rename_i x0 x;cases hc;exact .inl ⟨_,w,rfl,D,E,h,fX hr⟩;rename_i x0 x;cases hc;exact .inl ⟨_,w,rfl,D,E,h,fX hr⟩;split at hc;rename_i c' z;cases hc;exact Yields.value (IK h z hu1);exact Yields.value (Ui h hc hu1);rename_i t parts;have hmap:(parts.map λ(i,x)=>(i,a.eval x))=((parts.toList.map (·.1)).zip (parts.toList.map λp=>a.eval p.2)).toArray:=by
  apply yR;simp only[qAy,List.zip_map']
 have hops:(Op.build t parts).operands.toList.map a.eval=parts.toList.map λp=>a.eval p.2:=by
  simp[Op.operands]
 rw[hops]at hr;obtain⟨r,A,j,X,_⟩:=TW (w:=w) hc hn L hr;rw[X];refine Yields.same h ⟨r,?_,j⟩;rw[hmap];exact A;rename_i e x0 x;split at hc;rename_i c' z;cases hc;exact Yields.value (O4 h z (fX hr));split at hc;rename_i c' z;cases hc;exact Yields.value (O5 h z hn hu1 (fX hr));refine Yields.value (aAS h (L x (by simp)) hc hn (λk hk=>⟨hu1 k hk,λhm=>?_⟩) (fX hr));have:=(hu k hk).2 x (by simp);apply this;cases hx:x.1<;>rw[hx]at hm<;>first|exact hm|simpa[cI,AV.namesL]using hm
 rename_i t len parts;have hmap:(parts.map λ(i,x)=>(i,a.eval x))=((parts.toList.map (·.1)).zip (parts.toList.map λp=>a.eval p.2)).toArray:=by
  apply yR;simp only[qAy,List.zip_map']
 have hops:(Op.buildSlice t len parts).operands.toList.map a.eval=parts.toList.map λp=>a.eval p.2:=by
  simp[Op.operands]
 rw[hops]at hr;split at hc;rename_i c' z;cases hc;obtain⟨r,w',A,j⟩:=RG h z hr;refine Yields.value ⟨r,w',?_,j⟩;rw[hmap];exact A;obtain⟨_,r,w',A,j⟩:=tT h hc hr hu1;refine Yields.value ⟨r,w',?_,j⟩;rw[hmap];exact A;rename_i t x0 p;split at hc;rename_i c' z;cases hc;obtain⟨r,A,j,X,_⟩:=JC h (L p (by simp)) z hn (fX hr);rw[X];exact Yields.same h ⟨r,A,j⟩;split at hc;rename_i c' z;cases hc;obtain⟨r,A,j,X,_⟩:=vw h (L p (by simp)) z hn (fX hr);rw[X];exact Yields.same h ⟨r,A,j⟩;obtain⟨r,A,j,X,_⟩:=LL h (L p (by simp)) hc hn (fX hr);rw[X];exact Yields.same h ⟨r,A,j⟩;rename_i t x0 y0 p v;obtain⟨g1,g2⟩:=uJ hr;split at hc;rename_i c' z;cases hc;obtain⟨_,hval,w',A,D',E',j⟩:=EI h (L p (by simp)) (L v (by simp)) z hn g1 g2;refine .inr (.inl ⟨w',by simp[execOp,A],D',E',j,?_⟩);rw[hval];rfl;split at hc;rename_i c' z;cases hc;obtain⟨_,hval,w',A,D',E',j⟩:=EJ h (L p (by simp)) z hn g1 g2;refine .inr (.inl ⟨w',by simp[execOp,A],D',E',j,?_⟩);rw[hval];rfl;split at hc;rename_i c' z;cases hc;obtain⟨_,hval,w',A,D',E',j⟩:=Qw h (L p (by simp)) (L v (by simp)) z hn g1 g2;refine .inr (.inl ⟨w',by simp[execOp,A],D',E',j,?_⟩);rw[hval];rfl;obtain⟨_,hval,w',A,D',E',j⟩:=EH h (L p (by simp)) hc hn g1 g2;refine .inr (.inl ⟨w',by simp[execOp,A],D',E',j,?_⟩);rw[hval];rfl;rename_i x0 p;have hp:=fX hr;unfold oF at hc;split at hc;cases hc;obtain⟨bl,off,us,e,g⟩:=hp;refine .inl ⟨_,w,?_,D,E,h,⟨bl,off,us,rfl,g⟩⟩;simp[execOp,e]
 rename_i nm g i c0 b;cases hc;have hm:σ.m nm=some b:=(L _ (qX.2 rfl)).symm;obtain⟨_,_,e⟩:=(hp b hm).2 (Ob.get hn (by simp));refine .inl ⟨_,w,?_,D,E,h,hp⟩;simp[execOp,e];cases hc;obtain⟨us,e,g⟩:=hp;refine .inl ⟨_,w,?_,D,E,h,⟨us,rfl,g⟩⟩;simp[execOp,e];cases hc;obtain⟨bl,off,u,e,g⟩:=hp;refine .inl ⟨_,w,?_,D,E,h,⟨bl,off,u,rfl,g⟩⟩;simp[execOp,e];cases hc;obtain⟨bl,off,us,e,g⟩:=hp;refine .inl ⟨_,w,?_,D,E,h,⟨bl,off,us,rfl,g⟩⟩;simp[execOp,e];cases hc;obtain⟨bl,off,e,g⟩:=hp;refine .inl ⟨_,w,?_,D,E,h,⟨bl,off,rfl,g⟩⟩;simp[execOp,e];rename_i i cs _;split at hc;case isFalse=>cases hc
 rename_i hall;cases hc;obtain⟨vs,g1,g2⟩:=hp;have hlt:i.toNat<cs.length:=by rw[AV.relL_length g1];exact(qC.1 g2).1
 obtain⟨u',g3,g4⟩:=AV.relL_get g1 (qB hlt);have eu:=wE (g3.symm.trans g2);have hf:=qW.1 hall _ (wS hlt);have:∃f us,a.eval x0=.func (.func f) #[] us:=by
  rw[<- eu];cases hq:cs[i.toNat]<;>rw[hq]at hf g4<;>first|cases hf|skip
  obtain⟨us,e,_⟩:=g4;exact⟨_,_,e⟩
 obtain⟨f,us,e⟩:=this;refine .inl ⟨_,w,?_,D,E,h,⟨vs,g1,g2⟩⟩;simp[execOp,e];cases hc;rename_i bop xT x0 y0 yT x y;obtain⟨g1,g2⟩:=uJ hr;split at hc;rename_i c' z;cases hc;obtain⟨r,A,j,X,_⟩:=SK (w:=w) (x:=x0) (y:=y0) z g1 g2;rw[X];exact Yields.same h ⟨r,A,j⟩;obtain⟨r,A,j,X⟩:=VJ (w:=w) (x:=x0) (y:=y0) hc hn g1 g2;rw[X];exact Yields.same h ⟨r,A,j⟩;rename_i uop t0 x0 x;obtain⟨r,A,j,X⟩:=Z4 (P:=S.P) (w:=w) hc hn (fX hr);rw[X];exact Yields.same h ⟨r,A,j⟩;rename_i s d x0 x;split at hc;rename_i c' z;cases hc;exact Yields.value (TU h z (fX hr));obtain⟨r,A,j,X⟩:=QQ (w:=w) hc hn (fX hr);rw[X];exact Yields.same h ⟨r,A,j⟩;rename_i t x0 x;obtain⟨r,A,j,X,_⟩:=RE (w:=w) hc (fX hr);rw[X];exact Yields.same h ⟨r,A,j⟩;rename_i x0 xt t ok x;obtain⟨r,A,j,X,_⟩:=Pj (w:=w) (xt:=xt) hc (fX hr);rw[X];exact Yields.same h ⟨r,A,j⟩;rename_i f first caps
 split at hc;rename_i hf;cases hc;have hf':first=#[]:=by simpa using hf
 subst hf';refine .inl ⟨.func (.func f) #[] (caps.map a.eval),w,?_,D,E,h,caps.toList.map a.eval,by rw[toList_map],?_⟩;simp[execOp,Instr.makeFunc];have hr':AV.relL S.P ⟨w,D,σ.m,E⟩ (vs.map (·.1)) (caps.toList.map a.eval):=by simpa[Op.operands]using hr
 exact hr';cases hc;rename_i t l c0 x y;obtain⟨g1,g2⟩:=uJ hr;exact Yields.value (WM h (λhs=>NP hs a) hc hn g1 g2 hu1);rename_i t x0 x;split at hc;rename_i c' z;cases hc;obtain⟨r,A,j,X,_⟩:=IJ h (L x (by simp)) z hn (fX hr);rw[X];exact Yields.same h ⟨r,A,j⟩;obtain⟨r,A,j,X,_⟩:=pw (w:=w) (vl:=none) (vh:=none) hc hn (fX hr) trivial trivial;rw[X];exact Yields.same h ⟨r,A,j⟩;rename_i t x0 l0 x l;obtain⟨g1,g2⟩:=uJ hr;obtain⟨r,A,j,X,_⟩:=pw (w:=w) (vl:=some _) (vh:=none) hc hn g1 g2 trivial;rw[X];exact Yields.same h ⟨r,A,j⟩;rename_i t x0 l0 x l;obtain⟨g1,g2⟩:=uJ hr;obtain⟨r,A,j,X,_⟩:=pw (w:=w) (vl:=none) (vh:=some _) hc hn g1 trivial g2;rw[X];exact Yields.same h ⟨r,A,j⟩;rename_i t x0 l0 h0 x l hh;obtain⟨g1,g2,g3⟩:=aCj hr;obtain⟨r,A,j,X,_⟩:=pw (w:=w) (vl:=some _) (vh:=some _) hc hn g1 g2 g3;rw[X];exact Yields.same h ⟨r,A,j⟩;rename_i s x0 f p;obtain⟨r,A,j,X,_⟩:=CS h (L p (by simp)) hc hn (fX hr);rw[X];exact Yields.same h ⟨r,A,j⟩;rename_i t x0 f x;obtain⟨r,A,j,X,_⟩:=Td (w:=w) hc (fX hr);rw[X];exact Yields.same h ⟨r,A,j⟩;rename_i t x0 i0 x i;obtain⟨g1,g2⟩:=uJ hr;split at hc;rename_i c' z;cases hc;obtain⟨r,A,j,X,_⟩:=HM h (L x (by simp)) z hn g1 g2;rw[X];exact Yields.same h ⟨r,A,j⟩;obtain⟨r,A,j,X,_⟩:=CH h (L x (by simp)) hc hn g1 g2;rw[X];exact Yields.same h ⟨r,A,j⟩;rename_i t x0 i0 x i;obtain⟨g1,g2⟩:=uJ hr;split at hc;rename_i c' z;cases hc;obtain⟨r,A,j,X,_⟩:=JS (w:=w) z hn g1 g2;rw[X];exact Yields.same h ⟨r,A,j⟩;obtain⟨r,A,j,X,_⟩:=SE (w:=w) hc hn g1 g2;rw[X];exact Yields.same h ⟨r,A,j⟩
 rename_i x0 i x;obtain⟨r,A,j,X,_⟩:=J3 (P:=S.P) (w:=w) hc (fX hr);rw[X];exact Yields.same h ⟨r,A,j⟩;rename_i cl;obtain⟨callee,args,argTypes⟩:=cl;simp only at hc;split at hc;rename_i b;have hr':AV.relL S.P ⟨w,D,σ.m,E⟩ (vs.map (·.1)) (args.toList.map a.eval):=by simpa[Op.operands,Call.operands]using hr
 obtain⟨cs,e⟩:∃cs,execOp a.eval ⟨dst,.call {callee:=.builtin b,args:=args,argTypes:=argTypes},type,pos,after,guard⟩=builtin b argTypes type cs (args.map a.eval):=⟨_,by simp only[execOp,resolve,pure_bind,invoke];rfl⟩;rw[e,toList_map args a.eval];exact Kq (ty:=type) h hr' L hc hn hu1;rename_i x0 f fs;have hr':AV.relL S.P ⟨w,D,σ.m,E⟩ (f.1::fs.map (·.1)) (a.eval x0::args.toList.map a.eval):=by simpa[Op.operands,Call.operands]using hr
 obtain⟨u,us',e,g1,g2⟩:=hr';simp only[vG]at e;obtain⟨rfl,rfl⟩:=e;obtain⟨f',qz,j,X⟩:=Ko hK h hc hn hu1 g1 g2;refine .inr (.inr ⟨f',qz,w,?_,X⟩);have e2:execOp a.eval ⟨dst,.call {callee:=.value x0,args:=args,argTypes:=argTypes},type,pos,after,guard⟩=(do let d <- Deferred.ofValue (a.eval x0) (args.toList.map a.eval).toArray;invoke d.target d.args):=by
  simp only[execOp,resolve,toList_map args a.eval]
 rw[e2];exact j;cases hc;cases hc
theorem ve:∀{ts:List TypeId}{qz:List AV},k∈AV.namesL (ym P ts qz)->k∈AV.namesL qz
 |[],_,h=>h|_::_,[],h=>h|t::ts,a::qz,h=>by
  simp only[ym,AV.namesL,qI]at h ⊢;rcases h with h|h;left;unfold Wu at h;split at h;split at h;simp[AV.names]at h;exact h;split at h;split at h;simp only[AV.names,iQ]at h;cases h;exact h;exact h;exact h;exact .inr (ve h)
theorem pO:∀(l k:List AV),AV.namesL (l++k)=AV.namesL l++AV.namesL k|[],_=>rfl|a::l,k=>by simp[AV.namesL,pO l k]
theorem vr{m m':Nat->Option Blk}:∀{l:List Nat},(∀k∈l,m' k=m k)->dV m' l=dV m l
 |[],_=>rfl|k::l,h=>by
  simp only[dV];rw[h k (by simp),vr (λx f=>h x (by simp[f]))]
theorem zi{m m':Nat->Option Blk}(h:∀k∈ns,m' k=m k):∀u:Mem,UQ m' ns u=UQ m ns u
 |[]=>rfl|(k,b)::r=>by
  simp only[UQ];rw[zi h r];by_cases f:k∈ns;rw[h k f];have hc:ns.contains k=false:=by simpa using f
  cases m' k<;>cases m k<;>cases UQ m ns r<;>simp[hc,f]
theorem Jt(h:k∈AV.namesL (gq P K f qz caps)):k∈AV.namesL qz:=by
 unfold gq at h;split at h;exact h;exact ve h
theorem lD{m m':Nat->Option Blk}{f:AV}(h:∀k,k∈cN m f.names\/k∈cN m (AV.namesL args)->m' k=m k):yz P K nx m' f args=yz P K nx m f args:=by
 unfold yz;split;rename_i f caps;have up:∀k∈AV.namesL (gq P K f args caps++caps),k∈AV.namesL args\/k∈(AV.fn f caps).names:=λk u=>by
  rw[pO,qI]at u;rcases u with u|u;exact .inl (Jt u);exact .inr (by simpa[AV.names]using u)
 have z:∀k∈cN m (AV.namesL (gq P K f args caps++caps)),m' k=m k:=λk u=>by
  rcases qp u with g|⟨j,L,b,hb,y⟩;rcases up k g with g|g;exact h k (.inr (eJ g));exact h k (.inl (eJ g));rcases up j L with g|g;exact h k (.inr (tZ g hb y));exact h k (.inl (tZ g hb y))
 rw[xo (m:=m) (m':=m') (l:=AV.namesL (gq P K f args caps++caps)) λk u=>z k (eJ u)];have X:((cN m (AV.namesL (gq P K f args caps++caps))).all λk=>match m' k with|some b=>mr (cN m (AV.namesL (gq P K f args caps++caps))) b|none=>true) =
   ((cN m (AV.namesL (gq P K f args caps++caps))).all λk=>match m k with|some b=>mr (cN m (AV.namesL (gq P K f args caps++caps))) b|none=>true):=by
  have:∀(l:List Nat),(∀k∈l,m' k=m k)->(l.all λk=>match m' k with|some b=>mr (cN m (AV.namesL (gq P K f args caps++caps))) b|none=>true) =
    (l.all λk=>match m k with|some b=>mr (cN m (AV.namesL (gq P K f args caps++caps))) b|none=>true):=by
   intro l;induction l with
   |nil=>intro _;rfl
   |cons x l G=>
    intro A;simp only[qBa];rw[A x (by simp),G (λk u=>A k (by simp[u]))]
  exact this _ z
 rw[X,vr z];simp only[zi z];rfl;rfl;rfl
theorem Kp{m m':Nat->Option Blk}{f:AV}(h:∀k,k∈cN m f.names\/k∈cN m (AV.namesL args)->m' k=m k):OZ P K nx m' f args=OZ P K nx m f args:=by
 unfold OZ;rw[lD h,lD (f:=kb f) (args:=tu args) (m:=m) (m':=m') (λk j=>by
  rw[fJ,dW]at j;rcases j with j|j<;>(rcases qp j with g|⟨_,g,_⟩<;>cases g))]
theorem yy{m m':Nat->Option Blk}{f:AV}(h:∀k,k∈cN m f.names\/k∈cN m (AV.namesL args)->m' k=m k):nC P K nx m' f args=nC P K nx m f args:=by
 have sel:∀{t:Ty}{cs:List AV},(∀k,k∈cN m (AV.namesL cs)\/k∈cN m (AV.namesL args)->m' k=m k)->selC P K nx m' args t cs=selC P K nx m args t cs:=by
  intro t cs;induction cs with
  |nil=>intro _;rfl
  |cons c cs A=>
   intro h;simp only[selC];rw[lD (m:=m) (m':=m') λk u=>h k (u.imp (qo λj y=>by simp[AV.namesL,y]) id),A λk u=>h k (u.imp (qo λj y=>by simp[AV.namesL,y]) id)]
 unfold nC;split;rename_i i cs;split;rfl;rename_i c r;have z:∀k,k∈cN m (AV.namesL (c::r))\/k∈cN m (AV.namesL args)->m' k=m k:=λk u=>h k (u.imp (qo λj y=>by simpa[AV.names]using y) id);rw[lD (m:=m) (m':=m') λk u=>z k (u.imp (qo λj y=>by simp[AV.namesL,y]) id)];split;split;rw[sel z];rfl;rfl;exact Kp h
def YS:Op->Bool|.call _=>true|.store _ _ _=>true|.box _ _=>true|_=>false
theorem Rl{mt:Bool}{m m':Nat->Option Blk}{o:Op}(h:YS o=true->∀v∈vs,∀k∈cN m v.1.names,m' k=m k):opE P K mt nx m' o vs=opE P K mt nx m o vs:=by
 have A:∀{l:List RV}{k:Nat},k∈AV.namesL (l.map (·.1))->∃v∈l,k∈v.1.names:=by
  intro l k;induction l with
  |nil=>intro h;simp[AV.namesL]at h
  |cons x l G=>
   intro h;simp only[wV,AV.namesL,qI]at h;rcases h with h|h;exact⟨x,by simp,h⟩;obtain⟨v,y,u⟩:=G h;exact⟨v,by simp[y],u⟩
 unfold opE;split<;>first|rfl|skip
 rw[DG (m:=m) (m':=m') λk f=>h rfl _ (by simp) k (eJ f)];rw[um (m:=m) (m':=m') λk f=>h rfl _ (by simp) k (eJ f)];split<;>first|rfl|skip
 refine yy λk f=>?_;rcases f with f|f;exact h rfl _ (by simp) k f;rcases qp f with g|⟨j,L,b,hb,z⟩;obtain⟨v,y,u⟩:=A g;exact h rfl v (by simp[y]) k (eJ u);obtain⟨v,y,u⟩:=A L;exact h rfl v (by simp[y]) k (tZ u hb z)
end Go.Eng
namespace Go.Eng
section
variable {σ:Type} (step:Nat->σ->σ)
def fE(done:Nat->Bool):Nat->σ->σ|0,s=>s|k+1,s=>if done k then step k (fE done k s)else fE done k s
def Uk:Nat->Bool:=λ_=>true
theorem mX{d d':Nat->Bool}:∀(k:Nat) (s:σ),(∀i,i<k->d i=d' i)->fE step d k s=fE step d' k s
 |0,_,_=>rfl|k+1,s,h=>by
  simp only[fE];rw[mX k s (λi hi=>h i Z),h k Z]
variable {step}
structure Orders(step:Nat->σ->σ)(n:Nat)(anc:Nat->Nat->Bool)(Rok U:Nat->σ->Prop)(s0:σ):Prop where
 comm:∀i j,i<j->j<n->anc i j=false->∀s,step j (step i s)=step i (step j s)
 rk1:∀i j,i<j->j<n->anc i j=false->∀s,Rok j (step i s)↔Rok j s
 rk2:∀i j,i<j->j<n->anc i j=false->∀s,Rok i (step j s)↔Rok i s
 u:∀i j,i<n->j<n->i≠j->(i<j\/anc j i=false)->∀s,U j s->U j (step i s)
 lex:∀j,j<n->Rok j (fE step Uk j s0)
 u0:∀j,j<n->U j s0
variable {n:Nat}{anc:Nat->Nat->Bool}{Rok U:Nat->σ->Prop}{s0:σ}
theorem Lc(H:Orders step n anc Rok U s0){done:Nat->Bool}(hd:∀i j,i<j->j<n->anc i j=true->done j=true->done i=true):∀k,k<=n->
  ∃l:List Nat,(∀i∈l,i<k/\done i=false)/\fE step Uk k s0=l.foldl (λs i=>step i s) (fE step done k s0)
 |0,_=>⟨[],by simp,rfl⟩|k+1,hk=>by
  obtain⟨l,h,z⟩:=Lc H hd k Z;cases f:done k with
  |false=>
   refine⟨l++[k],λi hi=>?_,?_⟩;rcases qI.1 hi with g|g;exact⟨by have:=(h i g).1;omega,(h i g).2⟩;simp at g;subst g;exact⟨Nat.lt_succ_self _,f⟩;simp only[fE,Uk,kE,f,wF,xM,qBp,kS,List.foldl_nil];rw[<- z]
  |true=>
   refine⟨l,λi hi=>⟨by have:=(h i hi).1;omega,(h i hi).2⟩,?_⟩;have key:∀(l:List Nat) (s:σ),(∀i∈l,i<k/\done i=false)->step k (l.foldl (λs i=>step i s) s)=l.foldl (λs i=>step i s) (step k s):=by
    intro l;induction l with
    |nil=>intro s _;rfl
    |cons i l A=>
     intro s y;have hi:=y i (by simp);have u:anc i k=false:=by
      cases L:anc i k with
      |false=>rfl|true=>have:=hd i k hi.1 Z L f;rw[hi.2]at this;cases this
     simp only[kS];rw[A (step i s) (λq G=>y q (by simp[G])),H.comm i k hi.1 Z u]
   show fE step Uk (k+1) s0=l.foldl (λs i=>step i s) (fE step done (k+1) s0);have e1:fE step Uk (k+1) s0=step k (fE step Uk k s0):=rfl;have X:fE step done (k+1) s0=step k (fE step done k s0):=by show(if done k then _ else _)=_;rw[if_pos f]
   rw[e1,X,z,key l _ h]
theorem Gv(H:Orders step n anc Rok U s0){done:Nat->Bool}(hd:∀i j,i<j->j<n->anc i j=true->done j=true->done i=true){j:Nat}(hj:j<n)(A:done j=false)
  (L:∀i,i<j->anc i j=true->done i=true):
  Rok j (fE step done n s0)/\U j (fE step done n s0)/\fE step (λi=>if i=j then true else done i) n s0=step j (fE step done n s0):=by
 have f:∀i,j<i->i<n->done i=true->anc j i=false:=λi h1 h2 h3=>by
  cases ha:anc j i with
  |false=>rfl|true=>have:=hd j i h1 h2 ha h3;rw[A]at this;cases this
 refine⟨?_,?_,?_⟩
 ·
  obtain⟨l,h1,h2⟩:=Lc H hd j Z;have hl:=H.lex j hj;rw[h2]at hl;have back:∀(l:List Nat) (s:σ),(∀i∈l,i<j/\done i=false)->Rok j (l.foldl (λs i=>step i s) s)->Rok j s:=by
   intro l;induction l with
   |nil=>intro s _ h;exact h
   |cons i l G=>
    intro s hl h;have hi:=hl i (by simp);have hna:anc i j=false:=by
     cases ha:anc i j with
     |false=>rfl|true=>have:=L i hi.1 ha;rw[hi.2]at this;cases this
    have:=G (step i s) (λq hq=>hl q (by simp[hq])) h;exact(H.rk1 i j hi.1 hj hna s).1 this
  have h3:Rok j (fE step done j s0):=back l _ h1 hl;have fwd:∀k,j<=k->k<=n->Rok j (fE step done k s0):=by
   intro k hjk;induction k with
   |zero=>
     intro _;have:j=0:=by omega
     subst this;exact h3
   |succ k G=>
    intro hk;rcases wW k j with z|hge;have:j=k+1:=by omega
    subst this;exact h3;have g:=G hge Z;simp only[fE];split;rename_i y;have X:j≠k:=λe=>by subst e;rw[A]at y;cases y
    exact(H.rk2 j k Z Z (f k Z Z y) _).2 g;exact g
  exact fwd n Z (qL _)
 .have all:∀k,k<=n->U j (fE step done k s0):=by
   intro k;induction k with
   |zero=>intro _;exact H.u0 j hj
   |succ k G=>
    intro hk;have g:=G Z;simp only[fE];split;rename_i y;have X:k≠j:=λe=>by subst e;rw[A]at y;cases y
    refine H.u k j Z hj X ?_ _ g;rcases wW k j with h|h;exact .inl h;exact .inr (f k Z Z y);exact g
  exact all n (qL _)
 .have low:∀k,k<=j->fE step (λi=>if i=j then true else done i) k s0=fE step done k s0:=λk hk=>
   mX step k s0 (λi hi=>if_neg Z)
  have all:∀k,j+1<=k->k<=n->fE step (λi=>if i=j then true else done i) k s0=step j (fE step done k s0):=by
   intro k hjk;induction k with
   |zero=>omega|succ k G=>
    intro hk;rcases wW j k with z|hge;have g:=G z Z;have hkj:(k=j)=False:=by simp;omega
    simp only[fE,hkj,xM];rw[g];split;rename_i y;exact H.comm j k z Z (f k z Z y) _;rfl;have e:k=j:=by omega
    subst e;simp only[fE,kE,A,wF,xM];rw[low k (qL _)]
  exact all n Z (qL _)
end
end Go.Eng
namespace Go.Eng
open Go
abbrev Any:Machine->Prop:=λ_=>True
def At(P:Program)(ro:Option Nat)(c:Code)(Q:Exit->Act->World->Prop)(a:Act)(w:World):Prop:=
 ∀(b:Frame) (k:List Item) (cs:List Frame),b.roundOf=ro->(P.funcs[b.fn]?).isSome=true->
  ∃e a' w',Q e a' w'/\ArrivesIn Any P (lone (b.atR a (.code c::k)) cs w) b k cs e a' w'
theorem toAny{I:Machine->Prop}{P:Program}{m m':Machine}(h:StepsIn I P m m'):StepsIn Any P m m':=h.mono λ_ _=>trivial
theorem gm{P:Program}{m m':Machine}(h:step P m=.next m'):StepsIn Any P m m':=.one trivial h
theorem Wl{P:Program}{m m':Machine}(h:StepsIn Any P m m'):StepsIn (Machine.fenced P Fence.wide) P m m':=h.mono λ_ _=>fenced_wide P _
theorem Pm{I:Machine->Prop}{P:Program}{m:Machine}{b:Frame}{k:List Item}{cs:List Frame}{e:Exit}{a:Act}{w:World}(h:ArrivesIn I P m b k cs e a w):ArrivesIn Any P m b k cs e a w:=by
 cases e with
 |normal=>exact toAny h|exit id=>exact⟨λk' y=>toAny (h.1 k' y),λu y=>let⟨f,j,z⟩:=h.2 u y;⟨f,j,toAny z⟩⟩|goto l=>exact⟨λk' y=>toAny (h.1 k' y),λu y=>let⟨f,j,z⟩:=h.2 u y;⟨f,j,toAny z⟩⟩|ret=>exact⟨λu=>let⟨t,j⟩:=h.1 u;⟨t,toAny j⟩,λu=>let⟨t,j⟩:=h.2 u;⟨t,toAny j⟩⟩|panic A=>exact let⟨t,j⟩:=h;⟨t,toAny j⟩|outgrown=>exact h
section
variable {P:Program}{ro:Option Nat}{Q:Exit->Act->World->Prop}{a:Act}{w:World}
theorem Ua{F:Fence}{n:Nat}{c:Code}(j:F.round=ro)(u:∀f,F.fn f)(hd:F.depth=none)(h:c.wpIn F n P Q a w):At P ro c Q a w:=λb k cs hb _=>
 let⟨e,y,w',q,r⟩:=h b k cs (hb.trans j.symm) (u _) (λd g=>by rw[hd]at g;cases g)
 ⟨e,y,w',q,Pm r⟩
theorem Jm{m:Machine}{b:Frame}{x:Item}{k:List Item}{cs:List Frame}{e:Exit}{a:Act}{w:World}(f:x.plain=true)(j:e≠.normal)(h:ArrivesIn Any P m b (x::k) cs e a w):ArrivesIn Any P m b k cs e a w:=
 .pass f (λ_ _=>.inl j) h
theorem xF{x y:Code}(h:At P ro x (Exit.then (At P ro y Q) Q) a w):At P ro (.seq x y) Q a w:=λb k cs hb u=>by
 obtain⟨e,a1,A,j,r⟩:=h b (.code y::k) cs hb u;have s0:StepsIn Any P (lone (b.atR a (.code (.seq x y)::k)) cs w) (lone (b.atR a (.code x::.code y::k)) cs w):=gm stepR_seq;by_cases f:e=.normal;subst f;obtain⟨L,X,z,G,r2⟩:=j b k cs hb u;exact⟨L,X,z,G,.of_steps (s0.trans r) r2⟩;refine⟨e,a1,A,?_,.of_steps s0 (Jm rfl f r)⟩;cases e<;>first|exact(f rfl).elim|exact j
theorem Ud{c:Operand}{x y:Code}{t:Bool}(hc:a.eval c=.bool t)(A:t=true->At P ro x Q a w)(z:t=false->At P ro y Q a w):At P ro (.cond c x y) Q a w:=λb k cs hb u=>by
 have h:At P ro (if t then x else y) Q a w:=by cases t with|true=>exact A rfl|false=>exact z rfl
 obtain⟨e,G,f,j,r⟩:=h b k cs hb u;exact⟨e,G,f,j,.of_steps (gm (stepR_cond hc)) r⟩
theorem ud{id:Nat}{c:Code}(h:At P ro c (Exit.inBlock id Q) a w):At P ro (.block id c) Q a w:=λb k cs hb hf=>by
 obtain⟨e,y,u,f,r⟩:=h b (.inBlock id::k) cs hb hf;have s0:StepsIn Any P (lone (b.atR a (.code (.block id c)::k)) cs w) (lone (b.atR a (.code c::.inBlock id::k)) cs w):=gm stepR_block;cases e with
 |normal=>exact⟨.normal,y,u,f,s0.trans (StepsIn.trans r (gm stepR_inBlock))⟩|exit j=>
  by_cases G:j=id;replace f:Q .normal y u:=by simpa only[Exit.inBlock,G,kE]using f
  exact⟨.normal,y,u,f,s0.trans (r.1 k (by simp[exitTo,G]))⟩;replace f:Q (.exit j) y u:=by simpa only[Exit.inBlock,G,xM]using f
  have A:exitTo j (.inBlock id::k)=exitTo j k:=by simp[exitTo,Ne.symm G]
  exact⟨.exit j,y,u,f,λk' z=>s0.trans (r.1 k' (A.trans z)),λg z=>let⟨L,X,g2⟩:=r.2 g (A.trans z);⟨L,X,s0.trans g2⟩⟩
 |goto l=>
  have A:gotoIn l (.inBlock id::k)=gotoIn l k:=by simp[gotoIn]
  exact⟨.goto l,y,u,f,λk' z=>s0.trans (r.1 k' (A.trans z)),λg z=>let⟨L,X,g2⟩:=r.2 g (A.trans z);⟨L,X,s0.trans g2⟩⟩
 |ret=>exact⟨_,y,u,f,.of_steps s0 r⟩|panic ch=>exact⟨_,y,u,f,.of_steps s0 r⟩|outgrown=>exact⟨_,y,u,f,.of_steps s0 r⟩
theorem Nv{c:Code}(h:At P ro c (λe a w=>match e with|.goto _=>False|e=>Q e a w) a w):At P ro (.scope c) Q a w:=λb k cs hb L=>by
 obtain⟨e,y,u,f,r⟩:=h b (.inScope c::k) cs hb L;have s0:StepsIn Any P (lone (b.atR a (.code (.scope c)::k)) cs w) (lone (b.atR a (.code c::.inScope c::k)) cs w):=gm (step_lone_go (by simp[stepG,stepG.exec,Frame.atR]));cases e with
 |normal=>exact⟨.normal,y,u,f,s0.trans (StepsIn.trans r (gm (step_lone_go (by simp[stepG,stepG.exec,Frame.atR]))))⟩|exit j=>
  have A:exitTo j (.inScope c::k)=exitTo j k:=by simp[exitTo]
  exact⟨.exit j,y,u,f,λk' z=>s0.trans (r.1 k' (A.trans z)),λg z=>let⟨G,X,g2⟩:=r.2 g (A.trans z);⟨G,X,s0.trans g2⟩⟩
 |goto l=>exact f.elim|ret=>exact⟨_,y,u,f,.of_steps s0 r⟩|panic ch=>exact⟨_,y,u,f,.of_steps s0 r⟩|outgrown=>exact⟨_,y,u,f,.of_steps s0 r⟩
theorem at_loop{c:Code}(I:Nat->Act->World->Prop)(n0:Nat)(h0:I n0 a w)(round:∀n a w,I n a w->At P ro c (Exit.then (λj w'=>∃u,u<n/\I u j w') Q) a w):At P ro (.loop c) Q a w:=λb k cs hb G=>by
 have main:∀(n:Nat),∀m,m<=n->∀a w,I m a w->∃e j w',Q e j w'/\ArrivesIn Any P (lone (b.atR a (.code c::.inLoop c::k)) cs w) b k cs e j w':=by
  intro n;induction n with
  |zero=>
   intro m hm a w A;obtain⟨e,z,y,f,r⟩:=round m a w A b (.inLoop c::k) cs hb G;by_cases h:e=.normal;subst h;obtain⟨u,L,_⟩:=f;exact absurd L Z;refine⟨e,z,y,?_,Jm rfl h r⟩;cases e<;>first|exact(h rfl).elim|exact f
  |succ n ih=>
   intro m hm a w A;obtain⟨e,z,y,f,r⟩:=round m a w A b (.inLoop c::k) cs hb G;by_cases h:e=.normal;subst h;obtain⟨u,L,h2⟩:=f;obtain⟨e2,a2,X,q2,r2⟩:=ih u Z z y h2;exact⟨e2,a2,X,q2,.of_steps (StepsIn.trans r (gm stepR_inLoop)) r2⟩;refine⟨e,z,y,?_,Jm rfl h r⟩;cases e<;>first|exact(h rfl).elim|exact f
 obtain⟨e,j,w',f,r⟩:=main n0 n0 (qL _) a w h0;exact⟨e,j,w',f,.of_steps (gm stepR_loop) r⟩
end
def Yt(P:Program)(l:Nat)(R:Ending->World->Prop):Exit->Act->World->Prop|.panic ch,a,w=>a.defers=[]/\R (.panicked ch) w|e,a,w=>roundPost P l R e a w
theorem Lh{P:Program}{l:Nat}{f:FuncId}{tmps:Array Value}{assign body:Code}{w:World}{R:Ending->World->Prop}(hf:(P.funcs[f]?).isSome=true)
  (h:At P (some l) assign (Exit.then (λa1 w1=>∃w2,(Instr.beginRound l).run P w1=.ok () w2/\At P (some l) body (Yt P l R) a1 w2) (λ_ _ _=>False)) {tmps:=tmps,defers:=[]} w):
  RoundIn Fence.wide 0 P l f tmps assign body w R:=by
 refine⟨trivial,λc cs _=>?_⟩;obtain⟨b,hb⟩:∃b:Frame,b={ (default:Frame)with fn:=f,kind:=.normal,roundOf:=some l}:=⟨_,rfl⟩;have u:b.roundOf=some l:=by rw[hb]
 have G:b.fn=f:=by rw[hb]
 have e0:Frame.round l f tmps assign body .normal=b.atR {tmps:=tmps,defers:=[]} [.code assign,.beginRound,.code body]:=by rw[hb];simp[Frame.round,Frame.atR]
 obtain⟨e,a1,w1,hq,r⟩:=h b [.beginRound,.code body] (c::cs) u (by rw[G];exact hf);rw[<- e0]at r;cases e<;>first|exact hq.elim|skip
 obtain⟨w2,hbr,L⟩:=hq;have s1:StepsIn Any P (lone (Frame.round l f tmps assign body .normal) (c::cs) w) (lone (b.atR a1 [.code body]) (c::cs) w2):=StepsIn.trans r (gm (stepR_beginRound u hbr));obtain⟨e2,a2,w3,X,r2⟩:=L b [] (c::cs) u (by rw[G];exact hf);have done:∀{v:Value}{z:World}{m:Machine},StepsIn Any P (lone (b.atR a1 [.code body]) (c::cs) w2) m->step P m=.next (lone (c.finish v) cs z)->R (.returned v) z->
   ∃e w',R e w'/\ComesIn (Machine.fenced P Fence.wide) P (lone (Frame.round l f tmps assign body .normal) (c::cs) w) (match e with|.returned v=>lone (c.finish v) cs w'|.panicked chain=>lone (c.raise chain) cs w'|.outgrown=>lone c cs w') e:=
  λ{v z _} g1 g2 g3=>⟨.returned v,z,g3,Wl (s1.trans (g1.trans (gm g2)))⟩
 cases e2 with
 |normal=>
  obtain⟨v,z,j,y⟩:=X;exact done r2 (stepR_round_end u (by rw[hb]) j) y
 |ret=>
  obtain⟨v,z,j,y⟩:=X;obtain⟨k1,A⟩:=r2.2 (by rw[u];rfl);exact done A (stepR_round_ret u (by rw[hb]) j) y
 |exit id=>
  obtain⟨v,z,j,y⟩:=X;obtain⟨k1,hk,A⟩:=r2.2 (by rw[u];rfl) rfl;exact done A (stepR_round_exit u (by rw[hb]) hk j) y
 |goto t=>
  obtain⟨v,z,j,y⟩:=X;obtain⟨k1,hk,A⟩:=r2.2 (by rw[u];rfl) rfl;exact done A (stepR_round_goto u (by rw[hb]) hk j) y
 |panic ch=>
  obtain⟨hd,y⟩:=X;obtain⟨todo,A⟩:=r2;refine⟨.panicked ch,w3,y,Wl (s1.trans (A.trans (gm (step_leave_panicked ⟨rfl,hd,?_⟩))))⟩;have:(P.funcs[b.fn]?).isSome=true:=by rw[G];exact hf
  exact qAf.1 this
 |outgrown=>exact X.elim
theorem at_range{P:Program}{ro:Option Nat}{g:Operand}{ps:Array Tmp}{assign body:Code}{Q:Exit->Act->World->Prop}{a:Act}{w:World}
  (h:∀fn,(P.funcs[fn]?).isSome=true->∃(l:Nat) (mark:List Deferred) (w1:World) (d:Deferred) (j:World) (f:FuncId) (args:Array Value) (w2:World),
   (Instr.enterLoop fn a.tmps ps assign body ro).run P w=.ok (l,mark) w1/\(resolve a.eval (rangeCall g l) 0).run P w1=.ok d j/\(invoke d.target d.args).run P j=.ok (.enter f args) w2/\
   CallsIn Fence.wide 0 P f args w2 λe y=>match e with
    |.returned _=>∃jump z,(Instr.endLoop l).run P y=.ok jump z/\(match jump with|none=>Q .normal {a with defers:=mark++a.defers} z|some c=>At P ro c Q {a with defers:=mark++a.defers} z)
    |.panicked ch=>Q (.panic ch) {a with defers:=mark++a.defers} y
    |.outgrown=>False):At P ro (.rangeFunc g ps assign body) Q a w:=λb k cs hb hf=>by
 obtain⟨l,mark,w1,d,j,f,args,w2,he,G,X,_,u⟩:=h b.fn hf;rw[<- hb]at he;have s0:=gm (stepR_rangeFunc (P:=P) (b:=b) (a:=a) (k:=k) (cs:=cs) (w:=w) he G X);obtain⟨e,y,fr,hR,A,_,L⟩:=u (b.atR {a with defers:=mark++a.defers} (.inRangeFunc l::k)::cs) (room_wide _);cases e with
 |outgrown=>exact hR.elim|returned v=>
  obtain⟨jump,z,hend,hj⟩:=hR;have s1:StepsIn Any P (lone fr (b.atR {a with defers:=mark++a.defers} (.inRangeFunc l::k)::cs) y) (lone (b.atR {a with defers:=mark++a.defers} (.endRangeFunc l::k)) cs y):=by
   rw[<- finish_atR_inRangeFunc l v];exact gm (step_leave_returned L)
  have s2:=(s0.trans (toAny A)).trans (s1.trans (gm (stepR_endRangeFunc hend)));cases jump with
  |none=>exact⟨.normal,_,z,hj,s2⟩|some c=>
   obtain⟨e',a'',w5,hq,r⟩:=hj b k cs hb hf;exact⟨e',a'',w5,hq,.of_steps s2 r⟩
 |panicked ch=>
  refine⟨.panic ch,_,y,hR,.inRangeFunc l::k,(s0.trans (toAny A)).trans (gm ?_)⟩;rw[<- Frame.raise_atR];exact step_leave_panicked L
theorem Db{P:Program}{f:FuncId}{fn:Func}{c:Code}{args:Array Value}{w:World}{R:Ending->World->Prop}(hf:P.funcs[f]?=some fn)(hb:fn.body=some c)
  (h:At P none c (bodyPostM Fence.wide 0 P fn R) {tmps:=args++Array.replicate (fn.ntmps-args.size) undef,defers:=[]} w):CallsIn Fence.wide 0 P f args w R:=by
 refine⟨trivial,λcs hr=>?_⟩;obtain⟨b,L⟩:∃b:Frame,b={ (default:Frame)with fn:=f,kind:=.normal,roundOf:=none}:=⟨_,rfl⟩;have u:b.fn=f:=by rw[L]
 have hk:b.kind=.normal:=by rw[L]
 have y:b.roundOf=none:=by rw[L]
 have e0:Frame.enter P f args .normal=b.atR {tmps:=args++Array.replicate (fn.ntmps-args.size) undef,defers:=[]} [.code c]:=by rw[L];simp[Frame.enter,Frame.atR,hf,hb]
 obtain⟨e,A,w',z,r⟩:=h b [] cs y (by rw[u,hf];rfl);rw[<- e0]at r;have out:∀(m:FrameMode) (j:List Item),m≠.run->LeavesInM Fence.wide 0 P fn A.tmps R A.defers m w'->StepsIn Any P (lone (Frame.enter P f args .normal) cs w) (lone {b.atR A j with mode:=m} cs w')->
   ∃e w' fr,R e w'/\ComesIn (Machine.fenced P Fence.wide) P (lone (Frame.enter P f args .normal) cs w) (lone fr cs w') e/\fr.fn=f/\fr.leaving P w' e:=λm j _ hl G=>by
  obtain⟨e',X,fr',hR',g1,g2,g3⟩:=leaves_stepsInM (F:=Fence.wide) (n:=0) A.defers m w' {b.atR A j with mode:=m} cs rfl rfl rfl (by rw[show({b.atR A j with mode:=m}:Frame).fn=f from u];exact hf) hk trivial hr hl;exact⟨e',X,fr',hR',ComesIn.of_steps (Wl G) g1,g2.trans u,g3⟩
 cases e with
 |normal=>exact out .returning [] (by simp) z (StepsIn.trans r (gm (stepR_end y)))|ret=>
  obtain⟨j,G⟩:=r.1 y;exact out .returning j (by simp) z G
 |panic ch=>
  obtain⟨j,G⟩:=r;exact out (.panicking ch) j (by simp) z G
 |exit id=>exact z.elim|goto l=>exact z.elim|outgrown=>exact⟨.outgrown,w',b,z,r.resolve_left (by rw[hk];simp),u,trivial⟩
end Go.Eng
namespace Go.Eng
open Go.RowKit
structure Rec where
 dst:Option Tmp
 val:AV
 upd:List (Nat×Blk)
 new:Option Nat
 reads:List Tmp
 fp:List Nat
 need:List Ob
def ew(r:Rec)(s:Sig):Sig:=⟨upT s.T r.dst r.val,upM s.m r.upd,s.sv⟩
def I6:AV->AV|.pin _ a=>a|a=>a
variable {C:Ctx}{P:Program}
theorem PX{a:AV}{v:Value}(h:a.rel P C v):(I6 a).rel P C v:=by
 unfold I6;split;exact h.2;exact h
theorem I5(a:AV):(I6 a).names=a.names:=by
 unfold I6;split<;>simp[AV.names]
def evT(G:List (Nat×AV))(T:Nat->AV):Operand->AV
 |.tmp t=>I6 (T t)|.const v=>GH v|.global g=>match G.lookup g with
  |some a=>a|none=>.val (.pointer (some ⟨g,0,none⟩))
 |.func f=>.fn f []
variable {k:Nat}
theorem vu{β:Type}{l:List (Nat×β)}{b:β}(h:l.lookup k=some b):(k,b)∈l:=by
 induction l with
 |nil=>simp at h|cons p l f=>
  obtain⟨p1,p2⟩:=p;simp only[List.lookup]at h;split at h;rename_i e;cases h;have:k=p1:=by simpa using e
  subst this;simp;exact wX _ (f h)
variable {S:Base}{D:Nat->Prop}{a:Act}{w:World}{E:Nat->Ent}{σ:Sig}
theorem dX(h:aL S σ a w D E)(x:Operand):(evT S.G σ.T x).rel S.P ⟨w,D,σ.m,E⟩ (a.eval x):=by
 cases x with
 |tmp t=>exact PX (h.tm t)|const v=>exact GG v|global g=>
  simp only[evT];split;rename_i av j;exact(h.gl _ (vu j)).2.1;exact rfl
 |func f=>exact⟨[],rfl,rfl⟩
variable {G:List (Nat×AV)}
theorem Ti(u:∀p∈G,p.2.names=[]){T:Nat->AV}(h:∀t,k∉(T t).names)(x:Operand):k∉(evT G T x).names:=by
 cases x with
 |tmp t=>simp only[evT,I5];exact h t|const v=>cases v<;>simp[evT,GH,AV.names]
 |global g=>
  simp only[evT];split;rename_i av j;rw[u _ (vu j)];simp;simp[AV.names]
 |func f=>simp[evT,AV.names,AV.namesL]
def eqW(b:Bool):Bool->Bool|true=>b|false=>!b
def Py(T:Nat->AV)(ops:Array Oper):Option (Nat×Bool)->Option Bool
 |none=>some true|some (k,want)=>match(ops[k]?).bind (·.dst)with
  |some d=>match T d with
   |.dat .bool b=>some (eqW b want)|.grd g (.dat .bool b)=>some (g&&eqW b want)|_=>none
  |none=>none
variable {g:Bool}{ops:Array Oper}{o:Oper}
theorem CY(h:aL S σ a w D E)(j:Py σ.T ops o.guard=some g):
  Region.wanted o (yielded ops a.tmps)=g:=by
 unfold Py at j;unfold Region.wanted;split at j;rename_i z;cases j;rw[z];rename_i k u z;rw[z];simp only;split at j;rename_i d hd;have L:yielded ops a.tmps k=match a.tmps[d]? with|some (.bool b)=>some b|_=>none:=by
  unfold yielded;rw[hd];rfl
 rw[L];have f:=h.tm d;split at j;rename_i b G;cases j;rw[G]at f;simp only[AV.rel,ae,vG,vY]at f;have:a.tmps[d]?=some (.bool b):=by
  rw[qP]at f;cases y:a.tmps[d]? with
  |none=>rw[y]at f;cases f
  |some v=>rw[y]at f;simp at f;rw[f]
 rw[this];simp only[];cases b<;>cases u<;>rfl;rename_i g' b G;cases j;rw[G]at f;obtain⟨h1,X⟩:=f;cases g' with
 |true=>
  have f:=h1 rfl;simp only[AV.rel,ae,vG,vY]at f;have:a.tmps[d]?=some (.bool b):=by
   rw[qP]at f;cases y:a.tmps[d]? with
   |none=>rw[y]at f;cases f
   |some v=>rw[y]at f;simp at f;rw[f]
  rw[this];simp only[];cases b<;>cases u<;>rfl
 |false=>
  have A:=X rfl;rw[qP]at A;cases y:a.tmps[d]? with
  |none=>rfl|some v=>
   rw[y]at A;simp at A;subst A;rfl
 cases j;cases j
def ug(g:Bool):AV->AV×List Ob|.grd g' v=>(v,[g=true->g'=true])|v=>(v,[])
theorem nL{a:AV}{v:Value}(j:g=true)(f:∀q∈(ug g a).2,q)(h:a.rel P C v):(ug g a).1.rel P C v:=by
 cases a<;>first
  |exact h
  |exact h.1 ((f _ (qX.2 rfl)) j)
theorem US(g:Bool)(a:AV):(ug g a).1.names=a.names:=by
 unfold ug;split;simp[AV.names];rfl
def aCr(x:Bool):AV->AV->Option AV|.dat t u,.dat t' v=>if h:t'=t then some (.dat t (bif x then u else h▸v))else none|_,_=>none
def iA(g:Bool)(c a b:AV):Option Core:=
 match ug g c with
 |(.dat .bool x,nc)=>
  match aCr x (ug (g&&x) a).1 (ug (g&&!x) b).1 with
  |some v=>some {need:=nc++(ug (g&&x) a).2++(ug (g&&!x) b).2,val:=v}|none=>none
 |_=>none
theorem VZ{c a b:AV}{core:Core}{u y j:Value}(G:g=true)(hc:iA g c a b=some core)(A:∀q∈core.need,q)
  (h0:c.rel P C u) (h1:a.rel P C y) (h2:b.rel P C j):
  core.upd=[]/\core.new=none/\∃r,(do pure (Next.value (if <- asBool u then y else j)):Sem Next).run P w=.ok (.value r) w/\core.val.rel P C r:=by
 unfold iA at hc;split at hc;rename_i x nc L;split at hc;rename_i vv h;cases hc;have z:=nL G (λq f=>A q (by rw[L]at f;simp[f])) h0;rw[L]at z;simp only[AV.rel,ae,vG,vY]at z;subst z;refine⟨rfl,rfl,if x=true then y else j,by simp[asBool],?_⟩;unfold aCr at h;split at h;rename_i t p t' q hp f;split at h;rename_i X;subst X;cases h;cases x with
 |true=>
  have:=nL (g:=g&&true) (by rw[G];rfl) (λq f=>A q (qI.2 (.inl (qI.2 (.inr f))))) h1;rw[hp]at this;simpa using this
 |false=>
  have:=nL (g:=g&&!false) (by rw[G];rfl) (λq f=>A q (qI.2 (.inr f))) h2;rw[f]at this;simpa using this
 cases h;cases h;cases hc;cases hc
def P0:Operand->List Tmp|.tmp t=>[t]|_=>[]
def YL:Op->Bool|.pick _ _ _=>true|_=>false
def OS(P:Program)(K:Kt)(mt:Bool)(nx:Nat)(m:Nat->Option Blk)(g:Bool)(op:Op)(raw:List AV):Option Core:=
 match YL op,raw with
 |true,[c,a,b]=>iA g c a b|true,_=>none|false,raw=>match opE P K mt nx m op (raw.map λv=>((ug g v).1,da m (ug g v).1))with
  |some c=>some {c with need:=(raw.flatMap λv=>(ug g v).2)++c.need}
  |none=>none
def aDC:AV->List Nat|.buf nm _=>[nm]|.view nm _=>[nm]|.ptr nm _ _ _=>[nm]|.row nm _ _ _=>[nm]|.rptr nm _ _ _ _=>[nm]|_=>[]
def UB(m:Nat->Option Blk)(o:Op)(v:AV):List Nat:=if YS o=true then cN m v.names else aDC v
theorem NI{v:AV}(h:k∈aDC v):k∈v.names:=by
 cases v<;>first|exact h|cases h
theorem Zo{m:Nat->Option Blk}{o:Op}{v:AV}(h:k∈aDC v):k∈UB m o v:=by
 unfold UB;split;exact eJ (NI h);exact h
def tV(ops:Array Oper):Option (Nat×Bool)->List Tmp
 |none=>[]|some (k,_)=>match(ops[k]?).bind (·.dst)with
  |some d=>[d]|none=>[]
def Jz(o:Oper)(g:Bool)(reads:List Tmp)(fp:List Nat)(c:Core):Option Rec:=
 match o.guard with
 |none=>some {dst:=o.dst,val:=c.val,upd:=c.upd,new:=c.new,reads:=reads,fp:=fp,need:=c.need}|some _=>match c.upd,c.new with
  |[],none=>some {dst:=o.dst,val:=.grd g c.val,upd:=[],new:=none,reads:=reads,fp:=fp,need:=c.need.map (Ob.under (g=true))}|_,_=>none
def gY(P:Program)(G:List (Nat×AV))(K:Kt)(mt:Bool)(ops:Array Oper)(nx:Nat)(s:Sig)(o:Oper):Option Rec:=
 match Py s.T ops o.guard with
 |some g=>match OS P K mt nx s.m g o.op (o.op.operands.toList.map (evT G s.T))with
  |some c=>Jz o g (o.op.operands.toList.flatMap P0++tV ops o.guard) (o.op.operands.toList.flatMap λx=>UB s.m o.op (ug g (evT G s.T x)).1) c|none=>none
 |none=>none
theorem uv{K:Kt}{mt:Bool}{nx:Nat}{s s':Sig}{r:Rec}(h:gY P G K mt ops nx s o=some r)
  (h1:∀t∈r.reads,s'.T t=s.T t) (h2:∀nm∈r.fp,s'.m nm=s.m nm):gY P G K mt ops nx s' o=some r:=by
 have hr:∃g,Py s.T ops o.guard=some g/\r.reads=o.op.operands.toList.flatMap P0++tV ops o.guard/\r.fp=o.op.operands.toList.flatMap λx=>UB s.m o.op (ug g (evT G s.T x)).1:=by
  unfold gY at h;split at h;rename_i g hg;split at h;rename_i c hc;refine⟨g,hg,?_⟩;unfold Jz at h;split at h;cases h;exact⟨rfl,rfl⟩;split at h;cases h;exact⟨rfl,rfl⟩;cases h;cases h;cases h
 obtain⟨g,hg,A,hfp⟩:=hr;have e1:∀x∈o.op.operands.toList,evT G s'.T x=evT G s.T x:=by
  intro x f;cases x with
  |tmp t=>exact yF I6 (h1 t (by rw[A];exact qI.2 (.inl (xA.2 ⟨_,f,by simp[P0]⟩))))|_=>rfl
 have e2:Py s'.T ops o.guard=Py s.T ops o.guard:=by
  unfold Py;cases X:o.guard with
  |none=>rfl|some p=>
   obtain⟨k,want⟩:=p;simp only;cases hd:(ops[k]?).bind (·.dst)with
   |none=>rfl|some d=>
    simp only;rw[h1 d (by rw[A];exact qI.2 (.inr (by simp[tV,X,hd])))]
 have e3:o.op.operands.toList.map (evT G s'.T)=o.op.operands.toList.map (evT G s.T):=zY e1;have u:∀x∈o.op.operands.toList,∀nm∈UB s.m o.op (ug g (evT G s.T x)).1,s'.m nm=s.m nm:=λx f nm j=>
  h2 nm (by rw[hfp];exact xA.2 ⟨x,f,j⟩)
 have e4:∀x∈o.op.operands.toList,∀v,v=(ug g (evT G s.T x)).1->da s'.m v=da s.m v:=by
  intro x f v z;have:∀nm∈aDC v,s'.m nm=s.m nm:=λnm j=>u x f nm (by rw[<- z];exact Zo j);cases v<;>first|rfl|exact this _ (qX.2 rfl)
 have e5:OS P K mt nx s'.m g o.op (o.op.operands.toList.map (evT G s.T))=OS P K mt nx s.m g o.op (o.op.operands.toList.map (evT G s.T)):=by
  unfold OS;split;rfl;rfl;have:((o.op.operands.toList.map (evT G s.T)).map λv=>((ug g v).1,da s'.m (ug g v).1))=((o.op.operands.toList.map (evT G s.T)).map λv=>((ug g v).1,da s.m (ug g v).1)):=by
   apply zY;intro v z;obtain⟨x,f,rfl⟩:=vW.1 z;rw[e4 x f _ rfl]
  rw[this,Rl (m:=s.m) (m':=s'.m)];intro hd v z k L;obtain⟨y,hy,rfl⟩:=vW.1 z;obtain⟨x,f,rfl⟩:=vW.1 hy;exact u x f k (by unfold UB;rw[if_pos hd];exact L)
 have e6:(o.op.operands.toList.flatMap λx=>UB s'.m o.op (ug g (evT G s'.T x)).1)=o.op.operands.toList.flatMap λx=>UB s.m o.op (ug g (evT G s.T x)).1:=by
  simp only[List.flatMap_def];congr 1;apply zY;intro x f;rw[e1 x f];unfold UB;split;rename_i hd;exact xo λk L=>u x f k (by unfold UB;rw[if_pos hd];exact eJ L);rfl
 unfold gY at h ⊢;rw[e2,e3];rw[hg]at h ⊢;simp only at h ⊢;rw[e5,e6];exact h
def Base.F(S:Base):Fence:=match S.rd with|none=>Fence.wide|some l=>Fence.wide.inRound l
theorem Base.F_fn(S:Base)(f:FuncId):S.F.fn f:=by unfold Base.F;split<;>trivial
theorem Base.F_depth(S:Base):S.F.depth=none:=by unfold Base.F;split<;>rfl
theorem Base.F_round(S:Base):S.F.round=S.rd:=by unfold Base.F;split<;>(rename_i h;rw[h];rfl)
theorem Base.callsIn{S:Base}{n:Nat}{P:Program}{f:FuncId}{args:Array Value}{w:World}{R:Ending->World->Prop}(h:Calls P f args w R):CallsIn S.F n P f args w R:=by
 unfold Base.F;split;exact callsIn_wide.2 h;exact CallsIn.inRound _ (callsIn_wide.2 h)
theorem pu{K:Kt}(hK:ay S.P S.G K){mt:Bool}{nx i:Nat}{r:Rec}{Q:Exit->Act->World->Prop}(ho:ops[i]?=some o)
  (hs:Sim S σ a w) (hd:∀d,o.dst=some d->d<S.N) (hr:gY S.P S.G K mt ops nx σ o=some r) (hn:∀q∈r.need,q) (hu:∀k,r.new=some k->Unm k σ):
  wpOpIn S.F 0 S.P ops Q i (λa' w'=>Sim S (ew r σ) a' w') a w:=by
 obtain⟨D,E,h⟩:=hs;unfold gY at hr;split at hr;case h_2=>cases hr
 rename_i g hg;split at hr;case h_2=>cases hr
 rename_i c hc;unfold wpOpIn;rw[ho];simp only;have hw:=CY (o:=o) h hg;have run:g=true->∀(hn':∀q∈c.need,q) (hu':∀k,c.new=some k->Unm k σ),Yields S ⟨σ.T,upM σ.m c.upd,σ.sv⟩ a c.val ((execOp a.eval o).run S.P w):=by
  intro hg1 hn' hu';unfold OS at hc;split at hc
  .rename_i c0 a0 b0 hp hraw;obtain⟨dst,op,ty,pos,after,guard⟩:=o;cases op<;>first|(cases hp;done)|skip
   rename_i oc oa ob;simp only[Op.operands,wV,qBf,vG,vY]at hraw;obtain⟨rfl,rfl,rfl⟩:=hraw;obtain⟨h1,h2,rr,h3,h4⟩:=VZ (w:=w) hg1 hc hn' (dX h oc) (dX h oa) (dX h ob);rw[h1];exact .inl ⟨rr,w,h3,D,E,h,h4⟩
  cases hc;split at hc;rename_i c' hop;cases hc;have hrel:AV.relL S.P ⟨w,D,σ.m,E⟩ (((o.op.operands.toList.map (evT S.G σ.T)).map λv=>((ug g v).1,da σ.m (ug g v).1)).map (·.1)) (o.op.operands.toList.map a.eval):=by
   refine AV.relL_mk (by simp) λj av u h1 h2=>?_;simp only[qBx,qQ,gB]at h1 h2;obtain⟨x,hx,rfl⟩:=h1;obtain⟨x',hx',rfl⟩:=h2;rw[hx]at hx';cases hx';refine nL hg1 (λq hq=>hn' q ?_) (dX h x);simp only[qI,xA];exact .inl ⟨evT S.G σ.T x,vW.2 ⟨x,qZ hx,rfl⟩,hq⟩
  refine aCs (c:=c') hK h hrel (λv hv=>?_) hop (λq hq=>hn' q (qI.2 (.inr hq))) (λk hk=>⟨hu' k hk,λv hv=>?_⟩);obtain⟨x,_,rfl⟩:=vW.1 hv;rfl;obtain⟨x,hx,rfl⟩:=vW.1 hv;obtain⟨y,_,rfl⟩:=vW.1 hx;simp only;rw[US];exact Ti (λp hp=>(h.gl p hp).1) (hu' k hk).2.1 y;cases hc
 have fin:∀x v (w':World),r.upd=c.upd->Outcome S ⟨σ.T,upM σ.m c.upd,σ.sv⟩ a x v w'->(∀C:Ctx,x.rel S.P C v->r.val.rel S.P C v)->r.dst=o.dst->Sim S (ew r σ) (a.put o.dst v) w':=by
  intro x v w' z hout X A;obtain⟨D',E',q1,q2⟩:=hout;have:=q1.put (d:=o.dst) (v:=v) (x:=r.val) (λt ht=>hd t ht) (X _ q2);refine⟨D',E',?_⟩;unfold ew;rw[A,z];exact this
 have nodef:∀d,o.op≠.defer d:=λd e=>by
  have hp:YL o.op=false:=by rw[e];rfl
  unfold OS at hc;split at hc;rename_i he _;rw[hp]at he;cases he;cases hc;rw[e]at hc;simp only[opE]at hc;cases hc
 have about:∀f,o.about S.P w a.eval=some f->S.F.fn f:=λf _=>S.F_fn f;have upon:∀x,r.upd=c.upd->r.dst=o.dst->(∀(C:Ctx) v,x.rel S.P C v->r.val.rel S.P C v)->Yields S ⟨σ.T,upM σ.m c.upd,σ.sv⟩ a x ((execOp a.eval o).run S.P w)->
   o.wpIn S.F 0 S.P a w (λa' w'=>Sim S (ew r σ) a' w') Q:=by
  intro x z A X hy;unfold Oper.wpIn;refine⟨about,?_⟩;rw[Oper.semAt_eq _ _ _ nodef];rcases hy with⟨v,w',e,ho⟩|⟨w',e,ho⟩|⟨f,args,w',e,ho⟩;rw[e];exact fin x v w' z ho (λC=>X C v) A;rw[e];exact fin x undef w' z ho (λC=>X C undef) A;rw[e,Oper.uponIn_enter];refine⟨λh=>(by rw[S.F_depth]at h;cases h),Base.callsIn (ho.mono λe2 w2 he=>?_)⟩;obtain⟨v,rfl,ho2⟩:=he;exact fin x v w2 z ho2 (λC=>X C v) A
 rw[hw];unfold Jz at hr;split at hr;rename_i hgd;cases hr;have hg1:g=true:=by rw[hgd]at hg;simp only[Py,vT]at hg;exact hg.symm
 rw[if_pos hg1];exact upon c.val rfl rfl (λC v hv=>hv) (run hg1 hn hu);rename_i gp hgd;split at hr;rename_i z hnew;cases hr;by_cases L:g=true;rw[if_pos L];refine upon c.val z.symm rfl (λC v hv=>⟨λ_=>hv,λhf=>by rw[L]at hf;cases hf⟩) (run L (λq hq=>?_) (λk hk=>by rw[hnew]at hk;cases hk));exact hn (Ob.under (g=true) q) (vW.2 ⟨q,hq,rfl⟩) L;rw[if_neg L];exact⟨about,D,E,h.put (d:=o.dst) (v:=undef) (x:=.grd g c.val) hd ⟨λhf=>(L hf).elim,λ_=>rfl⟩⟩;cases hr
end Go.Eng
namespace Go.Eng
open Go.RowKit
structure St where
 tm:List AV
 mem:List (Nat×Blk)
 nx:Nat
 sv:List AV:=[]
def St.sig(s:St):Sig:=⟨λt=>s.tm.getD t .top,λnm=>s.mem.lookup nm,s.sv⟩
def vo:List (Nat×Blk)->Nat->Blk->List (Nat×Blk)|[],k,b=>[(k,b)]|q::r,k,b=>if q.1=k then(k,b)::r else q::vo r k b
theorem pP(k:Nat)(b:Blk):∀(l:List (Nat×Blk)) (i:Nat),(vo l k b).lookup i=if i=k then some b else l.lookup i
 |[],i=>by
  simp only[vo,List.lookup];by_cases e:i=k;subst e;simp;have:(i==k)=false:=by simpa using e
  simp[this,e]
 |q::r,i=>by
  obtain⟨f,j⟩:=q;simp only[vo];by_cases h:f=k;subst h;simp only[kE,List.lookup];by_cases e:i=f;subst e;simp;have:(i==f)=false:=by simpa using e
  simp[this,e];simp only[h,xM,List.lookup];by_cases e:i=f;subst e;simp[h];have:(i==f)=false:=by simpa using e
  simp only[this];exact pP k b r i
def cZ(r:Rec)(s:St):St:=
 {s with
  tm:=match r.dst with|some d=>s.tm.set d r.val|none=>s.tm
  mem:=r.upd.foldr (λp m=>vo m p.1 p.2) s.mem
  nx:=match r.new with|some k=>k+1|none=>s.nx}
def gn(r:Rec)(n:Nat):Bool:=
 (match r.dst with|some d=>decide (d<n)|none=>true)&&true
theorem jg(r:Rec)(s:St):(cZ r s).tm.length=s.tm.length:=by
 unfold cZ;cases r.dst<;>simp
theorem gw{r:Rec}{s:St}(h:gn r s.tm.length=true):(cZ r s).sig=ew r s.sig:=by
 unfold gn at h;simp only[qE]at h;obtain⟨G,h2⟩:=h;have y:(cZ r s).sig.T=(ew r s.sig).T:=by
  funext t;simp only[St.sig,cZ,ew,upT];cases hd:r.dst with
  |none=>simp|some d=>
   rw[hd]at G;have u:d<s.tm.length:=by simpa using G
   simp only[vT];by_cases e:t=d;subst e;simp[qA,u];simp only[if_neg e,qA];rw[zW (λh=>e h.symm)]
 have A:(cZ r s).sig.m=(ew r s.sig).m:=by
  funext k;simp only[St.sig,cZ,ew,upM];induction r.upd with
  |nil=>rfl|cons p l X=>
   obtain⟨k',b⟩:=p;simp only[List.foldr_cons,pP,List.lookup];by_cases e:k=k';subst e;simp;have:(k==k')=false:=by simpa using e
   simp only[this,if_neg e];exact X
 cases j:(cZ r s).sig with
 |mk T m sv=>
  cases f:ew r s.sig with
  |mk T' m' L=>
   have z:(cZ r s).sig.sv=(ew r s.sig).sv:=rfl;rw[j,f]at y A z;simp only at y A z;rw[y,A,z]
structure iD where
 pre:Ob
 t:Ty
 L:List t.den
structure Cfg where
 P:Program
 G:List (Nat×AV)
 K:Kt
 mb:Tmp->Bool
 KI:FuncId->List AV->Option iD
 rng:Bool
 KP:KPt:=λ_ _ _=>none
 pf:FuncId->Bool:=λ_=>false
def aBi(mb:Tmp->Bool)(o:Oper):Bool:=match o.dst with|some d=>mb d|none=>false
def Cfg.mt(c:Cfg)(o:Oper):Bool:=aBi c.mb o
def zv(c:Cfg)(ops:Array Oper):List Oper->St->Option (List Rec)
 |[],_=>some []|o::os,s=>match gY c.P c.G c.K (c.mt o) ops s.nx s.sig o with
  |some r=>if gn r s.tm.length=true then match zv c ops os (cZ r s)with
   |some rs=>some (r::rs)|none=>none
   else none
  |none=>none
def fW(rs:List Rec)(s:St)(j:Nat):St:=(rs.take j).foldl (λs r=>cZ r s) s
theorem k9(rs:List Rec)(s:St)(j:Nat):(fW rs s j).tm.length=s.tm.length:=by
 unfold fW;induction rs.take j generalizing s with
 |nil=>rfl|cons r l f=>simp only[kS];rw[f,jg]
theorem uB{c:Cfg}{ops:Array Oper}:∀{os:List Oper}{s:St}{rs:List Rec},zv c ops os s=some rs->
  rs.length=os.length/\∀(j:Nat) o r,os[j]?=some o->rs[j]?=some r->
   gY c.P c.G c.K (c.mt o) ops (fW rs s j).nx (fW rs s j).sig o=some r/\gn r s.tm.length=true
 |[],s,rs,h=>by
  simp only[zv]at h;cases h;exact⟨rfl,λj o r h=>by simp at h⟩
 |o::os,s,rs,h=>by
  simp only[zv]at h;split at h;case h_2=>cases h
  rename_i r hr;split at h;case isFalse=>cases h
  rename_i y;split at h;case h_2=>cases h
  rename_i L u;cases h;obtain⟨g1,g2⟩:=uB u;refine⟨by simp[g1],λj o' r' z f=>?_⟩;cases j with
  |zero=>
   simp at z f;subst z f;exact⟨hr,y⟩
  |succ j=>
   obtain⟨X,A⟩:=g2 j o' r' (by simpa using z) (by simpa using f);rw[jg]at A;exact⟨by simpa[fW]using X,A⟩
theorem lV(rs:List Rec)(s:St)(j:Nat)(r:Rec)(h:rs[j]?=some r):fW rs s (j+1)=cZ r (fW rs s j):=by
 unfold fW;rw[wY,h];simp
def unB(k:Nat)(s:St):Bool:=
 (s.mem.lookup k).isNone&&s.tm.all (λa=>!a.names.contains k)&&s.mem.all (λp=>!p.2.names.contains k)&&!(AV.namesL s.sv).contains k
theorem dc{l:List (Nat×Blk)}{k:Nat}{b:Blk}(h:l.lookup k=some b):(k,b)∈l:=by
 induction l with
 |nil=>simp at h|cons p l f=>
  obtain⟨p1,p2⟩:=p;simp only[List.lookup]at h;split at h;rename_i e;cases h;have:k=p1:=by simpa using e
  subst this;simp;exact wX _ (f h)
theorem KG{k:Nat}{s:St}(h:unB k s=true):Unm k s.sig:=by
 unfold unB at h;simp only[qE,qW]at h;obtain⟨⟨⟨j,A⟩,z⟩,y⟩:=h;refine⟨?_,λt=>?_,λnm b hb=>?_,by have u:k∉AV.namesL s.sv:=(by simpa using y);exact u⟩;show s.mem.lookup k=none;cases f:s.mem.lookup k with
 |none=>rfl|some b=>rw[f]at j;cases j
 show k∉(s.tm.getD t .top).names;rw[qA];cases f:s.tm[t]? with
 |none=>simp[AV.names]|some a=>
  have:=A a (qZ f);simpa using this
 have:=z _ (dc hb);simpa using this
def BL(k:Nat)(r:Rec):Bool:=!r.val.names.contains k&&r.upd.all (λp=>!(p.1==k)&&!p.2.names.contains k)
theorem rf{k:Nat}{r:Rec}(h:BL k r=true){s:Sig}(u:Unm k s):Unm k (ew r s):=by
 unfold BL at h;simp only[qE,qW]at h;obtain⟨z,y⟩:=h;have f:∀nm b,r.upd.lookup nm=some b->nm≠k/\k∉b.names:=λnm b hb=>by
  have:=y _ (dc hb);simpa using this
 refine⟨?_,λt=>?_,λnm b hb=>?_,u.2.2.2⟩;show upM s.m r.upd k=none;unfold upM;cases j:r.upd.lookup k with
 |none=>exact u.1|some b=>exact absurd rfl (f k b j).1
 show k∉(upT s.T r.dst r.val t).names;unfold upT;split;simpa using z;exact u.2.1 t;replace hb:upM s.m r.upd nm=some b:=hb;unfold upM at hb;cases j:r.upd.lookup nm with
 |none=>rw[j]at hb;exact u.2.2.1 nm b hb|some A=>rw[j]at hb;cases hb;exact(f nm _ j).2
def Xy(d:Option Tmp)(l:List Tmp):Bool:=match d with|some d=>l.contains d|none=>false
def aCT:Option Tmp->Option Tmp->Bool|some d,some e=>d==e|_,_=>false
def indep(r s:Rec):Bool:=
 !Xy r.dst s.reads&&!Xy s.dst r.reads&&!aCT r.dst s.dst &&
 r.upd.all (λp=>!s.fp.contains p.1&&s.upd.all λq=>!(p.1==q.1))&&s.upd.all (λp=>!r.fp.contains p.1)
theorem Ai{l:List (Nat×Blk)}{k:Nat}(h:∀p∈l,p.1≠k):l.lookup k=none:=by
 cases f:l.lookup k with
 |none=>rfl|some b=>exact absurd rfl (h _ (dc f))
theorem ny{r s:Rec}(h:indep r s=true):
  (∀σ,ew s (ew r σ)=ew r (ew s σ))/\(∀σ,(∀t∈s.reads,(ew r σ).T t=σ.T t)/\∀nm∈s.fp,(ew r σ).m nm=σ.m nm)/\
  (∀σ,(∀t∈r.reads,(ew s σ).T t=σ.T t)/\∀nm∈r.fp,(ew s σ).m nm=σ.m nm):=by
 unfold indep at h;simp only[qE,qW]at h;obtain⟨⟨⟨⟨h1,h2⟩,L⟩,G⟩,h5⟩:=h;have A:∀(d:Option Tmp) (l:List Tmp),(!Xy d l)=true->∀t∈l,some t≠d:=by
  intro d l hd t y e;subst e;simp[Xy,y]at hd
 refine⟨λσ=>?_,λσ=>⟨λt y=>?_,λnm f=>?_⟩,λσ=>⟨λt y=>?_,λnm f=>?_⟩⟩;unfold ew;congr 1;funext t;simp only[upT];by_cases u:some t=s.dst<;>by_cases j:some t=r.dst;exfalso;rw[<- u,<- j]at L;simp[aCT]at L;rw[if_pos u,if_neg j,if_pos u];rw[if_neg u,if_pos j,if_pos j];rw[if_neg u,if_neg j,if_neg j,if_neg u];funext nm;simp only[upM];cases hr:r.upd.lookup nm<;>cases X:s.upd.lookup nm<;>simp only[];exfalso;have:=(G _ (dc hr));simp only[qW]at this;have:=this.2 _ (dc X);simp at this;show upT σ.T r.dst r.val t=σ.T t;unfold upT;rw[if_neg (A _ _ h1 t y)];show upM σ.m r.upd nm=σ.m nm;unfold upM;rw[Ai (λp z e=>by
  have:=(G p z).1;rw[e]at this;simp[f]at this)]
 show upT σ.T s.dst s.val t=σ.T t;unfold upT;rw[if_neg (A _ _ h2 t y)];show upM σ.m s.upd nm=σ.m nm;unfold upM;rw[Ai (λp z e=>by
  have:=h5 p z;rw[e]at this;simp[f]at this)]
def Ku(tbl:List Nat)(o:Oper):Nat:=o.after.toList.foldl (λs e=>if Region.binds .any e then s ||| 2 ^ e.on ||| tbl.getD e.on 0 else s) 0
def jh:List Nat->List Oper->List Nat|acc,[]=>acc|acc,o::os=>jh (acc++[Ku acc o]) os
theorem ya{f:List Nat}{i:Nat}:∀(es:List Edge) (s:Nat),(es.foldl (λs e=>if Region.binds .any e then s ||| 2 ^ e.on ||| f.getD e.on 0 else s) s).testBit i=true->
  s.testBit i=true\/∃e∈es,Region.binds .any e=true/\(i=e.on\/(f.getD e.on 0).testBit i=true)
 |[],s,h=>.inl h|e::es,s,h=>by
  simp only[kS]at h;rcases ya es _ h with g|⟨z,y,u⟩;split at g;rename_i hb;simp only[Nat.testBit_or,yM]at g;rcases g with(g|g)|g;exact .inl g;rw[Nat.testBit_two_pow]at g;have j:e.on=i:=by simpa using g
  exact .inr ⟨e,by simp,hb,.inl j.symm⟩;exact .inr ⟨e,by simp,hb,.inr g⟩;exact .inl g;exact .inr ⟨z,by simp[y],u⟩
def dflt:Rec:={dst:=none,val:=.top,upd:=[],new:=none,reads:=[],fp:=[],need:=[]}
def nU(tbl:List Nat)(ops:List Oper)(rs:List Rec):Bool:=
 (List.range ops.length).all λj=>
  (match ops[j]? with|some o=>tbl.getD j 0==Ku tbl o&&o.after.all (λe=>!Region.binds .any e||decide (e.on<j))|none=>false) &&
  (List.range j).all λi=>(tbl.getD j 0).testBit i||indep (rs.getD i dflt) (rs.getD j dflt)
def uX(draw:Bool)(tbl:List Nat)(s:St)(rs:List Rec):Bool:=
 (List.range rs.length).all λj=>match(rs.getD j dflt).new with|none=>true|some k=>unB k s&&(List.range rs.length).all λi=>i==j||(decide (j<i)&&(!draw||(tbl.getD i 0).testBit j))||BL k (rs.getD i dflt)
theorem wT{α:Type}{l:List α}{i:Nat}{x d:α}(h:l[i]?=some x):l.getD i d=x:=by
 rw[qA,h];rfl
theorem ng{draw:Bool}{f:List Nat}{s:St}{rs:List Rec}(h:uX draw f s rs=true){j k:Nat}{r:Rec}(hj:rs[j]?=some r)(hk:r.new=some k):
  Unm k s.sig/\∀i q,rs[i]?=some q->i≠j->(i<j\/(draw=true/\(f.getD i 0).testBit j=false))->BL k q=true:=by
 unfold uX at h;rw[qW]at h;have z:=(qC.1 hj).1;have u:=h j (by simpa using z);rw[wT hj,hk]at u;simp only[qE,qW]at u;refine⟨KG u.1,λi q hq y hc=>?_⟩;have A:=(qC.1 hq).1;have X:=u.2 i (by simpa using A);rw[wT hq]at X;simp only[yM,yX,qE,qF,zB]at X;rcases X with(g|⟨g1,g2⟩)|g;exact(y g).elim;rcases hc with hc|⟨L,G⟩;omega;rcases g2 with g2|g2;rw[L]at g2;cases g2;rw[G]at g2;cases g2;exact g
def aBg(c:Cfg)(ops:Array Oper)(draw:Bool)(s:St):Option (List Ob×St):=
 match zv c ops ops.toList s with
 |some rs=>
  let tbl:=if draw then jh [] ops.toList else[]
  if uX draw tbl s rs=true/\(draw=true->nU tbl ops.toList rs=true)then some (rs.flatMap (·.need),fW rs s rs.length)else none
 |none=>none
section
variable {S:Base}{K:Kt}{mb:Tmp->Bool}{ops:Array Oper}{s:St}{rs:List Rec}
def bW(rs:List Rec)(i:Nat)(σ:Sig):Sig:=match rs[i]? with|some r=>ew r σ|none=>σ
theorem mY(f:∀(j:Nat) (r:Rec),rs[j]?=some r->gn r s.tm.length=true):∀j,j<=rs.length->fE (bW rs) Uk j s.sig=(fW rs s j).sig
 |0,_=>rfl|j+1,y=>by
  have u:=mY f j Z;have h:=qB (l:=rs) (show j<rs.length by omega);show bW rs j (fE (bW rs) Uk j s.sig)=_;rw[u,lV rs s j _ h,gw (by rw[k9];exact f j _ h)];simp only[bW,h]
structure IP(S:Base)(K:Kt)(mb:Tmp->Bool)(ops:Array Oper)(s:St)(rs:List Rec):Prop where
 len:rs.length=ops.size
 at_:∀(j:Nat) o r,ops[j]?=some o->rs[j]?=some r->gY S.P S.G K (aBi mb o) ops (fW rs s j).nx (fW rs s j).sig o=some r/\gn r s.tm.length=true
 tm:s.tm.length=S.N
 need:∀(j:Nat) r,rs[j]?=some r->∀q∈r.need,q
theorem IP.dst(H:IP S K mb ops s rs){j:Nat}{o:Oper}{r:Rec}(y:ops[j]?=some o)(u:rs[j]?=some r):∀d,o.dst=some d->d<S.N:=by
 intro d hd;obtain⟨f,h⟩:=H.at_ j o r y u;have e:r.dst=o.dst:=by
  unfold gY at f;split at f;split at f;unfold Jz at f;split at f;cases f;rfl;split at f;cases f;rfl;cases f;cases f;cases f
 unfold gn at h;simp only[qE]at h;have:=h.1;rw[e,hd]at this;rw[<- H.tm];simpa using this
theorem IP.step(A:ay S.P S.G K)(H:IP S K mb ops s rs){Q:Exit->Act->World->Prop}{j:Nat}{o:Oper}{r:Rec}(u:ops[j]?=some o)(f:rs[j]?=some r){σ:Sig}{a:Act}{w:World}
  (X:∀t∈r.reads,σ.T t=(fW rs s j).sig.T t) (L:∀nm∈r.fp,σ.m nm=(fW rs s j).sig.m nm) (y:∀k,r.new=some k->Unm k σ) (z:Sim S σ a w):
  wpOpIn S.F 0 S.P ops Q j (λa' w'=>Sim S (bW rs j σ) a' w') a w:=by
 have h:=uv (H.at_ j o r u f).1 X L;have:=pu (Q:=Q) A u z (H.dst u f) h (H.need j r f) y;simp only[bW,f];exact this
theorem FV(hK:ay S.P S.G K)(H:IP S K mb ops s rs){tbl:List Nat}(u:uX false tbl s rs=true){a:Act}{w:World}(hs:Sim S s.sig a w){Q:Exit->Act->World->Prop}
  (hQ:∀X w',Sim S (fW rs s rs.length).sig X w'->Q .normal X w') {id:Nat}:(Code.region id ops false).wpIn S.F 0 S.P Q a w:=by
 refine wpIn_region ?_;have z:∀(j:Nat) (r:Rec),rs[j]?=some r->gn r s.tm.length=true:=λj r f=>by
  have hj:j<ops.size:=by rw[<- H.len];exact(qC.1 f).1
  exact(H.at_ j _ r (wP hj) f).2
 have hun:∀(j k:Nat) r,rs[j]?=some r->r.new=some k->∀i,i<=j->Unm k (fW rs s i).sig:=by
  intro j k r f L i;induction i with
  |zero=>intro _;exact(ng u f L).1
  |succ i ih=>
   intro hi;have hil:i<rs.length:=by have:=(qC.1 f).1;omega
   have y:=qB hil;rw[lV rs s i _ y,gw (by rw[k9];exact z i _ y)];exact rf ((ng u f L).2 i _ y Z (.inl Z)) (ih Z)
 have key:∀(n j:Nat),j+n=ops.size->∀a w,Sim S (fW rs s j).sig a w->wpOpsIn S.F 0 S.P ops Q (List.range' j n) a w:=by
  intro n;induction n with
  |zero=>
   intro j hj a w h;simp only[qBt,wpOpsIn];have:j=rs.length:=by rw[H.len];omega
   subst this;exact hQ a w h
  |succ n ih=>
   intro j hj a w h;have A:j<ops.size:=Z;have ho:=wP A;have f:=qB (l:=rs) (show j<rs.length by rw[H.len];exact A);rw[qAw,wpOpsIn_cons];refine wpOpIn_mono (λX w' h'=>ih (j+1) Z X w' ?_) (H.step hK (Q:=Q) ho f (λ_ _=>rfl) (λ_ _=>rfl) (λk L=>hun j k _ f L j (qL _)) h);rw[lV rs s j _ f,gw (by rw[k9];exact z j _ f)];simpa only[bW,f]using h'
 have:=key ops.size 0 Z a w hs;rwa [<- qAv]at this
theorem GF{f:List Nat}(h:nU f ops.toList rs=true)(y:rs.length=ops.size):
  (∀(j:Nat) o,ops[j]?=some o->(∀e∈o.after,Region.binds .any e=true->e.on<j)/\∀i,(f.getD j 0).testBit i=true->∃e∈o.after,Region.binds .any e=true/\(i=e.on\/(f.getD e.on 0).testBit i=true))/\
  (∀(i j:Nat) (r q:Rec),i<j->rs[i]?=some r->rs[j]?=some q->(f.getD j 0).testBit i=false->indep r q=true):=by
 unfold nU at h;rw[qW]at h;refine⟨λj o ho=>?_,λi j r q L hr X hb=>?_⟩;have G:j<ops.size:=(qJ.1 ho).1;have u:=h j (by simpa using G);have A:ops.toList[j]?=some o:=by simpa using ho
 rw[A]at u;simp only[qE,yX]at u;obtain⟨⟨z,h3⟩,_⟩:=u;refine⟨λe he hb=>?_,λi hi=>?_⟩;rw[qAi]at h3;have:=h3 e he;simpa[hb]using this;rw[z]at hi;unfold Ku at hi;rcases ya _ _ hi with g|⟨e,h4,h5⟩;simp at g;exact⟨e,by simpa using h4,h5⟩;have G:j<ops.size:=by rw[<- y];exact(qC.1 X).1
 have u:=h j (by simpa using G);simp only[qE,qW]at u;have z:=u.2 i (by simpa using L);rw[wT hr,wT X,hb]at z;simpa using z
theorem uL(hK:ay S.P S.G K)(hm:S.P.follows .mixedOrders=true)(H:IP S K mb ops s rs){tbl:List Nat}(hnew:uX true tbl s rs=true)(hdr:nU tbl ops.toList rs=true)
  {a:Act}{w:World} (hs:Sim S s.sig a {w with drawn:=w.drawn+1}) {Q:Exit->Act->World->Prop} (hQ:∀a' w',Sim S (fW rs s rs.length).sig a' w'->Q .normal a' w') {id:Nat}:
  (Code.region id ops true).wpIn S.F 0 S.P Q a w:=by
 refine wpIn_region_any hm ?_;have hok:∀(j:Nat) (r:Rec),rs[j]?=some r->gn r s.tm.length=true:=λj r y=>by
  have z:j<ops.size:=by rw[<- H.len];exact(qC.1 y).1
  exact(H.at_ j _ r (wP z) y).2
 obtain⟨A,hind⟩:=GF hdr H.len;have get:∀j,j<ops.size->∃r,rs[j]?=some r:=λj z=>⟨_,qB (by rw[H.len];exact z)⟩;have HO:Orders (bW rs) ops.size (λi j=>(tbl.getD j 0).testBit i)
   (λj σ=>∀r,rs[j]?=some r->(∀t∈r.reads,σ.T t=(fW rs s j).sig.T t)/\∀nm∈r.fp,σ.m nm=(fW rs s j).sig.m nm)
   (λj σ=>∀r k,rs[j]?=some r->r.new=some k->Unm k σ) s.sig:=by
  refine⟨λi j hij z hna σ=>?_,λi j hij z hna σ=>?_,λi j hij z hna σ=>?_,λi j hi z hne hc σ hu=>?_,λj z=>?_,λj z r k y hk=>(ng hnew y hk).1⟩;obtain⟨r,y⟩:=get i Z;obtain⟨q,hq⟩:=get j z;simp only[bW,y,hq];exact(ny (hind i j r q hij y hq hna)).1 σ;obtain⟨r,y⟩:=get i Z;obtain⟨q,hq⟩:=get j z;obtain⟨g1,g2⟩:=(ny (hind i j r q hij y hq hna)).2.1 σ;simp only[bW,y];refine⟨λh r' X=>?_,λh r' X=>?_⟩<;>(have e:r'=q:=wE (X.symm.trans hq);subst e;obtain⟨h1,h2⟩:=h _ X);exact⟨λt ht=>(g1 t ht).symm.trans (h1 t ht),λnm f=>(g2 nm f).symm.trans (h2 nm f)⟩;exact⟨λt ht=>(g1 t ht).trans (h1 t ht),λnm f=>(g2 nm f).trans (h2 nm f)⟩;obtain⟨r,y⟩:=get i Z;obtain⟨q,hq⟩:=get j z;obtain⟨g1,g2⟩:=(ny (hind i j r q hij y hq hna)).2.2 σ;simp only[bW,hq];refine⟨λh r' X=>?_,λh r' X=>?_⟩<;>(have e:r'=r:=wE (X.symm.trans y);subst e;obtain⟨h1,h2⟩:=h _ X);exact⟨λt ht=>(g1 t ht).symm.trans (h1 t ht),λnm f=>(g2 nm f).symm.trans (h2 nm f)⟩;exact⟨λt ht=>(g1 t ht).trans (h1 t ht),λnm f=>(g2 nm f).trans (h2 nm f)⟩;obtain⟨q,hq⟩:=get i hi;intro r k y hk;simp only[bW,hq];refine rf ((ng hnew y hk).2 i q hq hne ?_) (hu r k y hk);rcases hc with hc|hc;exact .inl hc;exact .inr ⟨rfl,hc⟩;intro r y;rw[mY hok j (by rw[H.len];omega)];exact⟨λ_ _=>rfl,λ_ _=>rfl⟩
 have key:∀(n:Nat) (listed:Array Bool) (a:Act) (w:World),listed.size=ops.size->
   ((List.range ops.size).filter λi=>!listed.getD i true).length<=n->
   (∀i j,i<j->j<ops.size->(tbl.getD j 0).testBit i=true->listed.getD j false=true->listed.getD i false=true)->
   Sim S (fE (bW rs) (λi=>listed.getD i false) ops.size s.sig) a w->wpAnyIn S.F 0 S.P .any ops Q n listed a w:=by
  have L:∀(listed:Array Bool) (a:Act) (w:World),listed.size=ops.size->Region.ready .any ops listed=[]->
    Sim S (fE (bW rs) (λi=>listed.getD i false) ops.size s.sig) a w->Q .normal a w:=by
   intro listed a w u hrd h;have hall:∀j,j<ops.size->listed.getD j false=true:=by
    intro j;induction j using Nat.strongRecOn with
    |_ j ih=>
     intro z;cases hd:listed.getD j false with
     |true=>rfl|false=>
      exfalso;have ho:=wP z;have hmem:j∈Region.ready .any ops listed:=by
       unfold Region.ready;simp only[yY,wJ,qE,ho,zZ,vJ];refine⟨z,?_,?_⟩;have:listed.getD j true=listed.getD j false:=by simp[Array.getD,u,z]
       rw[this,hd];rfl;rw[qAi];intro e he;cases hb:Region.binds .any e with
       |false=>rfl|true=>
        have hlt:=(A j _ ho).1 e he hb;rw[ih e.on hlt Z];rfl
      rw[hrd]at hmem;cases hmem
   refine hQ a w ?_;rw[H.len,<- mY hok ops.size (by rw[H.len];exact qL _),mX (bW rs) (d:=Uk) (d':=λi=>listed.getD i false) ops.size s.sig (λi hi=>(hall i hi).symm)];exact h
  intro n;induction n with
  |zero=>
   intro listed a w u hcnt hdc h;have hrd:Region.ready .any ops listed=[]:=by
    have:((List.range ops.size).filter λi=>!listed.getD i true)=[]:=vK Z;unfold Region.ready;rw[qAp]at this ⊢;intro i hi;have:=this i hi;simp only[qE,not_and];intro h1;exact(this h1).elim
   exact⟨hrd,L listed a w u hrd h⟩
  |succ n ih=>
   intro listed a w u hcnt hdc h;refine⟨λhrd=>L listed a w u hrd h,λj z=>?_⟩;obtain⟨hjun,o,ho,hpre⟩:=mem_ready.1 z;have hjl:j<ops.size:=(qJ.1 ho).1;obtain⟨r,y⟩:=get j hjl;have hjf:listed.getD j false=false:=by
    have:listed.getD j true=listed.getD j false:=by simp[Array.getD,u,hjl]
    rw[<- this];exact hjun
   have hp:∀i,i<j->(tbl.getD j 0).testBit i=true->listed.getD i false=true:=by
    intro i hij hb;obtain⟨e,he,heb,hc⟩:=(A j o ho).2 i hb;have hel:=hpre e he heb;rcases hc with rfl|hc;exact hel;have hlt:=(A j o ho).1 e he heb;have:i<e.on:=by
     have below:∀q,q<ops.size->∀i,(tbl.getD q 0).testBit i=true->i<q:=by
      intro q;induction q using Nat.strongRecOn with
      |_ q ihq=>
       intro hq i hb;have hoq:=wP hq;obtain⟨e,he,heb,hc⟩:=(A q _ hoq).2 i hb;have hlt:=(A q _ hoq).1 e he heb;rcases hc with rfl|hc;exact hlt;have:=ihq e.on hlt Z i hc;omega
     exact below e.on Z i hc
    exact hdc i e.on this Z hc hel
   obtain⟨g1,g2,g3⟩:=Gv HO (done:=λi=>listed.getD i false) hdc hjl hjf hp;obtain⟨g4,g5⟩:=g1 r y;refine wpOpIn_mono (λa' w' h'=>ih (listed.setIfInBounds j true) a' w' (by simpa using u) ?_ ?_ ?_) (H.step hK (Q:=Q) ho y g4 g5 (λk hk=>g2 r k y hk) h)
   ·
    have hc:∀(l:List Nat),l.Nodup->j∈l->(l.filter λi=>!(listed.setIfInBounds j true).getD i true).length+1<=(l.filter λi=>!listed.getD i true).length:=by
     intro l;induction l with
     |nil=>intro _ h;cases h
     |cons x l ihl=>
      intro hnd hm;rw[qDb]at hnd;simp only[yP];by_cases hx:x=j;subst hx;have e1:(listed.setIfInBounds x true).getD x true=true:=by
       simp[Array.getD,u,hjl]
      have e2:∀(l:List Nat),x∉l->(l.filter λi=>!(listed.setIfInBounds x true).getD i true)=l.filter λi=>!listed.getD i true:=by
       intro l hl;apply List.filter_congr;intro i hi;have:i≠x:=λe=>hl (e▸hi);simp only[qP,zO];rw[if_neg (λe=>this e.symm)]
      rw[e1,hjun,e2 l hnd.1];simp;have e1:(listed.setIfInBounds j true).getD x true=listed.getD x true:=by
       simp only[qP,zO];rw[if_neg (λe=>hx e.symm)]
      rw[e1];have ih2:=ihl hnd.2 (by rcases zK.1 hm with g|g;exact(hx g.symm).elim;exact g);split;simp only[wR];omega;exact ih2
    have:=hc (List.range ops.size) List.nodup_range (by simpa using hjl);omega
   intro i q hiq hq hb hlq;have e:∀i,(listed.setIfInBounds j true).getD i false=if i=j then true else listed.getD i false:=by
    intro i;simp only[qP,zO];by_cases e:j=i;subst e;simp[u,hjl];rw[if_neg e,if_neg (λh=>e h.symm)]
   rw[e]at hlq ⊢;split;rfl;split at hlq;rename_i e1;subst e1;exact hp i hiq hb;exact hdc i q hiq hq hb hlq;have e:(λi=>(listed.setIfInBounds j true).getD i false)=λi=>if i=j then true else listed.getD i false:=by
    funext i;simp only[qP,zO];by_cases e:j=i;subst e;simp[u,hjl];rw[if_neg e,if_neg (λh=>e h.symm)]
   rw[e,g3];exact h'
 refine key ops.size (Array.replicate ops.size false) a _ (by simp) ?_ ?_ ?_;exact vP (gQ _ _) (by simp);intro i j hij z hb hl;rw[qP]at hl;simp[z]at hl;have:∀n,fE (bW rs) (λi=>(Array.replicate ops.size false).getD i false) n s.sig=s.sig:=by
  intro n;induction n with
  |zero=>rfl|succ n ih=>
   have:(Array.replicate ops.size false).getD n false=false:=by
    rw[qP];cases h:(Array.replicate ops.size false)[n]? with
    |none=>rfl|some v=>rw[yQ]at h;split at h<;>cases h;rfl
   simp only[fE,this,wF,xM];exact ih
 rw[this];exact hs
end
end Go.Eng
namespace Go.Eng
open Go.RowKit
section
variable {S:Base}{K:Kt}{mb:Tmp->Bool}{ops:Array Oper}{s:St}{rs:List Rec}
theorem KF{listed:Array Bool}{j N:Nat}(L:listed.size=N)(y:j<N)(u:listed.getD j true=false):((List.range N).filter λi=>!(listed.setIfInBounds j true).getD i true).length+1<=((List.range N).filter λi=>!listed.getD i true).length:=by
 have hc:∀(l:List Nat),l.Nodup->j∈l->(l.filter λi=>!(listed.setIfInBounds j true).getD i true).length+1<=(l.filter λi=>!listed.getD i true).length:=by
  intro l;induction l with
  |nil=>intro _ h;cases h
  |cons x l z=>
   intro f hm;rw[qDb]at f;simp only[yP];by_cases G:x=j;subst G;have X:(listed.setIfInBounds x true).getD x true=true:=by
    simp[Array.getD,L,y]
   have e2:∀(l:List Nat),x∉l->(l.filter λi=>!(listed.setIfInBounds x true).getD i true)=l.filter λi=>!listed.getD i true:=by
    intro l hl;apply List.filter_congr;intro i hi;have:i≠x:=λe=>hl (e▸hi);simp only[qP,zO];rw[if_neg (λe=>this e.symm)]
   rw[X,u,e2 l f.1];simp;have X:(listed.setIfInBounds j true).getD x true=listed.getD x true:=by
    simp only[qP,zO];rw[if_neg (λe=>G e.symm)]
   rw[X];have A:=z f.2 (by rcases zK.1 hm with g|g;exact(G g.symm).elim;exact g);split;simp only[wR];omega;exact A
 exact hc (List.range N) List.nodup_range (by simpa using y)
def Live(tbl:List Nat)(k q j:Nat):Prop:=k<=j/\j≠q/\(tbl.getD j 0).testBit q=false
theorem C3(hK:ay S.P S.G K)(L:rs.length=ops.size)(htm:s.tm.length=S.N){f:List Nat}{k q:Nat}
  (hat:∀(j:Nat) o r,ops[j]?=some o->rs[j]?=some r->Live f k q j->gY S.P S.G K (aBi mb o) ops (fW rs s j).nx (fW rs s j).sig o=some r/\(∀d,o.dst=some d->d<S.N)/\∀p∈r.need,p)
  (hok:∀(j:Nat) (r:Rec),rs[j]?=some r->gn r s.tm.length=true) (hnew:uX true f s rs=true) (hdr:nU f ops.toList rs=true) {Q:Exit->Act->World->Prop}
  (hQ:ops.size<=q->∀a' w',Sim S (fW rs s rs.length).sig a' w'->Q .normal a' w')
  (spec:q<ops.size->∀(n:Nat) (listed:Array Bool) (a:Act) (w:World),listed.size=ops.size->listed.getD q false=false->((List.range ops.size).filter λi=>!listed.getD i true).length<=n+1->
   (∀i,(f.getD q 0).testBit i=true->listed.getD i false=true)->(∀i,(f.getD i 0).testBit q=true->i<ops.size->listed.getD i false=false)->
   (∀r,rs[q]?=some r->(∀t∈r.reads,(fE (bW rs) (λi=>listed.getD i false) ops.size s.sig).T t=(fW rs s q).sig.T t)/\∀nm∈r.fp,(fE (bW rs) (λi=>listed.getD i false) ops.size s.sig).m nm=(fW rs s q).sig.m nm)->
   Sim S (fE (bW rs) (λi=>listed.getD i false) ops.size s.sig) a w->wpOpIn S.F 0 S.P ops Q q (wpAnyIn S.F 0 S.P .any ops Q n (listed.setIfInBounds q true)) a w):
  ∀(n:Nat) (listed:Array Bool) (a:Act) (w:World),listed.size=ops.size->((List.range ops.size).filter λi=>!listed.getD i true).length<=n->
   (∀i,i<k->i<ops.size->listed.getD i false=true)->(q<ops.size->listed.getD q false=false)->
   (∀i j,i<j->j<ops.size->(f.getD j 0).testBit i=true->listed.getD j false=true->listed.getD i false=true)->
   Sim S (fE (bW rs) (λi=>listed.getD i false) ops.size s.sig) a w->wpAnyIn S.F 0 S.P .any ops Q n listed a w:=by
 obtain⟨X,hind⟩:=GF hdr L;have get:∀j,j<ops.size->∃r,rs[j]?=some r:=λj hj=>⟨_,qB (by rw[L];exact hj)⟩;have HO:Orders (bW rs) ops.size (λi j=>(f.getD j 0).testBit i)
   (λj σ=>∀r,rs[j]?=some r->(∀t∈r.reads,σ.T t=(fW rs s j).sig.T t)/\∀nm∈r.fp,σ.m nm=(fW rs s j).sig.m nm)
   (λj σ=>∀r k,rs[j]?=some r->r.new=some k->Unm k σ) s.sig:=by
  refine⟨λi j hij hj hna σ=>?_,λi j hij hj hna σ=>?_,λi j hij hj hna σ=>?_,λi j hi hj hne hc σ hu=>?_,λj hj=>?_,λj hj r k z hk=>(ng hnew z hk).1⟩;obtain⟨r,z⟩:=get i Z;obtain⟨q,hq⟩:=get j hj;simp only[bW,z,hq];exact(ny (hind i j r q hij z hq hna)).1 σ;obtain⟨r,z⟩:=get i Z;obtain⟨q,hq⟩:=get j hj;obtain⟨g1,g2⟩:=(ny (hind i j r q hij z hq hna)).2.1 σ;simp only[bW,z];refine⟨λh r' hr'=>?_,λh r' hr'=>?_⟩<;>(have e:r'=q:=wE (hr'.symm.trans hq);subst e;obtain⟨h1,h2⟩:=h _ hr');exact⟨λt ht=>(g1 t ht).symm.trans (h1 t ht),λnm u=>(g2 nm u).symm.trans (h2 nm u)⟩;exact⟨λt ht=>(g1 t ht).trans (h1 t ht),λnm u=>(g2 nm u).trans (h2 nm u)⟩;obtain⟨r,z⟩:=get i Z;obtain⟨q,hq⟩:=get j hj;obtain⟨g1,g2⟩:=(ny (hind i j r q hij z hq hna)).2.2 σ;simp only[bW,hq];refine⟨λh r' hr'=>?_,λh r' hr'=>?_⟩<;>(have e:r'=r:=wE (hr'.symm.trans z);subst e;obtain⟨h1,h2⟩:=h _ hr');exact⟨λt ht=>(g1 t ht).symm.trans (h1 t ht),λnm u=>(g2 nm u).symm.trans (h2 nm u)⟩;exact⟨λt ht=>(g1 t ht).trans (h1 t ht),λnm u=>(g2 nm u).trans (h2 nm u)⟩;obtain⟨q,hq⟩:=get i hi;intro r k z hk;simp only[bW,hq];refine rf ((ng hnew z hk).2 i q hq hne ?_) (hu r k z hk);rcases hc with hc|hc;exact .inl hc;exact .inr ⟨rfl,hc⟩;intro r z;rw[mY hok j (by rw[L];omega)];exact⟨λ_ _=>rfl,λ_ _=>rfl⟩
 have below:∀q,q<ops.size->∀i,(f.getD q 0).testBit i=true->i<q:=by
  intro q;induction q using Nat.strongRecOn with
  |_ q ihq=>
   intro hq i hb;have hoq:=wP hq;obtain⟨e,he,heb,hc⟩:=(X q _ hoq).2 i hb;have hlt:=(X q _ hoq).1 e he heb;rcases hc with rfl|hc;exact hlt;have:=ihq e.on hlt Z i hc;omega
 have allDone:∀(listed:Array Bool) (a:Act) (w:World),listed.size=ops.size->Region.ready .any ops listed=[]->(q<ops.size->listed.getD q false=false)->
   Sim S (fE (bW rs) (λi=>listed.getD i false) ops.size s.sig) a w->Q .normal a w:=by
  intro listed a w y hrd hql h;have hall:∀j,j<ops.size->listed.getD j false=true:=by
   intro j;induction j using Nat.strongRecOn with
   |_ j ih=>
    intro hj;cases hd:listed.getD j false with
    |true=>rfl|false=>
     exfalso;have ho:=wP hj;have hmem:j∈Region.ready .any ops listed:=by
      unfold Region.ready;simp only[yY,wJ,qE,ho,zZ,vJ];refine⟨hj,?_,?_⟩;have:listed.getD j true=listed.getD j false:=by simp[Array.getD,y,hj]
      rw[this,hd];rfl;rw[qAi];intro e he;cases hb:Region.binds .any e with
      |false=>rfl|true=>
       have hlt:=(X j _ ho).1 e he hb;rw[ih e.on hlt Z];rfl
     rw[hrd]at hmem;cases hmem
  have hqs:ops.size<=q:=by
   rcases wW q ops.size with g|g;have:=hql g;rw[hall q g]at this;cases this;exact g
  refine hQ hqs a w ?_;rw[L,<- mY hok ops.size (by rw[L];exact qL _),mX (bW rs) (d:=Uk) (d':=λi=>listed.getD i false) ops.size s.sig (λi hi=>(hall i hi).symm)];exact h
 intro n;induction n with
 |zero=>
  intro listed a w y hcnt _ hql hdc h;have hrd:Region.ready .any ops listed=[]:=by
   have:((List.range ops.size).filter λi=>!listed.getD i true)=[]:=vK Z;unfold Region.ready;rw[qAp]at this ⊢;intro i hi;have:=this i hi;simp only[qE,not_and];intro h1;exact(this h1).elim
  exact⟨hrd,allDone listed a w y hrd hql h⟩
 |succ n ih=>
  intro listed a w y hcnt hk hql hdc h;refine⟨λhrd=>allDone listed a w y hrd hql h,λj hj=>?_⟩;obtain⟨hjun,o,ho,hpre⟩:=mem_ready.1 hj;have A:j<ops.size:=(qJ.1 ho).1;obtain⟨r,z⟩:=get j A;have hjf:listed.getD j false=false:=by
   have:listed.getD j true=listed.getD j false:=by simp[Array.getD,y,A]
   rw[<- this];exact hjun
  have hp:∀i,i<j->(f.getD j 0).testBit i=true->listed.getD i false=true:=by
   intro i hij hb;obtain⟨e,he,heb,hc⟩:=(X j o ho).2 i hb;have hel:=hpre e he heb;rcases hc with rfl|hc;exact hel;have hlt:=(X j o ho).1 e he heb;exact hdc i e.on (below e.on Z i hc) Z hc hel
  obtain⟨g1,g2,g3⟩:=Gv HO (done:=λi=>listed.getD i false) hdc A hjf hp;by_cases hjq:j=q;subst hjq;exact spec A n listed a w y hjf hcnt (λi hb=>hp i (below j A i hb) hb) (λi hb hi=>by
   cases hl:listed.getD i false with
   |false=>rfl|true=>have:=hdc j i (below i hi j hb) hi hb hl;rw[hjf]at this;cases this) g1 h
  have hlive:Live f k q j:=by
   refine⟨?_,hjq,?_⟩;rcases wW j k with g|g;have:=hk j g A;rw[hjf]at this;cases this;exact g;cases hb:(f.getD j 0).testBit q with
   |false=>rfl|true=>
    have hlt:=below j A q hb;have:=hp q hlt hb;rw[hql Z]at this;cases this
  obtain⟨g4,g5⟩:=g1 r z;obtain⟨l1,l2,l3⟩:=hat j o r ho z hlive;have hst:=uv l1 g4 g5;have hstep:wpOpIn S.F 0 S.P ops Q j (λa' w'=>Sim S (bW rs j (fE (bW rs) (λi=>listed.getD i false) ops.size s.sig)) a' w') a w:=by
   have:=pu (Q:=Q) hK ho h l2 hst l3 (λk hk=>g2 r k z hk);simp only[bW,z];exact this
  have eset:∀i,(listed.setIfInBounds j true).getD i false=if i=j then true else listed.getD i false:=by
   intro i;simp only[qP,zO];by_cases e:j=i;subst e;simp[y,A];rw[if_neg e,if_neg (λh=>e h.symm)]
  refine wpOpIn_mono (λa' w' h'=>ih (listed.setIfInBounds j true) a' w' (by simpa using y) ?_ ?_ ?_ ?_ ?_) hstep;have:=KF y A hjun;omega;intro i hi hil;rw[eset];split;rfl;exact hk i hi hil;intro hqs;rw[eset,if_neg (λe=>hjq e.symm)];exact hql hqs;intro i p hip hp2 hb hlp;rw[eset]at hlp ⊢;split;rfl;split at hlp;rename_i e1;subst e1;exact hp i hip hb;exact hdc i p hip hp2 hb hlp;rw[show(λi=>(listed.setIfInBounds j true).getD i false)=λi=>if i=j then true else listed.getD i false from funext eset,g3];exact h'
end
end Go.Eng
namespace Go.Eng
open Go.RowKit
def OH(m:Mem)(nm:Nat):Bool:=m.any λp=>match p.2 with|.mat _ _ _ _ ov=>(AV.namesL (ov.map (·.2))).contains nm|_=>false
def gone(m m':Mem)(nm:Nat):Option Blk:=if OH m nm then none else match m'.lookup nm with|some _=>none|none=>m.lookup nm
theorem gi{m m':Mem}{nm:Nat}{b:Blk}(h:gone m m' nm=some b):m.lookup nm=some b/\m'.lookup nm=none/\OH m nm=false:=by
 unfold gone at h;split at h;cases h;rename_i j;split at h;cases h;rename_i f;exact⟨h,f,yS.2 j⟩
def Ns(m m':Mem)(nm n:Nat)(t:Ty):Option (List Ob×List t.den):=
 match gone m m' nm with
  |some (.buf _ t' xs [])=>if h:t'=t then some ([xs.length=n],h▸xs)else none|some (.buf _ (.sl e) xs [(i,.buf nm2 n2)])=>match gone m m' nm2 with
    |some (.buf _ e' zs [])=>if h:e'=e then if h2:Ty.sl e=t then some ([xs.length=n,zs.length=n2],h2▸Ep (α:=List e.den) xs i (h▸zs))else none else none|_=>none
  |some (.mat _ _ e xss [])=>if h:Ty.sl e=t then some ([xss.length=n],h▸xss)else none|_=>none
def I3:Value->Value->Bool|.tuple a,.tuple b=>a.isEmpty&&b.isEmpty|.slice none m n,.slice none m' n'=>m==m'&&n==n'|.pointer none,.pointer none=>true|.nilFunc,.nilFunc=>true|.nilIface,.nilIface=>true|_,_=>false
theorem NG{v v':Value}(h:I3 v v'=true):v=v':=by
 unfold I3 at h;split at h<;>first
  |cases h;done
  |rfl
  |simp_all
instance (v v':Value):CoeDep Prop (v=v') Ob:=⟨⟨v=v',I3 v v',NG⟩⟩
mutual
def leA(m m':Mem):AV->AV->Option (List Ob)
 |a,b=>match b with
  |.top=>some []|b=>match a,b with
   |.dat t x,.dat t' y=>if h:t=t' then some [h▸x=y]else none|.val v,.dat t y=>match v,t,y with
    |.slice none 0 0,.sl _,y=>some [y=[]]|_,_,_=>none
   |.val v,.buf nm n=>match v,m.lookup nm,m'.lookup nm with
    |.slice none 0 0,none,some (.buf _ _ ys [])=>some [n=0,ys=[]]|_,_,_=>none
   |.val v,.val v'=>some [v=v']|.buf nm n,.buf nm' n'=>if nm=nm' then match m.lookup nm with|some _=>some [n=n']|none=>none else none
   |.buf nm n,.dat t y=>match t,y with
    |.sl t,y=>match Ns m m' nm n t with|some (ns,xs)=>some (ns++([xs=y]:List Ob))|none=>none
    |_,_=>none
   |.ptr nm g i c,.ptr nm' g' i' c'=>if nm=nm' then match m.lookup nm with|some _=>some [g=g',i=i',c=c']|none=>none else none
   |.ptr nm g i c,.ip t y=>match gone m m' nm with
    |some (.var cs)=>match cV t (cs.drop c)with
     |some (x,_)=>some [1=g,i=0,x=y]|none=>none
    |_=>none
   |.ip t x,.ip t' y=>if h:t=t' then some [h▸x=y]else none|.agg cs,.agg cs'=>leL m m' cs cs'|.tup cs,.tup cs'=>leL m m' cs cs'|.fn f cs,.fn f' cs'=>if f=f' then leL m m' cs cs' else none|.clo1 a r p g,.clo1 a' r' p' g'=>some [AV.clo1 a r p g=AV.clo1 a' r' p' g']|.clo2 a b r p g,.clo2 a' b' r' p' g'=>some [AV.clo2 a b r p g=AV.clo2 a' b' r' p' g']|.ifc t a,.ifc t' b=>if t=t' then leA m m' a b else none|.grd g a,b=>match leA m m' a b with|some ns=>some ((g=true)::ns)|none=>none
   |.ptr nm g i c,.ipv b=>match gone m m' nm with
    |some (.var cs)=>match cs.drop c with
     |x::_=>if nameless x then some [1=g,i=0,x=b]else none|[]=>none
    |_=>none
   |.ptr nm g i 0,.ia t y=>match gone m m' nm with
    |some (.buf _ t' xs [])=>if h:t'=t then some [xs.length=g,i=0,h▸xs=y]else none|_=>none
   |.ipv a,.ipv b=>leA m m' a b|.ips cs,.ips cs'=>leL m m' cs cs'|.slv cs,.slv cs'=>leL m m' cs cs'|.ia t x,.ia t' y=>if h:t=t' then some [h▸x=y]else none|.yld l,.yld l'=>some [l=l']|.av t x,.av t' y=>if h:t=t' then some [h▸x=y]else none|.pin u a,.pin u' b=>match leA m m' a b with|some ns=>some ((u=u')::ns)|none=>none
   |_,_=>none
def leL(m m':Mem):List AV->List AV->Option (List Ob)
 |[],[]=>some []|a::qz,b::bs=>match leA m m' a b,leL m m' qz bs with
  |some p,some q=>some (p++q)|_,_=>none
 |_,_=>none
end
def aBl(m m':Mem)(t:Ty)(xs ys:List t.den)(i:Nat)(v:AV):Option (List Ob):=
 match t,xs,ys,v with
 |.sl e,xs,ys,.buf nm2 n2=>match Ns m m' nm2 n2 e with
  |some (ns,zs)=>some (ns++([Ep (α:=List e.den) xs i zs=ys]:List Ob))|none=>none
 |_,_,_,_=>none
def LO(m m':Mem)(eli:TypeId)(e:Ty)(xs ys:List (List e.den))(i:Nat):AV->Option (List Ob)
 |.buf nm2 n2=>match m'.lookup nm2,m.lookup nm2 with
  |none,some (.buf el2 e2 zs [])=>if el2=eli then if h:e2=e then some [zs.length=n2,Ep (α:=List e.den) xs i (h▸zs)=ys]else none else none|_,_=>none
 |_=>none
def WU(e:Ty)(t:Ty)(xs:List t.den)(ys:List (List e.den)):Option (List Ob):=
 if h:t=.sl e then if e.sz=1 then some [(h▸xs:List (Ty.den (.sl e)))=ys,Fh ys]else none else none
def leB(m m':Mem):Blk->Blk->Option (List Ob)
 |.var cs,.var cs'=>leL m m' cs cs'|.buf el t xs ov,.buf el' t' ys ov'=>if el=el' then if h:t=t' then match ov,ov' with
   |[],[]=>some [h▸xs=ys]|[(i,v)],[(i',v')]=>match leA m m' v v' with
    |some ns=>some ((h▸xs=ys)::(i=i')::ns)|none=>none
   |[(i,v)],[]=>aBl m m' t' (h▸xs) ys i v|_,_=>none
  else none else none
 |.buf el t xs [],.mat el' _ e ys []=>if el=el' then WU e t xs ys else none|.mat el eli e xs ov,.mat el' eli' e' ys ov'=>if el=el'/\eli=eli' then if h:e=e' then match ov,ov' with
   |[],[]=>some [h▸xs=ys]|[(i,v)],[(i',v')]=>match leA m m' v v' with
    |some ns=>some ((h▸xs=ys)::(i=i')::ns)|none=>none
   |[(i,v)],[]=>LO m m' eli e' (h▸xs) ys i v|_,_=>none
  else none else none
 |_,_=>none
def leM(m m':Mem):Mem->Option (List Ob)
 |[]=>some []|(nm,b')::r=>match(match m.lookup nm with
     |some b=>leB m m' b b'|none=>match b' with
      |.buf _ _ ys []=>some [ys=[]]|_=>none),leM m m' r with
  |some p,some q=>some (p++q)|_,_=>none
def Ah:Mem->List Nat|[]=>[]|(nm,.mat _ _ _ _ (_::_))::r=>nm::Ah r|_::r=>Ah r
def Ov(s s':St):Option (List Ob):=
 if s.tm.length=s'.tm.length/\(Ah s.mem).length<=1 then match leL s.mem s'.mem s.tm s'.tm,leM s.mem s'.mem s'.mem,leL s.mem s'.mem s.sv s'.sv with|some p,some q,some r=>some (p++q++r)|_,_,_=>none
 else none
section
variable {S:Base}{s s':St}{a:Act}{w:World}{D:Nat->Prop}{E:Nat->Ent}
def YN(m m':Mem)(D:Nat->Prop)(E:Nat->Ent)(b:Nat):Prop:=D b\/(∃nm blk,m.lookup nm=some blk/\m'.lookup nm=none/\OH m nm=false/\(E nm).isNil=false/\b=(E nm).b)\/∃nm i,m'.lookup nm=none/\cC (λk=>m.lookup k) E nm i b
def aAw(E:Nat->Ent)(nm:Nat):Blk->Nat->Nat×Nat|.mat _ _ _ _ [(i,.buf nm2 _)]=>λk=>if k=i then((E nm2).b,(E nm2).cap)else(E nm).rb k|_=>(E nm).rb
def yf(m:Mem)(E:Nat->Ent)(nm:Nat):Ent:=match m.lookup nm with|some b=>⟨(E nm).b,(E nm).cap,(E nm).isNil,aAw E nm b⟩|none=>⟨0,0,true,noR⟩
theorem Ib{m:Mem}{E:Nat->Ent}{nm:Nat}{b:Blk}(h:m.lookup nm=some b):yf m E nm=⟨(E nm).b,(E nm).cap,(E nm).isNil,aAw E nm b⟩:=by unfold yf;rw[h]
theorem w9{m:Mem}{E:Nat->Ent}{nm:Nat}{b:Blk}(h:m.lookup nm=some b)(n:Nat):(yf m E nm).handle n=(E nm).handle n:=by rw[Ib h];rfl
def OR(s:St)(w:World)(D:Nat->Prop)(E:Nat->Ent):Ctx:=⟨w,D,s.sig.m,E⟩
def ctx1(s s':St)(w:World)(D:Nat->Prop)(E:Nat->Ent):Ctx:=⟨w,YN s.mem s'.mem D E,s'.sig.m,yf s.mem E⟩
theorem jw(h:aL S s.sig a w D E){nm:Nat}{el:TypeId}{t:Ty}{xs:List t.den}{ov:List (Nat×AV)}(hm:s.mem.lookup nm=some (.buf el t xs ov)):
  ∃raw,bX S.P (OR s w D E) t xs ov raw/\raw.length=xs.length*t.sz/\
   (((E nm).isNil=true/\xs=[]/\(E nm).handle xs.length=.slice none 0 0)\/
    ((E nm).isNil=false/\(E nm).handle xs.length=.slice (some ⟨(E nm).b,0,none⟩) xs.length (E nm).cap/\xs.length<=(E nm).cap/\cO w (E nm).b 0 raw)):=by
 obtain⟨raw,y,r2⟩:=h.bl nm _ hm;refine⟨raw,r2,y.1,?_⟩;cases f:(E nm).isNil with
 |true=>
  have A:(E nm).handle xs.length=.slice none 0 0:=by unfold Ent.handle;rw[f];rfl
  rw[A]at y;rcases y.2 with⟨_,hz⟩|⟨g,cap,L,z,_⟩;exact .inl ⟨rfl,vK hz,A⟩;cases z
 |false=>
  have A:(E nm).handle xs.length=.slice (some ⟨(E nm).b,0,none⟩) xs.length (E nm).cap:=by unfold Ent.handle;rw[f];rfl
  rw[A]at y;refine .inr ⟨rfl,A,?_,λj u X=>?_⟩;rcases y.2 with⟨z,_⟩|⟨g,cap,L,z,_,_,hle,_⟩;cases z;simp only[yH,yE]at z;omega;have G:j<xs.length*t.sz:=by rw[<- y.1];exact(qC.1 X).1
  show w.cell? ⟨(E nm).b,0+j,none⟩=some u;rw[zG,y.cellAt j G];exact X
theorem bV{m m':Mem}:∀b,D b->YN m m' D E b:=λ_ h=>.inl h
theorem mQ(h:aL S s.sig a w D E){nm:Nat}{el:TypeId}{t:Ty}{xs:List t.den}(hg:gone s.mem s'.mem nm=some (.buf el t xs [])):
  ae w (YN s.mem s'.mem D E) (.sl t) xs [(E nm).handle xs.length]:=by
 obtain⟨hm,A,hf⟩:=gi hg;obtain⟨raw,r1,r2,r3⟩:=jw h hm;rcases r3 with⟨_,rfl,e⟩|⟨f,e,G,hc⟩;rw[e];exact bf _ _ _;rw[e];refine⟨_,_,rfl,G,(λh=>by cases h),(λad L _=>by cases L;rfl),λi y hy=>?_⟩;have X:=r1 i y hy;simp only[List.lookup]at X;refine⟨_,_,rfl,.inr (.inl ⟨nm,_,hm,A,hf,f,rfl⟩),?_,au bV (λ_ _=>rfl) X⟩;intro j u z;rw[vV]at z;split at z;rw[vF]at z;have:=hc (i*t.sz+j) u z;show w.cell? ⟨(E nm).b,0+i*t.sz+j,none⟩=some u;rw[zG]at this ⊢;exact this;cases z
theorem GN(h:aL S s.sig a w D E){nm:Nat}{el eli:TypeId}{t:Ty}{xss:List (List t.den)}(hg:gone s.mem s'.mem nm=some (.mat el eli t xss [])):
  ae w (YN s.mem s'.mem D E) (.sl (.sl t)) xss [(E nm).handle xss.length]:=by
 obtain⟨hm,hno,hf⟩:=gi hg;obtain⟨h0,raw,r1,r2⟩:=h.bl nm _ hm;cases f:(E nm).isNil with
 |true=>
  have e3:(E nm).handle xss.length=.slice none 0 0:=by unfold Ent.handle;rw[f];rfl
  rw[e3]at r1 ⊢;rcases r1.2 with⟨_,G⟩|⟨g,cap,cur,A,_⟩;have:xss=[]:=vK G;subst this;exact bf _ _ _;cases A
 |false=>
  have e3:(E nm).handle xss.length=.slice (some ⟨(E nm).b,0,none⟩) xss.length (E nm).cap:=by unfold Ent.handle;rw[f];rfl
  rw[e3]at r1 ⊢;have X:xss.length<=(E nm).cap:=by
   rcases r1.2 with⟨A,_⟩|⟨g,cap,cur,A,_,_,X,_⟩;cases A;simp only[yH,yE]at A;omega
  refine⟨_,_,rfl,X,(λh=>by cases h),(λad had _=>by cases had;rfl),λi row hi=>?_⟩;obtain⟨u,g1,g2⟩:=r2 i row hi;simp only[List.lookup]at g2;obtain⟨ao,cap,q2,k1,k0,k2⟩:=g2;refine⟨_,[u],rfl,.inr (.inl ⟨nm,_,hm,hno,hf,f,rfl⟩),?_,?_⟩;intro j v hj;cases j with
  |succ j=>simp at hj|zero=>
   simp at hj;subst hj;have L:i<xss.length*1:=by have:=(qC.1 hi).1;omega
   show w.cell? ⟨(E nm).b,0+i*1+0,none⟩=some u;rw[zG,xI,xZ,r1.cellAt i L];exact g1
  by_cases hp:0<row.length;obtain⟨p1,p2,p3⟩:=k2 hp;subst k1 p1;have hle2:row.length<=cap:=by
   rcases p2.2 with⟨A,_⟩|⟨g,cap',cur,A,_,_,X,_⟩;cases A;simp only[yH,yE]at A;omega
  refine⟨_,_,rfl,hle2,(λh=>by cases h),(λad had _=>by cases had;rfl),λj y hy=>?_⟩;have hr:=p3 j y hy;simp only[List.lookup]at hr;refine⟨_,_,rfl,.inr (.inr ⟨nm,i,hno,el,eli,t,xss,[],row,hm,rfl,hi,hp,rfl⟩),?_,au bV (λ_ _=>rfl) hr⟩;intro z v G;rw[vV]at G;split at G;rename_i hz1;rw[vF]at G;have hj:=(qC.1 hy).1;have L:j*t.sz+z<row.length*1:=by rw[h0]at hz1 ⊢;omega
  show w.cell? ⟨((E nm).rb i).1,0+j*t.sz+z,none⟩=some v;rw[zG,p2.cellAt _ L];exact G;cases G;have:row=[]:=vK Z;subst this k1;exact⟨ao,cap,rfl,wK _,k0,λ_ _ h=>absurd h (xP _),λj y hy=>by cases hy⟩
theorem Bc(h:aL S s.sig a w D E){nm n:Nat}{t:Ty}{ns:List Ob}{xs:List t.den}{v:Value}(hc:Ns s.mem s'.mem nm n t=some (ns,xs))(hn:∀q∈ns,q)
  (hv:(AV.buf nm n).rel S.P (OR s w D E) v):ae w (YN s.mem s'.mem D E) (.sl t) xs [v]:=by
 unfold Ns at hc;split at hc;rename_i el t' z G;obtain⟨hm,hno,hf⟩:=gi G;split at hc;rename_i ht;subst ht;cases hc;have f:z.length=n:=Ob.get hn (by simp);have X:=(hv _ hm).2 f;rw[<- f]at X;rw[X];exact mQ h G;cases hc;rename_i el e z i nm2 n2 G;obtain⟨hm,hno,hf⟩:=gi G;split at hc;case h_2=>cases hc
 rename_i el2 e' zs hgo2;obtain⟨hm2,hno2,hf2⟩:=gi hgo2;split at hc;case isFalse=>cases hc
 rename_i he;subst he;split at hc;case isFalse=>cases hc
 rename_i ht;subst ht;cases hc;have f:z.length=n:=Ob.get hn (by simp);have L:zs.length=n2:=Ob.get hn (by simp);have X:=(hv _ hm).2 f;rw[<- f]at X;obtain⟨raw,r1,r2,r3⟩:=jw h hm;simp only[Ty.sz,xI]at r2;rcases r3 with⟨_,hx,e⟩|⟨hnil,e,hle,hc⟩;have:z=[]:=hx;subst this;have e1:v=.slice none 0 0:=X.trans e;rw[e1];exact bf _ _ _;have e1:=X.trans e;rw[e1];refine⟨_,_,by rw[Ep,zX],by rw[Ep,zX];exact hle,(λh=>by cases h),(λad had _=>by cases had;rfl),λk y hy=>?_⟩;have A:(List.set z i zs)[k]?=some y:=hy;have hk:k<z.length:=by have:=(qC.1 A).1;rwa [zX]at this
 have hx:=r1 k _ (qB hk);refine⟨⟨(E nm).b,0,none⟩,(raw.drop (k*1)).take 1,rfl,.inr (.inl ⟨nm,_,hm,hno,hf,hnil,rfl⟩),?_,?_⟩;intro j u hj;rw[vV]at hj;split at hj;rename_i hj1;rw[vF]at hj;have:=hc (k*1+j) u hj;show w.cell? ⟨(E nm).b,0+k*1+j,none⟩=some u;rw[zG]at this ⊢;exact this;cases hj;rw[vS]at A;split at A;rename_i eik;subst eik;rw[if_pos hk]at A;cases A;simp only[List.lookup,xY]at hx;obtain⟨_,u,hu,_,hur⟩:=hx;have e4:(raw.drop (i*1)).take 1=[u]:=by
  rw[xI];apply wQ;intro q;rw[vV];cases q with
  |zero=>simp[hu]|succ q=>simp
 rw[e4,(hur _ hm2).2 L,<- L];exact mQ h hgo2;rename_i hne;have hb:(k==i)=false:=by simpa using λe=>hne e.symm
 simp only[List.lookup,hb]at hx;have:y=z[k]:=by rw[qB hk]at A;exact(wE A).symm
 rw[this];exact au bV (λ_ _=>rfl) hx;rename_i el eli e xss G;obtain⟨hm,hno,hf⟩:=gi G;split at hc;case isFalse=>cases hc
 rename_i ht;subst ht;cases hc;have f:xss.length=n:=Ob.get hn (by simp);have X:=(hv _ hm).2 f;rw[<- f]at X;rw[X];exact GN h G;cases hc
theorem Tm{t f:Ty}{x:t.den}{y:f.den}{w:World}{D:Nat->Prop}{us:Lv}(h:t=f)(e:h▸x=y)(j:ae w D t x us):ae w D f y us:=by
 subst h;simp only at e;subst e;exact j
def Names(m m':Mem):Prop:=∀nm b b',m.lookup nm=some b->m'.lookup nm=some b'->b.len=b'.len/\b.es=b'.es
mutual
theorem mA(h:aL S s.sig a w D E)(hN:Names s.mem s'.mem):∀{x y:AV}{ns:List Ob}{v:Value},leA s.mem s'.mem x y=some ns->(∀q∈ns,q)->x.rel S.P (OR s w D E) v->y.rel S.P (ctx1 s s' w D E) v
 |x,y,ns,v,hc,f,z=>by
  unfold leA at hc;split at hc;trivial;rename_i hnt;split at hc
  ·
   split at hc;rename_i ht;cases hc;exact au bV (λ_ _=>rfl) (Tm ht (Ob.get f (by simp)) z);cases hc
  ·
   split at hc;rename_i e0 y0;cases hc;have hy:y0=[]:=f _ (qX.2 rfl);simp only[AV.rel]at z;subst z hy;exact bf _ _ _;cases hc
  ·
   rename_i u nm n;split at hc;rename_i el ty ys G hm';cases hc;have h1:n=0:=Ob.get f (by simp);have h2:ys=[]:=Ob.get f (by simp);simp only[AV.rel]at z;subst z;intro b hb;have e:b=.buf el ty ys []:=wE (hb.symm.trans hm');subst e h1 h2;refine⟨qL _,λ_=>?_⟩;show _=(yf s.mem E nm).handle 0;unfold yf;rw[G];rfl;cases hc
  cases hc;have e:_=_:=f _ (qX.2 rfl);simp only[AV.rel]at z ⊢;rw[z];exact e
  ·
   rename_i nm n nm' n';split at hc;case isFalse=>cases hc
   rename_i e;subst e;split at hc;case h_2=>cases hc
   rename_i blk hm;cases hc;have e2:n=n':=Ob.get f (by simp);subst e2;intro b' hb';obtain⟨l1,l2⟩:=hN nm blk b' hm hb';obtain⟨X,g2⟩:=z blk hm;refine⟨Z,λe=>?_⟩;show v=(yf s.mem E nm).handle n;rw[w9 hm];exact g2 Z
  ·
   rename_i nm n t y;split at hc;rename_i t y;split at hc;rename_i ns' xs hd;cases hc;have e:xs=y:=Ob.get f (by simp);subst e;exact Bc h hd (λq hq=>f q (by simp[hq])) z;cases hc;cases hc
  ·
   rename_i nm g i c nm' g' i' c';split at hc;case isFalse=>cases hc
   rename_i e;subst e;split at hc;case h_2=>cases hc
   rename_i blk hm;cases hc;have e1:g=g':=Ob.get f (by simp);have e2:i=i':=Ob.get f (by simp);have e3:c=c':=Ob.get f (by simp);subst e1 e2 e3;intro b' hb';obtain⟨l1,l2⟩:=hN nm blk b' hm hb';obtain⟨X,g2⟩:=z blk hm;refine⟨Z,λe=>?_⟩;obtain⟨q1,q2,q3⟩:=g2 Z;have A:(E nm).isNil=false:=q2;refine⟨q1,?_,?_⟩;show(yf s.mem E nm).isNil=false;rw[Ib hm];exact A;show v=.pointer (some ⟨(yf s.mem E nm).b,_,none⟩);rw[Ib hm,<- l2];exact q3
  ·
   rename_i nm g i c t y;split at hc;case h_2=>cases hc
   rename_i cs L;obtain⟨hm,G,hf⟩:=gi L;split at hc;case h_2=>cases hc
   rename_i x rest hof;cases hc;have e1:1=g:=Ob.get f (by simp);have e2:i=0:=Ob.get f (by simp);have e3:x=y:=Ob.get f (by simp);subst e2 e3;obtain⟨_,q2,q3⟩:=(z _ hm).2 e1;have A:(E nm).isNil=false:=q2;obtain⟨_,us,el,r1,r2⟩:=h.bl nm _ hm;have hd:=AV.relL_drop r2 c;obtain⟨u1,u2,e,p1,p2⟩:=cy hof hd;have q3':v=.pointer (some ⟨(E nm).b,c,none⟩):=by
    have:(Blk.var cs).es*0=0:=Nat.mul_zero _;rw[q3];show Value.pointer (some ⟨(E nm).b,0*_+c,none⟩)=_;rw[xE,zG]
   refine⟨(E nm).b,c,u1,q3',.inr (.inl ⟨nm,_,hm,G,hf,A,rfl⟩),?_,au bV (λ_ _=>rfl) p1⟩;intro j u hj;have r1':w.heap[(E nm).b]?=some (.cells us el (0,0)):=r1;show w.cell? ⟨(E nm).b,c+j,none⟩=some u;rw[qDe w _ _ us el (0,0) r1'];have:(us.toList.drop c)[j]?=some u:=by rw[e,vU (qC.1 hj).1];exact hj
   rw[vF]at this;simpa using this
  split at hc;rename_i ht;cases hc;obtain⟨b,off,us,X,g2,g3,g4⟩:=z;exact⟨b,off,us,X,.inl g2,g3,au bV (λ_ _=>rfl) (Tm ht (Ob.get f (by simp)) g4)⟩;cases hc;obtain⟨us,e,g⟩:=z;exact⟨us,e,my h hN hc f g⟩;obtain⟨us,e,g⟩:=z;exact⟨us,e,my h hN hc f g⟩;split at hc;rename_i ef;subst ef;obtain⟨us,e,g⟩:=z;exact⟨us,e,my h hN hc f g⟩;cases hc;cases hc;have e:=f _ (qX.2 rfl);rw[<- e];exact AV.rel_mono (C:=OR s w D E) (C':=ctx1 s s' w D E) ⟨bV,λ_ _=>rfl⟩ (λnm hm=>by simp[AV.names]at hm) z;cases hc;have e:=f _ (qX.2 rfl);rw[<- e];exact AV.rel_mono (C:=OR s w D E) (C':=ctx1 s s' w D E) ⟨bV,λ_ _=>rfl⟩ (λnm hm=>by simp[AV.names]at hm) z;split at hc;rename_i et;subst et;obtain⟨u,e,g⟩:=z;exact⟨u,e,mA h hN hc f g⟩;cases hc;rename_i g x';split at hc;rename_i ns' hns;cases hc;have hg:g=true:=Ob.get f (by simp);exact mA h hN hns (λq hq=>f q (by simp[hq])) (z.1 hg);cases hc
  ·
   rename_i nm g i c b';split at hc;case h_2=>cases hc
   rename_i cs L;obtain⟨hm,G,hf⟩:=gi L;split at hc;case h_2=>cases hc
   rename_i x rest hdr;split at hc;case isFalse=>cases hc
   rename_i hnl;cases hc;have e1:1=g:=Ob.get f (by simp);have e2:i=0:=Ob.get f (by simp);have e3:x=b':=Ob.get f (by simp);subst e2 e3;obtain⟨_,q2,q3⟩:=(z _ hm).2 e1;have A:(E nm).isNil=false:=q2;obtain⟨_,us,el,r1,r2⟩:=h.bl nm _ hm;have hd:=AV.relL_drop r2 c;rw[hdr]at hd;obtain⟨u,us',e,p1,p2⟩:=hd;have q3':v=.pointer (some ⟨(E nm).b,c,none⟩):=by
    rw[q3];show Value.pointer (some ⟨(E nm).b,0*_+c,none⟩)=_;rw[xE,zG]
   refine⟨(E nm).b,c,u,q3',.inr (.inl ⟨nm,_,hm,G,hf,A,rfl⟩),?_,sf (C:=OR s w D E) (C':=ctx1 s s' w D E) hnl ⟨bV,λ_ _=>rfl⟩ p1⟩;have r1':w.heap[(E nm).b]?=some (.cells us el (0,0)):=r1;show w.cell? ⟨(E nm).b,c,none⟩=some u;rw[qDe w _ _ us el (0,0) r1'];have:(us.toList.drop c)[0]?=some u:=by rw[e];rfl
   rw[vF]at this;simpa using this
  ·
   rename_i nm g i t y;split at hc;case h_2=>cases hc
   rename_i el t' xs L;obtain⟨hm,G,hf⟩:=gi L;split at hc;case isFalse=>cases hc
   rename_i ht;subst ht;cases hc;have e1:xs.length=g:=Ob.get f (by simp);have e2:i=0:=Ob.get f (by simp);have e3:xs=y:=Ob.get f (by simp);subst e2 e3;obtain⟨_,q2,q3⟩:=(z _ hm).2 e1;have A:(E nm).isNil=false:=q2;have hp:=mQ (s':=s') h L;have e4:(E nm).handle xs.length=.slice (some ⟨(E nm).b,0,none⟩) xs.length (E nm).cap:=by unfold Ent.handle;rw[A];rfl
   rw[e4]at hp;have q3':v=.pointer (some ⟨(E nm).b,0,none⟩):=by
    rw[q3];show Value.pointer (some ⟨(E nm).b,0*_+0,none⟩)=_;rw[xE]
   exact⟨(E nm).b,0,q3',FT hp _ (qL _)⟩
  obtain⟨b,off,u,X,g2,g3,g4⟩:=z;exact⟨b,off,u,X,.inl g2,g3,mA h hN hc f g4⟩;obtain⟨b,off,us,X,g2,g3,g4⟩:=z;exact⟨b,off,us,X,.inl g2,g3,my h hN hc f g4⟩;obtain⟨b,off,us,X,g2,g3,g4⟩:=z;have g5:=my h hN hc f g4;have el:=(AV.relL_length g4).trans (AV.relL_length g5).symm;exact⟨b,off,us,by rw[X,el],.inl g2,g3,g5⟩;split at hc;rename_i ht;cases hc;subst ht;have e:=f _ (qX.2 rfl);simp only at e;subst e;obtain⟨b,off,X,g2⟩:=z;exact⟨b,off,X,au bV (λ_ _=>rfl) g2⟩;cases hc;cases hc;have e:=f _ (qX.2 rfl);subst e;exact z;split at hc;rename_i ht;cases hc;subst ht;have e:=f _ (qX.2 rfl);simp only at e;subst e;obtain⟨us,X,g2,g3⟩:=z;exact⟨us,X,g2,λi y hy=>au bV (λ_ _=>rfl) (g3 i y hy)⟩;cases hc;split at hc;rename_i ns' hns;cases hc;exact⟨z.1.trans (Ob.get f (by simp)),mA h hN hns (λq hq=>f q (by simp[hq])) z.2⟩;cases hc;cases hc
theorem my(h:aL S s.sig a w D E)(G:Names s.mem s'.mem):∀{xs ys:List AV}{ns:List Ob}{vs:Lv},leL s.mem s'.mem xs ys=some ns->(∀q∈ns,q)->AV.relL S.P (OR s w D E) xs vs->AV.relL S.P (ctx1 s s' w D E) ys vs
 |[],[],ns,vs,hc,j,f=>f|x::xs,y::ys,ns,vs,hc,j,f=>by
  simp only[leL]at hc;split at hc;rename_i p q X L;cases hc;obtain⟨v,u,e,g1,g2⟩:=f;exact⟨v,u,e,mA h G X (λz A=>j z (qI.2 (.inl A))) g1,my h G L (λz A=>j z (qI.2 (.inr A))) g2⟩;cases hc
 |[],_::_,ns,vs,hc,j,f=>by simp[leL]at hc|_::_,[],ns,vs,hc,j,f=>by simp[leL]at hc
end
end
end Go.Eng
namespace Go.Eng
open Go.RowKit
theorem Au{m m':Mem}:∀{xs ys:List AV}{ns:List Ob},leL m m' xs ys=some ns->xs.length=ys.length
 |[],[],_,_=>rfl|x::xs,y::ys,ns,h=>by
  simp only[leL]at h;split at h;rename_i p q j f;simp[Au f];cases h
 |[],_::_,_,h=>by simp[leL]at h|_::_,[],_,h=>by simp[leL]at h
theorem YG{m m':Mem}:∀{xs ys:List AV}{ns:List Ob}{i:Nat}{y:AV},leL m m' xs ys=some ns->ys[i]?=some y->∃x p,xs[i]?=some x/\leA m m' x y=some p/\∀q∈p,q∈ns
 |[],[],_,i,y,_,h=>by simp at h|x::xs,y::ys,ns,i,z,h,hi=>by
  simp only[leL]at h;split at h;rename_i p q G A;cases h;cases i with
  |zero=>simp at hi;subst hi;exact⟨x,p,rfl,G,λz f=>qI.2 (.inl f)⟩|succ i=>
   simp at hi;obtain⟨j,u,X,g2,L⟩:=YG A hi;exact⟨j,u,by simpa using X,g2,λz f=>qI.2 (.inr (L z f))⟩
  cases h
 |[],_::_,_,_,_,h,_=>by simp[leL]at h|_::_,[],_,_,_,h,_=>by simp[leL]at h
theorem aAb{m m':Mem}{b u:Blk}{ns:List Ob}(h:leB m m' b u=some ns)(f:∀q∈ns,q):b.len=u.len/\b.es=u.es:=by
 unfold leB at h;split at h;exact⟨rfl,Au h⟩;split at h;case isFalse=>cases h
 split at h;case isFalse=>cases h
 rename_i j;subst j;split at h;cases h;have e:=f _ (qX.2 rfl);simp only at e;subst e;exact⟨rfl,rfl⟩;split at h;cases h;have e:=f _ (wL);simp only at e;subst e;exact⟨rfl,rfl⟩;cases h;unfold aBl at h;split at h;split at h;cases h;have e:=f _ (qI.2 (.inr (qX.2 rfl)));subst e;exact⟨by simp[Blk.len,Ep],rfl⟩;cases h;cases h;cases h;split at h;case isFalse=>cases h
 unfold WU at h;split at h;case isFalse=>cases h
 rename_i j;subst j;split at h;case isFalse=>cases h
 cases h;have e:=f _ wL;simp only at e;subst e;exact⟨rfl,rfl⟩;split at h;case isFalse=>cases h
 split at h;case isFalse=>cases h
 rename_i j;subst j;split at h;cases h;have e:=f _ (qX.2 rfl);simp only at e;subst e;exact⟨rfl,rfl⟩;split at h;cases h;have e:=f _ (wL);simp only at e;subst e;exact⟨rfl,rfl⟩;cases h;unfold LO at h;split at h;split at h;split at h;case isFalse=>cases h
 split at h;case isFalse=>cases h
 rename_i y;subst y;cases h;have e:=f _ (wX _ (qX.2 rfl));subst e;exact⟨by simp[Blk.len,Ep],rfl⟩;cases h;cases h;cases h;cases h
section
variable {S:Base}{s s':St}{a:Act}{w:World}{D:Nat->Prop}{E:Nat->Ent}
theorem LN{m m':Mem}:∀{l:Mem}{ns:List Ob}{nm:Nat}{u:Blk},leM m m' l=some ns->l.lookup nm=some u->(∀q∈ns,q)->
  (∃b p,m.lookup nm=some b/\leB m m' b u=some p/\∀q∈p,q)\/(m.lookup nm=none/\∃el t,u=.buf el t [] [])
 |[],_,_,_,_,h,_=>by simp at h|(k,L)::r,ns,nm,u,h,j,A=>by
  simp only[leM]at h;split at h;case h_2=>cases h
  rename_i p q f G;cases h;simp only[List.lookup]at j;split at j;rename_i e;cases j;have e:nm=k:=by simpa using e
  subst e;split at f;rename_i b hb;exact .inl ⟨b,p,hb,f,λz y=>A z (qI.2 (.inl y))⟩;rename_i hb;split at f;cases f;have e:_=[]:=A _ (qI.2 (.inl (qX.2 rfl)));subst e;exact .inr ⟨hb,_,_,rfl⟩;cases f;exact LN G j (λz y=>A z (qI.2 (.inr y)))
theorem WE{p:List Ob}(h:leM s.mem s'.mem s'.mem=some p)(u:∀q∈p,q):Names s.mem s'.mem:=by
 intro nm b A hb j;rcases LN h j u with⟨c,ps,f,z,y⟩|⟨f,_⟩;rw[hb]at f;cases f;exact aAb z y;rw[hb]at f;cases f
theorem WT(h:aL S s.sig a w D E){t:Ty}{xs ys:List t.den}{i:Nat}{v:AV}{ns:List Ob}{e:Ent}{el:TypeId}{raw:Lv}(hc:aBl s.mem s'.mem t xs ys i v=some ns)(hn:∀q∈ns,q)
  (r1:w.ownsRow 0 el t.sz (e.handle xs.length) xs.length raw) (r2:bX S.P (OR s w D E) t xs [(i,v)] raw):
  dQ S.P 0 (ctx1 s s' w D E) e (.buf el t ys []):=by
 cases t with
 |sl X=>
  cases v with
  |buf nm2 n2=>
   simp only[aBl]at hc;split at hc;case h_2=>cases hc
   rename_i ns' zs hz;cases hc;have ex:Ep (α:=List X.den) xs i zs=ys:=hn _ (qI.2 (.inr (qX.2 rfl)));subst ex;refine⟨raw,by rw[Ep,zX];exact r1,λk y hy=>?_⟩;have f:(List.set xs i zs)[k]?=some y:=hy;have G:k<xs.length:=by have:=(qC.1 f).1;rwa [zX]at this
   have j:=r2 k _ (qB G);simp only[List.lookup];rw[vS]at f;split at f;rename_i L;subst L;rw[if_pos G]at f;cases f;simp only[List.lookup,xY]at j;obtain⟨_,u,hu,_,z⟩:=j;have e4:(raw.drop (i*(Ty.sl X).sz)).take (Ty.sl X).sz=[u]:=by
    simp only[Ty.sz,xI];apply wQ;intro q;rw[vV];cases q with
    |zero=>simp[hu]|succ q=>simp
   rw[e4];exact Bc h hz (λq hq=>hn q (qI.2 (.inl hq))) z;rename_i A;have hb:(k==i)=false:=by simpa using λe=>A e.symm
   simp only[List.lookup,hb]at j;have:y=xs[k]:=by rw[qB G]at f;exact(wE f).symm
   rw[this];exact au bV (λ_ _=>rfl) j
  |_=>simp[aBl]at hc
 |_=>simp[aBl]at hc
theorem xb{nm k i:Nat}{v:AV}{el f:TypeId}{t:Ty}{xss:List (List t.den)}(h:k≠i):aAw E nm (.mat el f t xss [(i,v)]) k=(E nm).rb k:=by
 cases v<;>first
  |rfl
  |(show(if k=i then _ else(E nm).rb k)=_;rw[if_neg h])
theorem QV{nm k:Nat}{X:TypeId}{t:Ty}{row:List t.den}{u:Value}(f:(yf s.mem E nm).rb k=(E nm).rb k)(hr:IN S.P 0 (OR s w D E) (E nm) X t k row u):IN S.P 0 (ctx1 s s' w D E) (yf s.mem E nm) X t k row u:=by
 obtain⟨ao,cap,j,z,A,y⟩:=hr;refine⟨ao,cap,j,z,A,λhp=>?_⟩;obtain⟨L,k2,G⟩:=y hp;exact⟨by rw[f];exact L,k2,bh (C:=OR s w D E) (C':=ctx1 s s' w D E) ⟨bV,λ_ _=>rfl⟩ (λnm h=>by cases h) G⟩
theorem aAa(h:aL S s.sig a w D E)(hN:Names s.mem s'.mem){nm:Nat}{b b':Blk}{ns:List Ob}(hm:s.mem.lookup nm=some b)(hc:leB s.mem s'.mem b b'=some ns)(A:∀q∈ns,q):
  dQ S.P 0 (ctx1 s s' w D E) (yf s.mem E nm) b':=by
 have hb:dQ S.P 0 (OR s w D E) (E nm) b:=h.bl nm b hm;have hE:=Ib (E:=E) hm;have hH:=w9 (E:=E) hm;unfold leB at hc;split at hc;obtain⟨h0,us,el,h1,h2⟩:=hb;exact⟨by rw[hE];exact h0,us,el,by rw[hE];exact h1,my h hN hc A h2⟩;split at hc;case isFalse=>cases hc
 rename_i he;subst he;split at hc;case isFalse=>cases hc
 rename_i ht;subst ht;obtain⟨raw,G,r2⟩:=hb;split at hc;cases hc;have ex:=A _ (qX.2 rfl);simp only at ex;subst ex;refine⟨raw,by rw[hH];exact G,λi y hy=>?_⟩;have g:=r2 i y hy;simp only[List.lookup]at g ⊢;exact au bV (λ_ _=>rfl) g;rename_i i v i' v';split at hc;rename_i ns' hv;cases hc;have ex:=A _ (wL);have ei:i=i':=Ob.get A (by simp);simp only at ex;subst ex ei;refine⟨raw,by rw[hH];exact G,λk y hy=>?_⟩;have g:=r2 k y hy;by_cases j:(k==i)=true;simp only[List.lookup,j]at g ⊢;obtain⟨g1,u,g2,g3,g4⟩:=g;exact⟨g1,u,g2,g3,mA h hN hv (λq hq=>A q (by simp[hq])) g4⟩;have j:(k==i)=false:=by simpa using j
 simp only[List.lookup,j]at g ⊢;exact au bV (λ_ _=>rfl) g;cases hc;exact WT h hc A (by rw[hH];exact G) r2;cases hc
 ·
  split at hc;case isFalse=>cases hc
  rename_i he;subst he;unfold WU at hc;split at hc;case isFalse=>cases hc
  rename_i ht;subst ht;split at hc;case isFalse=>cases hc
  rename_i hz;cases hc;have e1:=A _ wL;have e2:∀r∈_,r=[]:=A _ (wX _ (qX.2 rfl));simp only at e1;subst e1;obtain⟨raw,G,r2⟩:=hb;refine⟨hz,raw,by rw[hH];exact G,λi row hi=>?_⟩;have e3:=e2 row (qZ hi);subst e3;have g:=r2 i [] hi;simp only[List.lookup]at g ⊢;obtain⟨ao,cap,q1,q2,q3,_⟩:=g;refine⟨.slice ao 0 cap,?_,ao,cap,[],rfl,q3,λh=>absurd h (xP _)⟩;have:((raw.drop (i*1)).take 1)[0]?=some (.slice ao 0 cap):=by
   have q1':(raw.drop (i*1)).take 1=[.slice ao (List.length ([]:List _)) cap]:=q1;rw[q1'];rfl
  rw[vV,if_pos (by decide),vF]at this;simpa using this
 ·
  split at hc;case isFalse=>cases hc
  rename_i he;obtain⟨he1,he2⟩:=he;subst he1 he2;split at hc;case isFalse=>cases hc
  rename_i ht;subst ht;obtain⟨hz,raw,G,r2⟩:=hb;split at hc;cases hc;have ex:=A _ (qX.2 rfl);simp only at ex;subst ex;refine⟨hz,raw,by rw[hH];exact G,λi row hi=>?_⟩;obtain⟨u,g1,g2⟩:=r2 i row hi;simp only[List.lookup]at g2 ⊢;exact⟨u,g1,QV (by rw[hE];rfl) g2⟩;rename_i i v i' v';split at hc;rename_i ns' hv;cases hc;have ex:=A _ (wL);have ei:i=i':=Ob.get A (by simp);simp only at ex;subst ex ei;refine⟨hz,raw,by rw[hH];exact G,λk row hk=>?_⟩;obtain⟨u,g1,g2⟩:=r2 k row hk;refine⟨u,g1,?_⟩;by_cases j:(k==i)=true;simp only[List.lookup,j]at g2 ⊢;exact⟨g2.1,mA h hN hv (λq hq=>A q (by simp[hq])) g2.2⟩;have j:(k==i)=false:=by simpa using j
  simp only[List.lookup,j]at g2 ⊢;exact QV (by rw[hE];exact xb (by simpa using j)) g2;cases hc;rename_i i v;unfold LO at hc;split at hc;case h_2=>cases hc
  rename_i f n2;split at hc;case h_2=>cases hc
  rename_i el2 e2 zs hno2 hm2;split at hc;case isFalse=>cases hc
  rename_i hel;subst hel;split at hc;case isFalse=>cases hc
  rename_i ht2;subst ht2;cases hc;have ex:=A _ (wX _ (qX.2 rfl));have elen:zs.length=n2:=A _ wL;simp only at ex;subst ex;refine⟨hz,raw,by rw[hH,Ep,zX];exact G,λk row hk=>?_⟩;have z:(List.set _ i zs)[k]?=some row:=hk;have L:=(qC.1 z).1;rw[zX]at L;obtain⟨u,g1,g2⟩:=r2 k _ (qB L);refine⟨u,g1,?_⟩;simp only[List.lookup];rw[vS]at z;split at z;rename_i eik;subst eik;rw[if_pos L]at z;cases z;simp only[List.lookup,xY]at g2;obtain⟨_,hur⟩:=g2;have hu:=(hur _ hm2).2 elen;obtain⟨raw2,p1,p2⟩:=h.bl f _ hm2;have hu:u=(E f).handle zs.length:=by rw[elen];exact hu
  have hrb:(yf s.mem E nm).rb i=((E f).b,(E f).cap):=by rw[hE];show(if i=i then((E f).b,(E f).cap)else(E nm).rb i)=_;rw[if_pos rfl]
  cases X:(E f).isNil with
  |true=>
   have e3:(E f).handle zs.length=.slice none 0 0:=by unfold Ent.handle;rw[X];rfl
   rw[e3]at p1;rcases p1.2 with⟨_,hz0⟩|⟨g,cap,cur,hq,_⟩;have hz0':zs.length=0:=hz0;exact⟨none,0,[],by rw[hu,e3,hz0'],λ_=>rfl,λhp=>Z⟩;cases hq
  |false=>
   have e3:(E f).handle zs.length=.slice (some ⟨(E f).b,0,none⟩) zs.length (E f).cap:=by unfold Ent.handle;rw[X];rfl
   rw[hz]at p1;refine⟨_,_,raw2,by rw[hu,e3],λh=>by(cases h),λhp=>⟨by rw[hrb],by rw[hu];exact p1,?_⟩⟩;exact bh (C:=OR s w D E) (C':=ctx1 s s' w D E) ⟨bV,λ_ _=>rfl⟩ (λnm h=>by cases h) p2
  rename_i hne;have hb:(k==i)=false:=by simpa using λe=>hne e.symm
  simp only[List.lookup,hb]at g2;rw[qB L]at z;have erow:=wE z;rw[erow]at g2;exact QV (by rw[hE];exact if_neg (show ¬k=i by simpa using hb)) g2;cases hc
 cases hc
theorem Q7{p:List Ob}(hq:leM s.mem s'.mem s'.mem=some p)(hn:∀q∈p,q){nm i k:Nat}(hp:cC (λx=>s'.mem.lookup x) (yf s.mem E) nm i k):
  cC (λx=>s.mem.lookup x) E nm i k\/∃el eli t xss f n2 blk,s.mem.lookup nm=some (.mat el eli t xss [(i,.buf f n2)])/\s'.mem.lookup f=none/\s.mem.lookup f=some blk/\(blk.len≠0->True)/\0<blk.len/\(∃el2 t2 zs,blk=.buf el2 t2 zs [])/\k=(E f).b:=by
 obtain⟨el,eli,t,xss,ov,row,h1,h2,h3,h4,A⟩:=hp;rcases LN hq h1 hn with⟨b,ps,hm,hc,y⟩|⟨_,_,_,G⟩;rw[Ib hm]at A;simp only at A;unfold leB at hc;split at hc;rename_i G;cases G;rename_i G;cases G;rename_i hb G;cases G;split at hc;case isFalse=>cases hc
 unfold WU at hc;split at hc;case isFalse=>cases hc
 split at hc;case isFalse=>cases hc
 cases hc;have e2:∀r∈_,r=[]:=y _ (wX _ (qX.2 rfl));have:=e2 row (qZ h3);subst this;exact absurd h4 (xP _);rename_i el0 eli0 e0 xs0 ov0 el1 eli1 e1 ys1 ov1 G;cases G;split at hc;case isFalse=>cases hc
 split at hc;case isFalse=>cases hc
 rename_i ht;subst ht;split at hc;cases hc;have ex:=y _ (qX.2 rfl);simp only at ex;subst ex;left;replace A:k=((E nm).rb i).1:=A;exact⟨_,_,_,_,_,row,hm,rfl,h3,h4,A⟩;rename_i j v j' v';split at hc;rename_i ns' hv;cases hc;have ex:=y _ (wL);have ei:j=j':=Ob.get y (by simp);simp only at ex;subst ex ei;left;have u:i≠j:=λe=>by subst e;simp[List.lookup]at h2
 rw[xb u]at A;have z:(i==j)=false:=by simpa using u
 exact⟨_,_,_,_,_,row,hm,by simp[List.lookup,z],h3,h4,A⟩;cases hc;rename_i j v;unfold LO at hc;split at hc;case h_2=>cases hc
 rename_i f n2;split at hc;case h_2=>cases hc
 rename_i el2 e2 zs X hm2;split at hc;case isFalse=>cases hc
 split at hc;case isFalse=>cases hc
 rename_i ht2;subst ht2;cases hc;have ex:=y _ (wX _ (qX.2 rfl));simp only at ex;subst ex;have h:(List.set _ j zs)[i]?=some row:=h3;rw[vS]at h;by_cases u:j=i;subst u;rw[if_pos rfl]at h;split at h;cases h;right;refine⟨_,_,_,_,f,n2,_,hm,X,hm2,λ_=>trivial,h4,⟨_,_,_,rfl⟩,?_⟩;rw[A];show(if j=j then((E f).b,(E f).cap)else(E nm).rb j).1=_;rw[if_pos rfl];cases h;rw[if_neg u]at h;left;have L:i≠j:=λe=>u e.symm;rw[xb L]at A;have z:(i==j)=false:=by simpa using L
 exact⟨_,_,_,_,_,row,hm,by simp[List.lookup,z],h,h4,A⟩;cases hc;cases hc;cases G
theorem rh:∀{m:Mem}{nm:Nat}{el j:TypeId}{t:Ty}{xss:List (List t.den)}{p:Nat×AV}{r:List (Nat×AV)},m.lookup nm=some (.mat el j t xss (p::r))->nm∈Ah m
 |[],_,_,_,_,_,_,_,h=>by cases h
 |(k,b)::m,nm,el,j,t,xss,p,r,h=>by
  simp only[List.lookup]at h;split at h;rename_i e;have e:nm=k:=by simpa using e
  subst e;cases h;simp[Ah];have u:=rh h;unfold Ah;split;rename_i f;cases f;rename_i f;cases f;exact wX _ u;rename_i f;cases f;exact u
theorem oA{l:List Nat}(h:l.length<=1){a b:Nat}(f:a∈l)(hb:b∈l):a=b:=by
 match l,h with
 |[],_=>cases f
 |[x],_=>rw[qX.1 f,qX.1 hb]
def aC(m:Nat->Option Blk)(E:Nat->Ent)(b:Nat):Prop:=bD m E b\/∃nm i,cC m E nm i b
theorem aL.ownAll{S:Base}{σ:Sig}{a:Act}{w:World}{D:Nat->Prop}{E:Nat->Ent}(h:aL S σ a w D E){b:Nat}(hb:aC σ.m E b):(S.w0.heap.size<=b\/S.O b)/\b<w.heap.size/\¬D b:=by
 rcases hb with⟨nm,blk,j,g2,f⟩|⟨nm,i,g⟩;rw[f];exact h.own nm blk j g2;exact h.pv.own nm i b g
theorem Jb{ns:List Ob}(h:aL S s.sig a w D E)(hc:Ov s s'=some ns)(hn:∀q∈ns,q):
  ∃D' E',aL S s'.sig a w D' E'/\(∀b,D b->D' b)/\(∀b,D' b->D b\/aC s.sig.m E b)/\∀b,aC s'.sig.m E' b->aC s.sig.m E b:=by
 unfold Ov at hc;split at hc;case isFalse=>cases hc
 rename_i hone;obtain⟨_,hone⟩:=hone;split at hc;case h_2=>cases hc
 rename_i p q r hp hq hsv;cases hc;have hnp:∀z∈p,z:=λz hz=>hn z (qI.2 (.inl (qI.2 (.inl hz))));have hnq:∀z∈q,z:=λz hz=>hn z (qI.2 (.inl (qI.2 (.inr hz))));have hnr:∀z∈r,z:=λz hz=>hn z (qI.2 (.inr hz));have hN:=WE hq hnq;have keep:∀nm,(yf s.mem E nm).isNil=false->((yf s.mem E nm).b=(E nm).b/\(E nm).isNil=false)/\∃b,s.mem.lookup nm=some b:=λnm hm=>by
  unfold yf at hm ⊢;split at hm;rename_i b hb;exact⟨⟨rfl,hm⟩,b,hb⟩;cases hm
 have foldIn:∀nm el eli t xss i f n2,s.mem.lookup nm=some (.mat el eli t xss [(i,.buf f n2)])->OH s.mem f=true:=λnm el eli t xss i f n2 hm=>by
  unfold OH;rw[xO];exact⟨_,vu hm,by simp[AV.namesL,AV.names]⟩
 have hpv:fu S.w0.heap.size S.O s'.sig.m (yf s.mem E) w.heap.size (YN s.mem s'.mem D E):=by
  have src:=λ{nm i k:Nat} (hk:cC s'.sig.m (yf s.mem E) nm i k)=>Q7 (s:=s) (s':=s') (E:=E) hq hnq hk;have oF:∀{f blk},s.mem.lookup f=some blk->0<blk.len->(∃el2 t2 zs,blk=.buf el2 t2 zs [])->(E f).isNil=false:=by
   rintro f blk hm2 hl ⟨el2,t2,zs,rfl⟩;obtain⟨raw,_,_,r3⟩:=jw h hm2;rcases r3 with⟨_,hx,_⟩|⟨hx,_⟩;subst hx;exact absurd hl (xP _);exact hx
  refine⟨λnm i k hk=>?_,λnm i k hk G b' hb' hi e=>?_,λnm i k G j h1 h2=>?_⟩;have notD:∀(hD:¬D k) (hent:∀u blk,s.mem.lookup u=some blk->(E u).isNil=false->(E u).b=k->OH s.mem u=true) (hrow:∀u j,s'.mem.lookup u=none->cC s.sig.m E u j k->False),¬YN s.mem s'.mem D E k:=by
   rintro hD hent hrow (hd|⟨u,blk,A,k2,k3,X,k5⟩|⟨u,j,A,k2⟩);exact hD hd;rw[hent u blk A X k5.symm]at k3;cases k3;exact hrow u j A k2
  rcases src hk with g|⟨el,eli,t,xss,f,n2,blk,g1,g2,L,_,g4,g5,rfl⟩;obtain⟨q1,q2,q3⟩:=h.pv.own nm i k g;refine⟨q1,q2,notD q3 (λu blk A X k5=>(h.pv.ent nm i k g u blk A X k5).elim) λu j A k2=>?_⟩;obtain⟨e1,_⟩:=h.pv.inj nm i k u j g k2;subst e1;obtain⟨_,_,_,_,_,_,hx,_⟩:=hk;have hx':s'.mem.lookup nm=some _:=hx;rw[A]at hx';cases hx';have hi2:=oF L g4 g5;obtain⟨q1,q2,q3⟩:=h.own f blk L hi2;refine⟨q1,q2,notD q3 (λu blk3 A X k5=>?_) λu j A k2=>h.pv.ent u j _ k2 f blk L hi2 rfl⟩;have:=h.inj u f blk3 blk A L X hi2 k5;subst this;exact foldIn _ _ _ _ _ _ _ _ g1;obtain⟨⟨e1,e2⟩,c1,A⟩:=keep G hi;rw[e1]at e;rcases src hk with g|⟨el,eli,t,xss,f,n2,blk,g1,g2,L,_,g4,g5,rfl⟩;exact h.pv.ent nm i k g G c1 A e2 e;have:=h.inj G f c1 blk A L e2 (oF L g4 g5) e;subst this;have hb2:s'.mem.lookup G=some b':=hb';rw[g2]at hb2;cases hb2;rcases src h1 with g|⟨el,eli,t,xss,f,n2,blk,g1,g2,L,_,g4,g5,g6⟩<;>rcases src h2 with q|⟨el',eli',t',xss',nm2',n2',blk',q1,q2,q3,_,q4,q5,q6⟩
  exact h.pv.inj nm i k G j g q;exact(h.pv.ent nm i k g nm2' blk' q3 (oF q3 q4 q5) q6.symm).elim;exact(h.pv.ent G j k q f blk L (oF L g4 g5) g6.symm).elim;have:nm=G:=oA hone (rh g1) (rh q1);subst this;rw[g1]at q1;cases q1;exact⟨rfl,rfl⟩
 refine⟨YN s.mem s'.mem D E,yf s.mem E,⟨h.sz,⟨h.df.1,λd hd=>?_⟩,λt=>?_,λnm b' hb'=>?_,λnm b' hb' hi=>?_,λnm G b b' hb hb' hi hi' e=>?_,h.low,λb hb=>?_,λb hb=>.inl (h.dlo b hb),λb hb=>?_,jG.mono (C:=⟨w,D,s.sig.m,E⟩) ⟨λb hb=>.inl hb,λ_ _=>rfl⟩ h.gl,my h hN hsv hnr h.svr,hpv⟩,λb hb=>.inl hb,λb hb=>?_,λb hb=>?_⟩;rcases h.df.2 d hd with g|⟨k,g1,g2,L,g4⟩;exact .inl g;exact .inr ⟨k,g1,g2,.inl L,g4⟩;show(s'.tm.getD t .top).rel S.P (ctx1 s s' w D E) (a.tmps.getD t undef);rw[qA];cases ht:s'.tm[t]? with
 |none=>trivial|some y=>
  obtain⟨x,ps,g1,g2,L⟩:=YG hp ht;have hx:(s.tm.getD t .top).rel S.P (OR s w D E) (a.tmps.getD t undef):=h.tm t;rw[qA,g1]at hx;exact mA h hN g2 (λz hz=>hnp z (L z hz)) hx
 rcases LN hq hb' hnq with⟨b,ps,h1,h2,h3⟩|⟨h1,el,t,rfl⟩;exact aAa h hN h1 h2 h3;have ek:yf s.mem E nm=⟨0,0,true,noR⟩:=by unfold yf;rw[h1]
 rw[ek];exact⟨[],⟨by simp,.inl ⟨rfl,rfl⟩⟩,λi y hy=>by simp at hy⟩;obtain⟨⟨e1,e2⟩,b,hb⟩:=keep nm hi;rw[e1];obtain⟨g1,g2,L⟩:=h.own nm b hb e2;refine⟨g1,g2,λhd=>?_⟩;rcases hd with hd|⟨f,b2,A,k2,_,k3,X⟩|⟨f,i,A,k2⟩;exact L hd;have:nm=f:=h.inj nm f b b2 hb A e2 k3 X;subst this;have hb2:s'.mem.lookup nm=some b':=hb';rw[k2]at hb2;cases hb2;exact h.pv.ent f i _ k2 nm b hb e2 rfl;obtain⟨⟨e1,i1⟩,c1,h1⟩:=keep nm hi;obtain⟨⟨e2,i2⟩,c2,h2⟩:=keep G hi';rw[e1,e2]at e;exact h.inj nm G c1 c2 h1 h2 i1 i2 e;rcases hb with hb|⟨f,b2,A,k2,_,k3,X⟩|⟨f,i,A,k2⟩;exact h.dlt b hb;rw[X];exact(h.own f b2 A k3).2.1;exact(h.pv.own f i b k2).2.1;rcases hb with hb|⟨f,b2,A,k2,_,k3,X⟩|⟨f,i,A,k2⟩;exact h.dhi b hb;rw[X];exact .inr (h.own f b2 A k3).1;exact .inr (h.pv.own f i b k2).1;rcases hb with hb|⟨f,b2,A,k2,_,k3,X⟩|⟨f,i,A,k2⟩;exact .inl hb;exact .inr (.inl ⟨f,b2,A,k3,X⟩);exact .inr (.inr ⟨f,i,k2⟩);rcases hb with⟨nm,blk,g1,g2,L⟩|⟨nm,i,g⟩;obtain⟨⟨e1,e2⟩,c1,h1⟩:=keep nm g2;rw[e1]at L;exact .inl ⟨nm,c1,h1,e2,L⟩;rcases Q7 (s:=s) (s':=s') (E:=E) hq hnq g with g|⟨el,eli,t,xss,f,n2,blk,g1,g2,L,_,g4,⟨el2,t2,zs,rfl⟩,g6⟩;exact .inr ⟨nm,i,g⟩;refine .inl ⟨f,_,L,?_,g6⟩;obtain⟨raw,_,_,r3⟩:=jw h L;rcases r3 with⟨_,hx,_⟩|⟨hx,_⟩;subst hx;exact absurd g4 (xP _);exact hx
theorem EW{ns:List Ob}(h:Sim S s.sig a w)(hc:Ov s s'=some ns)(f:∀q∈ns,q):Sim S s'.sig a w:=by
 obtain⟨D,E,h⟩:=h;obtain⟨D',E',j,_⟩:=Jb h hc f;exact⟨D',E',j⟩
end
end Go.Eng
namespace Go.Eng
open Go.RowKit
structure Spec where
 α:Type
 inv:α->Prop
 st:α->St
 μ:α->Nat
 fin:List α:=[]
structure Ann where
 loop:Nat->St->Option Spec
 pre:Nat->St->Option St
 cut:Nat->St->Option Spec
def all:List Ob->Prop->Prop|[],q=>q|p::ps,q=>p.p/\all ps q
theorem bK:∀{l:List Ob}{q:Prop},all l q->(∀p∈l,p)/\q
 |[],_,h=>⟨λ_ h=>absurd h List.not_mem_nil,h⟩|p::ps,q,h=>by
  obtain⟨j,g2⟩:=bK h.2;refine⟨λr f=>?_,g2⟩;rcases zK.1 f with e|e;exact e▸h.1;exact j r e
def leP(s s':St):Prop:=match Ov s s' with|some ns=>all ns True|none=>False
def eI:Code->Option Nat
 |.region id _ _=>some id|.seq a b=>match eI a with|some i=>some i|none=>eI b
 |.cond _ a b=>match eI a with|some i=>some i|none=>eI b
 |.block _ b=>eI b|.loop b=>eI b|.scope b=>eI b|.rangeFunc _ _ a b=>match eI a with|some i=>some i|none=>eI b
 |_=>none
def dstsOf:Code->List Tmp|.region _ ops _=>ops.toList.filterMap (·.dst)|.seq a b=>dstsOf a++dstsOf b|.cond _ a b=>dstsOf a++dstsOf b|.block _ b=>dstsOf b|.loop b=>dstsOf b|.scope b=>dstsOf b|_=>[]
def o8:List Tmp->List AV->List AV|[],l=>l|t::ts,l=>o8 ts (l.set t .top)
def aBB:AV->AV|.val (.tuple _)=>.top|.grd _ _=>.top|a=>a
def MR(b:Code)(s:St):St:={s with tm:=o8 (dstsOf b) (s.tm.map aBB)}
def aCt(b:Code)(s:St):St:={MR b s with tm:=(MR b s).tm++s.tm}
def aFs(n:Nat)(s:St):St:={s with tm:=s.tm.take n}
def aCu(A:Ann)(id:Nat)(b:Code)(s:St):Option Spec:=match A.loop (id+1000000) (aCt b s)with|some sp=>some {α:=sp.α,inv:=sp.inv,st:=λx=>aFs s.tm.length (sp.st x),μ:=sp.μ}|none=>A.loop id (MR b s)
def XH(b:Bool)(p q:Prop):Prop:=(b=true->p)/\(b=false->q)
def TE:AV->Option (List Ob×Bool)|.dat .bool b=>some ([],b)|.grd g (.dat .bool b)=>some ([g=true],b)|_=>none
def aBf(c:Cfg)(ops:Array Oper)(draw:Bool)(s:St)(Q:St->Prop):Prop:=match aBg c ops draw s with|some (ns,s')=>all ns (Q s')|none=>False
def oL{α:Type}(xs:List α)(k:Nat)(x:α):Prop:=xs[k]?=some x
def setSlot(d:Option Tmp)(v:AV)(s:St):St:={s with tm:=match d with|some d=>s.tm.set d v|none=>s.tm}
def nG(d:Option Tmp)(n:Nat):Bool:=match d with|some d=>decide (d<n)|none=>true
def GL(r:Rec)(s:St):Bool:=match r.new with|some k=>unB k s|none=>true
def valOf:AV->Option Value
 |.dat t x=>match t,x with
  |.int k,x=>some (.int k x)|_,_=>none
 |.val v=>some v|_=>none
def aAi:Op->Bool|.panic _=>true|_=>false
def vt(c:Cfg)(o:Oper):Bool:=match o.op with|.panic _=>true|.call ⟨.value (.func f),_,_⟩=>c.pf f|_=>false
def jJ(c:Cfg)(T:Nat->AV)(g:Bool)(args:List Operand):List (AV×List Ob):=args.map λx=>ug g (evT c.G T x)
def yj(c:Cfg)(T:Nat->AV)(m:Nat->Option Blk)(g:Bool)(o:Op):Option (List Ob×DR×List Nat):=match o with
 |.panic x=>match ug g (evT c.G T x)with
  |(.ifc t a,ns)=>match valOf a with
   |some v=>some (ns,⟨True,false,.iface t v⟩,[])|none=>none
  |_=>none
 |.call ⟨.value (.func f),args,_⟩=>if c.pf f&&goes c.P f then
   match c.KP f (ym c.P (lk c.P f) ((jJ c T g args.toList).map (·.1))) (dV m (cN m (AV.namesL (ym c.P (lk c.P f) ((jJ c T g args.toList).map (·.1))))))with
   |some r=>some ((jJ c T g args.toList).flatMap (·.2),r,cN m (AV.namesL (ym c.P (lk c.P f) ((jJ c T g args.toList).map (·.1)))))|none=>none
   else none
 |_=>none
def C0(ns:List Nat)(s:St):St:={s with mem:=s.mem.filter λp=>!ns.contains p.1}
def C2(ns:List Nat)(σ:Sig):Sig:=⟨σ.T,λk=>if ns.contains k=true then none else σ.m k,σ.sv⟩
theorem mJ(ns:List Nat)(k:Nat):∀m:Mem,(m.filter λp=>!ns.contains p.1).lookup k=if ns.contains k=true then none else m.lookup k
 |[]=>by simp|p::m=>by
  obtain⟨q,b⟩:=p;simp only[yP];by_cases f:ns.contains q=true;simp only[f,yV,wF,xM];rw[mJ ns k m];by_cases e:k=q;subst e;rw[if_pos f,if_pos f];have:(k==q)=false:=by simpa using e
  simp only[List.lookup,this];have h:ns.contains q=false:=by simpa using f
  simp only[h,xH,kE,List.lookup];by_cases e:k=q;subst e;rw[if_neg f];simp;have:(k==q)=false:=by simpa using e
  simp only[this];exact mJ ns k m
theorem Il(ns:List Nat)(s:St):(C0 ns s).sig=C2 ns s.sig:=by
 have:(C0 ns s).sig.m=(C2 ns s.sig).m:=funext λk=>mJ ns k s.mem;cases y:(C0 ns s).sig with
 |mk T m sv=>
  cases u:C2 ns s.sig with
  |mk T' m' j=>
   have h:(C0 ns s).sig.T=(C2 ns s.sig).T:=rfl;have f:(C0 ns s).sig.sv=(C2 ns s.sig).sv:=rfl;rw[y,u]at this h f;simp only at this h f;rw[this,h,f]
theorem aL.dropped{S:Base}{σ:Sig}{a:Act}{w w':World}{D:Nat->Prop}{E:Nat->Ent}(h:aL S σ a w D E){ns:List Nat}(hc:Chg (bD (bH (dV σ.m ns)) E) w w'):aL S (C2 ns σ) a w' D E:=by
 have mem:∀k,bH (dV σ.m ns) k=if k∈ns then σ.m k else none:=λk=>dU σ.m k ns;have X:∀b,bD (bH (dV σ.m ns)) E b->∃nm blk,nm∈ns/\σ.m nm=some blk/\(E nm).isNil=false/\b=(E nm).b:=λb ⟨nm,blk,f,g2,j⟩=>by
  rw[mem]at f;split at f;rename_i hin;exact⟨nm,blk,hin,f,g2,j⟩;cases f
 have A:∀nm b,(C2 ns σ).m nm=some b->nm∉ns/\σ.m nm=some b:=λnm b hb=>by
  replace hb:(if ns.contains nm=true then none else σ.m nm)=some b:=hb;split at hb;cases hb;rename_i hn;exact⟨by simpa using hn,hb⟩
 refine h.go (m':=(C2 ns σ).m) (D':=D) (E':=E) ⟨λ_ g=>g,λb hb=>hc.block b (h.dlt b hb) λg=>?_⟩ (λnm=>.inl λL z=>⟨L,(A nm L z).2,rfl,qL _,λ_=>rfl⟩)
  (λnm b hm=>?_) (λnm b hm hi=>?_) (λnm G b L hb z hi hi' e=>h.inj nm G b L (A nm b hb).2 (A G L z).2 hi hi' e)
  (h.low.step hc.os hc.tape hc.output hc.size λk hk hno=>hc.block k (qK hk h.low.size) λg=>?_) (λb hb=>qK (h.dlt b hb) hc.size) (λb hb=>.inl hb)
  (h.pv.step (λnm i b g=>?_) hc.size (λb hb=>.inl hb) λnm blk hm hi=>.inr ⟨nm,blk,(A nm blk hm).2,hi,rfl⟩)
 obtain⟨nm,blk,_,g2,j,u⟩:=X b g;exact(h.own nm blk g2 j).2.2 (u▸hb);obtain⟨k1,k2⟩:=A nm b hm;refine .inl ⟨k2,rfl,λhi=>hc.block _ (h.own nm b k2 hi).2.1 λg=>?_,λi k hr=>hc.block k (h.pv.lt k2 hr) λg=>?_⟩;obtain⟨y,blk,f,g2,j,u⟩:=X _ g;exact k1 (h.inj nm y b blk k2 g2 hi j u▸f);obtain⟨y,blk,f,g2,j,u⟩:=X _ g;exact h.pv.ent nm i k (aK.2 ⟨b,k2,hr⟩) y blk g2 j u.symm;obtain⟨k1,k2⟩:=A nm b hm;obtain⟨f,g2,j⟩:=h.own nm b k2 hi;exact⟨f,qK g2 hc.size,j⟩;obtain⟨nm,blk,f,g2,j,u⟩:=X _ g;rcases(h.own nm blk g2 j).1 with q|q;rw[<- u]at q;omega;rw[<- u]at q;exact hno q;obtain⟨bb,f,g2⟩:=aK.1 g;exact aK.2 ⟨bb,(A nm bb f).2,g2⟩
def Yp(c:Cfg)(ops:Array Oper):List Oper->St->(Exit->St->Prop)->Prop
 |[],s,Q=>Q .normal s|o::os,s,Q=>match Py s.sig.T ops o.guard with
  |some g=>match yj c s.sig.T s.sig.m g o.op with
   |some (ns,r,nms)=>(g=true->all ns (r.pre/\(r.ok=false->Q (.panic (chainOf r.pan)) (C0 nms s))))/\
     (if aAi o.op=true then(if o.guard.isNone=true then True else nG o.dst s.tm.length=true/\(g=false->Yp c ops os (setSlot o.dst (.grd g .top) s) Q))
      else match gY c.P c.G c.K (c.mt o) ops s.nx s.sig o with
      |some q=>if gn q s.tm.length=true/\GL q s=true then(g=true->r.ok=true)->all q.need (Yp c ops os (cZ q s) Q)else False|none=>False)
   |none=>match gY c.P c.G c.K (c.mt o) ops s.nx s.sig o with
    |some q=>if gn q s.tm.length=true/\GL q s=true then all q.need (Yp c ops os (cZ q s) Q)else False|none=>False
  |none=>False
def Ri(tbl:List Nat)(q:Nat)(rs:List Rec):Bool:=(List.range rs.length).all λj=>j==q||(tbl.getD j 0).testBit q||((rs.getD j dflt).upd.isEmpty&&(rs.getD j dflt).new.isNone)
def GV(tbl:List Nat)(q:Nat)(rs:List Rec):List Ob:=(List.range rs.length).flatMap λj=>if(j==q||(tbl.getD j 0).testBit q)=true then[]else(rs.getD j dflt).need
def Zn(ops:Array Oper)(s:St):St:={s with tm:=o8 (ops.toList.filterMap (·.dst)) s.tm}
def aAC(c:Cfg)(ops:Array Oper)(s:St)(Q:Exit->St->Prop):Prop:=match zv c ops ops.toList s,ops[ops.toList.findIdx (vt c)]? with
 |some rs,some o=>if uX true (jh [] ops.toList) s rs=true/\nU (jh [] ops.toList) ops.toList rs=true/\Ri (jh [] ops.toList) (ops.toList.findIdx (vt c)) rs=true/\o.guard.isNone=true then
   match yj c (fW rs s (ops.toList.findIdx (vt c))).sig.T s.sig.m true o.op with
   |some (ns,r,nms)=>all (GV (jh [] ops.toList) (ops.toList.findIdx (vt c)) rs) (all ns (r.pre/\(r.ok=true->all (rs.flatMap (·.need)) (Q .normal (fW rs s rs.length)))/\(r.ok=false->Q (.panic (chainOf r.pan)) (Zn ops (C0 nms s)))))|none=>False
  else False
 |_,_=>False
def aDI(c:Cfg)(ops:Array Oper)(draw:Bool)(s:St)(Q:Exit->St->Prop):Prop:=
 if ops.toList.any (vt c)=true then(if draw=true then aAC c ops s Q else Yp c ops ops.toList s Q)else aBf c ops draw s (Q .normal)
def uF(p:Tmp)(t:Ty)(y:t.den)(s:St):St:={s with tm:=s.tm.set p (.dat t y),sv:=s.tm}
def aDN:Ty->Bool|.pair _ _=>true|_=>false
def sa(t:Ty)(x:t.den):AV:=if aDN t then .agg (cellsOf t x)else .dat t x
def Jn:(t:Ty)->t.den->List AV|.pair a b,x=>[sa a x.1,sa b x.2]|t,x=>[.dat t x]
def IG:List Tmp->List AV->List AV->List AV|p::ps,v::vs,tm=>IG ps vs (tm.set p v)|_,_,tm=>tm
def FO(ps:List Tmp)(t:Ty)(y:t.den)(s:St):St:={s with tm:=IG ps (Jn t y) s.tm,sv:=s.tm++s.sv}
def oq(s:St):St:={s with tm:=s.sv.take s.tm.length,sv:=s.sv.drop s.tm.length}
def ui(s:St):St:={s with tm:=s.sv,sv:=[]}
def one1(t:Ty):Bool:=!aDN t&&decide (t.sz=1)
def Re(t:Ty)(n:Nat):Bool:=match t with|.pair _ _=>n==2|t=>n==1&&decide (t.sz=1)
def yq:Nat:=1000000
def yx:Ty->Bool|.int _=>true|.bool=>true|_=>false
def WS(m:Mem):AV->AV
 |.ptr nm 1 0 0=>match m.lookup nm with
  |some (.var cs)=>.ips (tu cs)|_=>.top
 |.ipv a=>.ipv (WS m a)|a=>kb a
def Cc(m:Mem)(l:List AV):List AV:=l.map (WS m)
def As(G:List (Nat×AV))(g:Operand)(gf:FuncId)(s:St):Option (List AV):=match evT G s.sig.T g with|.fn gf' caps=>if gf'=gf then some (Cc s.mem caps)else none|_=>none
def aCD(c:Cfg)(m:Mem)(gf:FuncId)(caps:List AV):Option iD:=if(AV.namesL caps).isEmpty=true then c.KI gf caps else c.KI (gf+yq) (Cc m caps)
def G1(G:List (Nat×AV))(g:Operand)(gf:FuncId)(caps:List AV)(m:Mem){α:Type}(inv:α->Prop)(st:α->St)(t:Ty)(X:Prop):Prop:=
 if(AV.namesL caps).isEmpty=true then X else yx t=true/\(∀x,inv x->As G g gf (st x)=some (Cc m caps))/\X
def SN(P:Program)(f:FuncId):Bool:=goes P f&&decide (f<yq)
def aFm{α:Type}(R:α->Prop):List α->Prop|[]=>True|x::l=>R x/\aFm R l
def aF6{α:Type}(inv R:α->Prop):List α->Prop|[]=>∀x,inv x->R x|x::l=>(∀y,inv y->y∈x::l)/\aFm (λy=>inv y->R y) (x::l)
theorem Ta{α:Type}{R:α->Prop}:∀{l:List α},aFm R l->∀x∈l,R x
 |y::l,h,x,f=>by
  rcases zK.1 f with rfl|g;exact h.1;exact Ta h.2 x g
theorem X6{α:Type}{inv R:α->Prop}{l:List α}(h:aF6 inv R l):∀x,inv x->R x:=by
 cases l with
 |nil=>exact h|cons y l=>exact λx f=>Ta h.2 x (h.1 x f) f
def aDG(c:Cfg)(EA EB:St->(Exit->St->Prop)->Prop)(le:St->St->Prop)(g:Operand)(ps:List Tmp)(s:St)(gf:FuncId)(caps:List AV)(it:iD)(sp:Spec)(Q:Exit->St->Prop):Prop:=
 if SN c.P gf&&decide (s.sv.length<s.tm.length)&&c.rng&&Re it.t ps.length&&ps.all (λp=>decide (p<s.tm.length))then
  G1 c.G g gf caps s.mem sp.inv sp.st it.t (it.pre/\(∃x,sp.inv x/\sp.μ x=0/\le s (sp.st x))/\
  (∀x y,sp.inv x->oL it.L (sp.μ x) y->EA (FO ps it.t y (sp.st x)) (λe s1=>match e with
   |.normal=>EB s1 (λe s2=>match e with
    |.normal=>∃z,sp.inv z/\sp.μ z=sp.μ x+1/\le (oq s2) (sp.st z)|.ret=>Q .ret (oq s2)|.exit i=>Q (.exit i) (oq s2)|.panic ch=>Q (.panic ch) (oq s2)|_=>False)
   |_=>False))/\
  (∀x,sp.inv x->sp.μ x=it.L.length->Q .normal (sp.st x)))
 else False
def evO(c:Cfg)(A:Ann):Code->St->(Exit->St->Prop)->Prop
 |.skip,s,Q=>Q .normal s|.region id ops draw,s,Q=>match A.pre id s with
  |none=>aDI c ops draw s Q|some s1=>match Ov s s1 with
   |some ms=>all ms (aDI c ops draw s1 Q)|none=>False
 |.seq a b,s,Q=>match eI b with
  |some id=>match A.cut id s with
   |some sp=>evO c A a s (λe s'=>match e with|.normal=>∃y,sp.inv y/\leP s' (sp.st y)|e=>Q e s')/\∀x,sp.inv x->evO c A b (sp.st x) Q
   |none=>evO c A a s (λe s'=>match e with|.normal=>evO c A b s' Q|e=>Q e s')
  |none=>evO c A a s (λe s'=>match e with|.normal=>evO c A b s' Q|e=>Q e s')
 |.cond t a b,s,Q=>match TE (evT c.G s.sig.T t)with
  |some (ns,x)=>all ns (XH x (evO c A a s Q) (evO c A b s Q))|none=>False
 |.block id b,s,Q=>evO c A b s (λe s'=>match e with|.exit id'=>if id'=id then Q .normal s' else Q (.exit id') s'|e=>Q e s')
 |.exit id,s,Q=>Q (.exit id) s|.scope b,s,Q=>evO c A b s (λe s'=>match e with|.goto _=>False|e=>Q e s')
 |.label _,s,Q=>Q .normal s|.ret,s,Q=>Q .ret s|.loop b,s,Q=>match eI b with
  |some id=>match aCu A id b s with
   |some sp=>(∃x,sp.inv x/\leP s (sp.st x))/\aF6 sp.inv (λx=>evO c A b (sp.st x) (λe s'=>match e with|.normal=>∃y,sp.inv y/\leP s' (sp.st y)/\sp.μ y<sp.μ x|e=>Q e s')) sp.fin
   |none=>False
  |none=>False
 |.rangeFunc g ps qz b,s,Q=>match evT c.G s.sig.T g,eI (.seq qz b)with
  |.fn gf caps,some id=>match aCD c s.mem gf caps,A.loop id s with
   |some it,some sp=>aDG c (λs Q=>evO c A qz s Q) (λs Q=>evO c A b s Q) leP g ps.toList s gf caps it sp Q|_,_=>False
  |_,_=>False
 |_,_,_=>False
def Jr(ns:List Ob):Bool:=ns.all (·.b)
theorem jR{ns:List Ob}(h:Jr ns=true):∀p∈ns,p:=λp f=>p.h (qW.1 h p f)
mutual
def AV.same:AV->AV->Bool|.top,.top=>true|.dat t x,.dat t' y=>if h:t'=t then t.eqb x (h▸y)else false|.ip t x,.ip t' y=>if h:t'=t then t.eqb x (h▸y)else false|.ips a,.ips b=>AV.sameL a b|.agg a,.agg b=>AV.sameL a b|.tup a,.tup b=>AV.sameL a b|.ipv a,.ipv b=>AV.same a b|_,_=>false
def AV.sameL:List AV->List AV->Bool|[],[]=>true|a::qz,b::bs=>AV.same a b&&AV.sameL qz bs|_,_=>false
end
mutual
def aFk(m:Mem)(nms:List Nat):AV->AV
 |.ptr nm g i c=>if nms.contains nm then match m.lookup nm with
  |some (.var [.dat t x])=>.ip t x|some (.var [v])=>if v.names.isEmpty then .ipv v else .top|some (.buf _ t xs [])=>.ia t xs|_=>.top
  else .ptr nm g i c
 |.buf nm n=>if nms.contains nm then match m.lookup nm with
  |some (.buf _ t xs [])=>.dat (.sl t) xs|some (.mat _ _ e xss [])=>.dat (.sl (.sl e)) xss|some (.buf _ (.sl e) xs [(i,.buf nm2 _)])=>match m.lookup nm2 with
   |some (.buf _ e' zs [])=>if h:e'=e then .dat (.sl (.sl e)) (Ep (α:=List e.den) xs i (h▸zs))else .top|_=>.top
  |_=>.top
  else .buf nm n
 |.agg cs=>.agg (aDO m nms cs)|.tup cs=>.tup (aDO m nms cs)|a=>if a.names.any nms.contains then .top else a
def aDO(m:Mem)(nms:List Nat):List AV->List AV|[]=>[]|a::qz=>aFk m nms a::aDO m nms qz
end
def aGx(m:Mem)(nms:List Nat):Blk->Blk|.var cs=>.var (aDO m nms cs)|b=>b
def frz(nms:List Nat)(s:St):St:={s with tm:=s.tm.map (λa=>aFk s.mem nms (aBB a)),mem:=(s.mem.filter λp=>!nms.contains p.1).map λp=>(p.1,aGx s.mem nms p.2)}
def aGt:Blk->List Nat|.buf _ _ _ [(_,.buf nm _)]=>[nm]|.mat _ _ _ _ [(_,.buf nm _)]=>[nm]|_=>[]
def aCM(m:Mem):Blk->Blk
 |.buf el (.sl e) xs [(i,.buf nm n)]=>match m.lookup nm with
  |some (.buf _ e' zs [])=>if h:e'=e then .buf el (.sl e) (Ep (α:=List e.den) xs i (h▸zs)) []else .buf el (.sl e) xs [(i,.buf nm n)]|_=>.buf el (.sl e) xs [(i,.buf nm n)]
 |.mat el eli e xs [(i,.buf nm n)]=>match m.lookup nm with
  |some (.buf _ e' zs [])=>if h:e'=e then .mat el eli e (Ep (α:=List e.den) xs i (h▸zs)) []else .mat el eli e xs [(i,.buf nm n)]|_=>.mat el eli e xs [(i,.buf nm n)]
 |b=>b
def aFl(s:St):St:=match s.mem.flatMap λp=>aGt p.2 with|[]=>frz (s.mem.map (·.1)) s|l=>{s with tm:=s.tm.map (λa=>if a.names.any l.contains then .top else a),mem:=(s.mem.filter λp=>!l.contains p.1).map λp=>(p.1,aCM s.mem p.2)}
def IX(c:Cfg)(ops:Array Oper)(draw:Bool)(s:St):Option (Exit×St):=if ops.toList.any (vt c)=true then none else match aBg c ops draw s with|some (ns,s')=>if Jr ns=true then some (.normal,s')else none|none=>none
def FC(c:Cfg)(ops:Array Oper)(draw:Bool)(s s1:St):Option (Exit×St):=match Ov s s1 with|some ms=>if Jr ms=true then IX c ops draw s1 else none|none=>none
def VL(f:St->Option (Exit×St)):Nat->St->Option (Exit×St)
 |0,_=>none|n+1,s=>match f s with
  |some (.normal,s')=>VL f n s'|r=>r
def Uz(fa fb:St->Option (Exit×St))(chk:St->Bool)(ps:List Tmp)(t:Ty):List t.den->St->Option (Exit×St)
 |[],s=>if chk s=true then some (.normal,s)else none|y::L,s=>if chk s=true then match fa (FO ps t y s)with
  |some (.normal,s1)=>match fb s1 with
   |some (.normal,s2)=>Uz fa fb chk ps t L (oq s2)|some (.ret,s2)=>some (.ret,oq s2)|some (.exit i,s2)=>some (.exit i,oq s2)|_=>none
  |_=>none else none
def JH(G:List (Nat×AV))(g:Operand)(gf:FuncId)(caps:List AV)(m:Mem)(s:St):Bool:=(AV.namesL caps).isEmpty||match As G g gf s with|some l=>AV.sameL l (Cc m caps)|none=>false
def run(c:Cfg)(A:Ann)(n:Nat):Code->St->Option (Exit×St)
 |.skip,s=>some (.normal,s)|.region id ops draw,s=>match A.pre id s with
  |none=>match IX c ops draw s with
   |some r=>some r|none=>FC c ops draw s (aFl s)
  |some s1=>FC c ops draw s s1
 |.seq a b,s=>match run c A n a s with
  |some (.normal,s')=>run c A n b s'|r=>r
 |.cond t a b,s=>match TE (evT c.G s.sig.T t)with
  |some (ns,x)=>if Jr ns=true then(match x with|true=>run c A n a s|false=>run c A n b s)else none
  |none=>none
 |.block id b,s=>match run c A n b s with
  |some (.exit id',s')=>if id'=id then some (.normal,s')else some (.exit id',s')|r=>r
 |.exit id,s=>some (.exit id,s)|.scope b,s=>match run c A n b s with
  |some (.goto _,_)=>none|r=>r
 |.label _,s=>some (.normal,s)|.ret,s=>some (.ret,s)|.loop b,s=>VL (λs=>run c A n b s) n s|.rangeFunc g ps qz b,s=>match evT c.G s.sig.T g with
  |.fn gf caps=>match aCD c s.mem gf caps with
   |some it=>if SN c.P gf&&decide (s.sv.length<s.tm.length)&&c.rng&&Re it.t ps.toList.length&&ps.toList.all (λp=>decide (p<s.tm.length))&&(((AV.namesL caps).isEmpty||yx it.t)&&it.pre.b)then
     Uz (λs=>run c A n qz s) (λs=>run c A n b s) (JH c.G g gf caps s.mem) ps.toList it.t it.L s
    else none
   |none=>none
  |_=>none
 |_,_=>none
def aGE:Nat:=1000000
def PD(pre:Nat->St->Option St):Ann:=⟨λ_ _=>none,pre,λ_ s=>some ⟨Unit,λ_=>True,λ_=>s,λ_=>0,[]⟩⟩
def ev(c:Cfg)(A:Ann)(x:Code)(s:St)(Q:Exit->St->Prop):Prop:=match A.cut aGE s with
 |none=>evO c A x s Q|some _=>match run c A 1000 x s with
  |some (e,s')=>Q e s'|none=>False
theorem ni{s s':St}{ns:List Ob}(h:Ov s s'=some ns):s.tm.length=s'.tm.length:=by
 unfold Ov at h;split at h;rename_i f;exact f.1;cases h
theorem vA{s s':St}(h:leP s s'):s.tm.length=s'.tm.length:=by
 unfold leP at h;split at h;rename_i ns f;exact ni f;exact h.elim
theorem Cd{S:Base}{s s':St}{a:Act}{w:World}(f:leP s s')(h:Sim S s.sig a w):Sim S s'.sig a w:=by
 unfold leP at f;split at f;rename_i ns j;exact EW h j (bK f).1;exact f.elim
abbrev noV:Nat->Prop:=λ_=>False
def lS(P:Program)(G:List (Nat×AV))(gf:FuncId)(caps:List AV)(it:iD):Prop:=
 it.pre->∀(l:Nat) (J:Nat->World->(Nat->Prop)->(Nat->Prop)->Prop) (JX:World->(Nat->Prop)->(Nat->Prop)->Prop) (JP:List PanicEntry->World->(Nat->Prop)->(Nat->Prop)->Prop) (w:World) (D:Nat->Prop) (us:Lv),
  (∀b,D b->b<w.heap.size)->jG P ⟨w,D,noM,noE⟩ G->AV.relL P ⟨w,D,noM,noE⟩ caps us->
  (∀k w1 w2 D1 V,J k w1 D1 V->Below w1.heap.size w1 w2->∀X:Nat->Prop,J k w2 (λb=>D1 b\/(gv w1 w2 b/\¬X b)) (λb=>V b\/(gv w1 w2 b/\X b)))->
  (∀k w1 (D1 D2 V V2:Nat->Prop),J k w1 D1 V->(∀b,D2 b->D1 b)->(∀b,V2 b->V b)->J k w1 D2 V2)->
  (∀k w1 w2 D1 V,J k w1 D1 V->Chg V w1 w2->w2.heap.size=w1.heap.size->J k w2 D1 V)->
  (∀w1 w2 D1 V,JX w1 D1 V->Below w1.heap.size w1 w2->∀X:Nat->Prop,JX w2 (λb=>D1 b\/(gv w1 w2 b/\¬X b)) (λb=>V b\/(gv w1 w2 b/\X b)))->
  (∀w1 (D1 D2 V V2:Nat->Prop),JX w1 D1 V->(∀b,D2 b->D1 b)->(∀b,V2 b->V b)->JX w1 D2 V2)->
  (∀w1 w2 D1 V,JX w1 D1 V->Chg V w1 w2->w2.heap.size=w1.heap.size->JX w2 D1 V)->
  (∀ch w1 w2 D1 V,JP ch w1 D1 V->Chg V w1 w2->w2.heap.size=w1.heap.size->JP ch w2 D1 V)->
  (∀k y W D1 V vs,it.L[k]?=some y->J k W D1 V->(∀b,D1 b->b<W.heap.size)->AV.relL P ⟨W,D1,noM,noE⟩ (Jn it.t y) vs->YieldAt Fence.wide 0 P l vs.toArray W λe W' =>
   W.heap.size<=W'.heap.size/\(∀b,D1 b\/V b->W'.heap[b]?=W.heap[b]?)/\((e=.returned (.bool true)/\J (k+1) W' D1 V)\/(e=.returned (.bool false)/\JX W' D1 V)\/∃ch,e=.panicked ch/\JP ch W' D1 V))->
  J 0 w D noV->
  CallsIn Fence.wide 0 P gf (#[.func (.yield l) #[] #[]]++us.toArray) w λe W'=>((∃v,e=.returned v)/\((∃D2,J it.L.length W' D2 noV)\/∃D2,JX W' D2 noV))\/∃ch,e=.panicked ch/\∃D2 V2,JP ch W' D2 V2
def IU(P:Program)(G:List (Nat×AV))(gf:FuncId)(caps:List AV)(it:iD):Prop:=
 it.pre->∀(l:Nat) (J:Nat->World->Prop) (JX:World->Prop) (JP:List PanicEntry->World->Prop) (w:World) (us:Lv),
  (∀k w1,J k w1->∃D:Nat->Prop,(∀b,D b->b<w1.heap.size)/\jG P ⟨w1,D,noM,noE⟩ G/\AV.relL P ⟨w1,D,noM,noE⟩ caps us)->
  (∀w1,JX w1->∃D:Nat->Prop,(∀b,D b->b<w1.heap.size)/\jG P ⟨w1,D,noM,noE⟩ G)->
  (∀k w1 w2,J k w1->Below w1.heap.size w1 w2->J k w2)->
  (∀w1 w2,JX w1->Below w1.heap.size w1 w2->JX w2)->
  (∀k y W u,it.L[k]?=some y->J k W->ae W noV it.t y [u]->YieldAt Fence.wide 0 P l #[u] W λe W' =>
   W.heap.size<=W'.heap.size/\((e=.returned (.bool true)/\J (k+1) W')\/(e=.returned (.bool false)/\JX W')\/∃ch,e=.panicked ch/\JP ch W'))->
  J 0 w->
  CallsIn Fence.wide 0 P gf (#[.func (.yield l) #[] #[]]++us.toArray) w λe W'=>((∃v,e=.returned v)/\(J it.L.length W'\/JX W'))\/∃ch,e=.panicked ch/\JP ch W'
def aR(P:Program)(G:List (Nat×AV))(KI:FuncId->List AV->Option iD):Prop:=∀gf caps it,KI gf caps=some it->if gf<yq then lS P G gf caps it else IU P G (gf-yq) caps it
theorem aR.at{P:Program}{G:List (Nat×AV)}{KI:FuncId->List AV->Option iD}(h:aR P G KI){gf:FuncId}{caps:List AV}{it:iD}(j:gf<yq)(f:KI gf caps=some it):lS P G gf caps it:=by
 have:=h gf caps it f;rwa [if_pos j]at this
theorem aAh{q:Nat->Prop}{p:Prop}{g N:Nat}(h:if g+N<N then p else q (g+N-N)):q g:=by
 rw[if_neg Z,qBe]at h;exact h
theorem aR.lent{P:Program}{G:List (Nat×AV)}{KI:FuncId->List AV->Option iD}(h:aR P G KI){gf:FuncId}{caps:List AV}{it:iD}(f:KI (gf+yq) caps=some it):IU P G gf caps it:=by
 unfold aR at h;generalize yq=N at h f;exact aAh (q:=λg=>IU P G g caps it) (h _ caps it f)
section
variable {S:Base}{c:Cfg}
theorem Sim.draw{σ:Sig}{a:Act}{w:World}(h:Sim S σ a w):Sim S σ a {w with drawn:=w.drawn+1}:=by
 obtain⟨D,E,h⟩:=h;exact⟨D,E,h.world (D':=D) (by constructor<;>first|rfl|exact qL _|exact λ_ _=>rfl|exact Nat.le_succ _) (λb=>⟨.inl,λg=>g.elim id (·.2)⟩) h.dlt⟩
theorem Jk{ops:Array Oper}{draw:Bool}{s s':St}{ns:List Ob}(h:aBg c ops draw s=some (ns,s')):s'.tm.length=s.tm.length:=by
 unfold aBg at h;split at h;rename_i rs _;dsimp only at h;generalize (if draw=true then jh [] ops.toList else[])=f at h;by_cases j:uX draw f s rs=true/\(draw=true->nU f ops.toList rs=true);rw[if_pos j]at h;cases h;exact k9 _ _ _;rw[if_neg j]at h;cases h;cases h
theorem QZ(hP:c.P=S.P)(hG:c.G=S.G)(X:ay S.P S.G c.K)(hm:S.P.follows .mixedOrders=true){id:Nat}{ops:Array Oper}{draw:Bool}{s s':St}{ns:List Ob}(h:aBg c ops draw s=some (ns,s'))(hn:∀q∈ns,q)
  (hl:s.tm.length=S.N) {a:Act}{w:World} (hs:Sim S s.sig a w) {Q:Exit->Act->World->Prop} (hQ:∀a' w',Sim S s'.sig a' w'->Q .normal a' w'):(Code.region id ops draw).wpIn S.F 0 S.P Q a w:=by
 unfold aBg at h;split at h;case h_2=>cases h
 rename_i rs z;dsimp only at h;generalize (if draw=true then jh [] ops.toList else[])=u at h;by_cases f:uX draw u s rs=true/\(draw=true->nU u ops.toList rs=true);case neg=>rw[if_neg f]at h;cases h
 rw[if_pos f]at h;cases h;obtain⟨P,G,K,mb,KI,rng,KP,pf⟩:=c;simp only at hP hG X;subst hP hG;obtain⟨y,L⟩:=uB z;have H:IP S K mb ops s rs:=⟨by simpa using y,λj o r ho A=>L j o r (by simpa using ho) A,hl,λj r A q hq=>hn q (xA.2 ⟨r,qZ A,hq⟩)⟩;cases draw with
 |false=>exact FV X H f.1 hs hQ|true=>exact uL X hm H f.1 (f.2 rfl) hs.draw hQ
theorem aL.putL{σ:Sig}{a:Act}{w:World}{D:Nat->Prop}{E:Nat->Ent}(h:aL S σ a w D E){l:Nat}(o:Obj)(G:S.w0.heap.size<=l)(z:¬D l)(u:¬aC σ.m E l):aL S σ a (w.putObj l o) D E:=by
 have same:∀k,k≠l->(w.putObj l o).heap[k]?=w.heap[k]?:=λk j=>World.putObj_heap_other j;exact h.go (m':=σ.m) ⟨λ_ g=>g,λb hb=>same b λe=>z (e▸hb)⟩ (λk=>.inl λA f=>⟨A,f,rfl,qL _,λ_=>rfl⟩)
  (λnm b hm=>.inl ⟨hm,rfl,λhi=>same _ λe=>u (.inl ⟨nm,b,hm,hi,e.symm⟩),λi k y=>same k λe=>u (.inr ⟨nm,i,aK.2 ⟨b,hm,e▸y⟩⟩)⟩) (λnm b hm hi=>by simpa using h.own nm b hm hi) h.inj
  (h.low.step rfl rfl rfl (by simp) λk j _=>same k Z) (λb hb=>by simpa using h.dlt b hb) (λb hb=>.inl hb)
  (h.pv.step (λ_ _ _ g=>g) (by simp) (λ_ g=>.inl g) λnm b hm hi=>.inr ⟨nm,b,hm,hi,rfl⟩)
theorem aL.lay{σ:Sig}{a:Act}{w w':World}{D:Nat->Prop}{E:Nat->Ent}(h:aL S σ a w D E){V:Nat->Prop}(hc:Chg V w w')(j:w'.heap.size=w.heap.size)(f:∀b,V b->S.w0.heap.size<=b/\¬D b/\¬aC σ.m E b):aL S σ a w' D E:=by
 have lt:∀nm b,σ.m nm=some b->(E nm).isNil=false->(E nm).b<w.heap.size:=λnm b hm hi=>(h.own nm b hm hi).2.1;exact h.go (m':=σ.m) ⟨λ_ g=>g,λb hb=>hc.block b (h.dlt b hb) λg=>(f b g).2.1 hb⟩ (λk=>.inl λA u=>⟨A,u,rfl,qL _,λ_=>rfl⟩)
  (λnm b hm=>.inl ⟨hm,rfl,λhi=>hc.block _ (lt nm b hm hi) λg=>(f _ g).2.2 (.inl ⟨nm,b,hm,hi,rfl⟩),λi k y=>hc.block k (h.pv.lt hm y) λg=>(f _ g).2.2 (.inr ⟨nm,i,aK.2 ⟨b,hm,y⟩⟩)⟩)
  (λnm b hm hi=>by rw[j];exact h.own nm b hm hi) h.inj
  (h.low.step hc.os hc.tape hc.output hc.size λk z _=>hc.block k (qK z h.low.size) λg=>by have:=(f k g).1;omega) (λb hb=>by rw[j];exact h.dlt b hb) (λb hb=>.inl hb)
  (h.pv.step (λ_ _ _ g=>g) (yK j.symm) (λ_ g=>.inl g) λnm b hm hi=>.inr ⟨nm,b,hm,hi,rfl⟩)
theorem aL.enter{σ:Sig}{a:Act}{w:World}{D:Nat->Prop}{E:Nat->Ent}(h:aL S σ a w D E)(l:Nat){tm:Nat->AV}{tmps:Array Value}(j:tmps.size=S.N)
  (f:∀t,(tm t).rel S.P ⟨w,D,σ.m,E⟩ (tmps.getD t undef)) {sv:List AV}{vs:Lv} (u:AV.relL S.P ⟨w,D,σ.m,E⟩ sv vs):
  aL {P:=S.P,w0:=w,D0:=D,N:=S.N,O:=aC σ.m E,G:=S.G,sv:=vs,rd:=some l,nod:=true} ⟨tm,σ.m,sv⟩ {tmps:=tmps,defers:=[]} w D E:=
 ⟨j,⟨⟨λ_=>rfl,⟨[],rfl⟩,xC⟩,λd hd=>by cases hd⟩,f,h.bl,λnm b hm hi=>⟨.inr (.inl ⟨nm,b,hm,hi,rfl⟩),(h.own nm b hm hi).2⟩,h.inj,Chg.refl _ _,h.dlt,λ_ g=>g,λ_ g=>.inl g,h.gl,u,
  ⟨λnm i b g=>⟨.inr (.inr ⟨nm,i,g⟩),(h.pv.own nm i b g).2⟩,h.pv.ent,h.pv.inj⟩⟩
theorem aL.again{σ:Sig}{a:Act}{w:World}{D:Nat->Prop}{E:Nat->Ent}(h:aL S σ a w D E){l:Nat}(o:Obj)(j:S.gd=[])(f:a.defers=[])(G:¬D l)(y:¬aC σ.m E l):
  aL {S with w0:=w.putObj l o,D0:=D,O:=aC σ.m E} σ a (w.putObj l o) D E:=by
 have same:∀k,k≠l->(w.putObj l o).heap[k]?=w.heap[k]?:=λk A=>World.putObj_heap_other A;have L:Later ⟨w,D,σ.m,E⟩ ⟨w.putObj l o,D,σ.m,E⟩:=⟨λ_ g=>g,λb hb=>same b λe=>G (e▸hb)⟩;have nm:∀k,oh ⟨w,D,σ.m,E⟩ ⟨w.putObj l o,D,σ.m,E⟩ k:=λk X u=>⟨X,u,rfl,qL _,λ_=>rfl⟩;refine⟨h.sz,⟨⟨λ_=>f.trans j.symm,⟨[],f.trans j.symm⟩,by rw[f];exact xC⟩,λd hd=>by rw[f]at hd;cases hd⟩,λt=>AV.rel_mono L (λk _=>nm k) (h.tm t),λk b hm=>?_,λk b hm hi=>⟨.inr (.inl ⟨k,b,hm,hi,rfl⟩),by simpa using(h.own k b hm hi).2⟩,h.inj,Chg.refl _ _,
  λb hb=>by simpa using h.dlt b hb,λ_ g=>g,λ_ g=>.inl g,h.gl.mono L,AV.relL_mono L (λk _=>nm k) h.svr,
  ⟨λnm i b g=>⟨.inr (.inr ⟨nm,i,g⟩),by simpa using(h.pv.own nm i b g).2⟩,h.pv.ent,h.pv.inj⟩⟩
 exact dQ.mono L (λk _=>nm k) (λhi=>same _ λe=>y (.inl ⟨k,b,hm,hi,e.symm⟩)) (λi r z=>same r λe=>y (.inr ⟨k,i,aK.2 ⟨b,hm,e▸z⟩⟩)) (h.bl k b hm)
theorem aL.leave{f:Base}{σ:Sig}{a a0:Act}{w:World}{D:Nat->Prop}{E:Nat->Ent}(h:aL f σ a w D E)(hP:f.P=S.P)(hG:f.G=S.G)(hv:f.sv=a0.tmps.toList)(y:a0.tmps.size=S.N)
  (hO:∀b,f.w0.heap.size<=b\/f.O b->S.w0.heap.size<=b\/S.O b) (j:Chg S.O S.w0 w) (X:∀b,S.D0 b->D b) (A:∀b,D b->S.D0 b\/S.w0.heap.size<=b\/S.O b) (L:Marks S.nod S.w0.heap.size D w S.gd a0.defers)
  (z:S.sv=[]):aL S ⟨λt=>σ.sv.getD t .top,σ.m,[]⟩ a0 w D E:=by
 refine⟨y,L,λt=>?_,λnm b hm=>hP▸h.bl nm b hm,λnm b hm hi=>⟨hO _ (h.own nm b hm hi).1,(h.own nm b hm hi).2⟩,h.inj,j,h.dlt,X,A,?_,?_,⟨λnm i b g=>⟨hO _ (h.pv.own nm i b g).1,(h.pv.own nm i b g).2⟩,h.pv.ent,h.pv.inj⟩⟩;have hl:=h.svr;rw[hv,hP]at hl;show(σ.sv.getD t .top).rel S.P ⟨w,D,σ.m,E⟩ _;rw[qA];cases hx:σ.sv[t]? with
 |none=>trivial|some x=>
  obtain⟨u,g1,g2⟩:=AV.relL_get hl hx;have:a0.tmps.getD t undef=u:=by
   rw[qP];simp only[yB]at g1;rw[g1];rfl
  rw[this];exact g2
 have:=h.gl;rw[hP,hG]at this;exact this;rw[z];rfl
theorem aL.leaveN{j:Base}{σ:Sig}{a a0:Act}{w:World}{D:Nat->Prop}{E:Nat->Ent}(h:aL j σ a w D E)(hP:j.P=S.P)(hG:j.G=S.G)(hv:j.sv=a0.tmps.toList++S.sv)(y:a0.tmps.size=S.N)
  (hO:∀b,j.w0.heap.size<=b\/j.O b->S.w0.heap.size<=b\/S.O b) (z:Chg S.O S.w0 w) (hd0:∀b,S.D0 b->D b) (L:∀b,D b->S.D0 b\/S.w0.heap.size<=b\/S.O b) (X:Marks S.nod S.w0.heap.size D w S.gd a0.defers):
  aL S ⟨λt=>(σ.sv.take S.N).getD t .top,σ.m,σ.sv.drop S.N⟩ a0 w D E:=by
 have A:=h.svr;rw[hv,hP]at A;have f:a0.tmps.toList.length=S.N:=by rw[vI];exact y
 have h1:=AV.relL_take A S.N;have h2:=AV.relL_drop A S.N;have e1:(a0.tmps.toList++S.sv).take S.N=a0.tmps.toList:=by rw[<- f];exact List.take_left
 have e2:(a0.tmps.toList++S.sv).drop S.N=S.sv:=by rw[<- f];exact qBj
 rw[e1]at h1;rw[e2]at h2;refine⟨y,X,λt=>?_,λnm b hm=>hP▸h.bl nm b hm,λnm b hm hi=>⟨hO _ (h.own nm b hm hi).1,(h.own nm b hm hi).2⟩,h.inj,z,h.dlt,hd0,L,?_,h2,⟨λnm i b g=>⟨hO _ (h.pv.own nm i b g).1,(h.pv.own nm i b g).2⟩,h.pv.ent,h.pv.inj⟩⟩;show((σ.sv.take S.N).getD t .top).rel S.P ⟨w,D,σ.m,E⟩ _;rw[qA];cases hx:(σ.sv.take S.N)[t]? with
 |none=>trivial|some x=>
  obtain⟨u,g1,g2⟩:=AV.relL_get h1 hx;have:a0.tmps.getD t undef=u:=by
   rw[qP];simp only[yB]at g1;rw[g1];rfl
  rw[this];exact g2
 have:=h.gl;rw[hP,hG]at this;exact this
end
end Go.Eng
