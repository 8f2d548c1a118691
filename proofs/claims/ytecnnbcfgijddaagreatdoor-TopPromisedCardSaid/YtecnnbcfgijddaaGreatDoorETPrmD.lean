/- H9 -/
import Derived.Test.YtecnnbcfgijddaaGreatDoorETPrmC
import Derived.Sort.LoopGhostIn
import Derived.RangeFuncLeaves
import Derived.RangeFuncSeq
import Derived.OrdersIn
import Derived.RangeFuncCalls
import Derived.RangeFuncFrom
set_option linter.unusedSimpArgs false
set_option linter.unusedVariables false
namespace Go.Eng
open Go.RowKit
abbrev Mem:=List (Nat×Blk)
structure lA where
 pre:Ob
 ret:AV
 upd:Mem:=[]
abbrev Kt:=FuncId->List AV->Mem->Option lA
def noM:Nat->Option Blk:=λ_=>none
def noE:Nat->Ent:=λ_=>⟨0,0,true,noR⟩
def bG(m:Mem):Nat->Option Blk:=λnm=>m.lookup nm
structure Held(P:Program)(w:World)(D:Nat->Prop)(m:Nat->Option Blk)(E:Nat->Ent):Prop where
 bl:∀nm b,m nm=some b->dG P 0 ⟨w,D,m,E⟩ (E nm) b
 own:∀nm b,m nm=some b->(E nm).isNil=false->(E nm).b<w.heap.size/\¬D (E nm).b
 inj:∀nm nm' b b',m nm=some b->m nm'=some b'->(E nm).isNil=false->(E nm').isNil=false->(E nm).b=(E nm').b->nm=nm'
 pv:eU 0 (λ_=>True) m E w.heap.size D
theorem eU.nil{lo n:Nat}{O D:Nat->Prop}{m:Nat->Option Blk}{E:Nat->Ent}(h:∀nm i b,cz m E nm i b->False):eU lo O m E n D:=
 ⟨λnm i b g=>(h nm i b g).elim,λnm i b g=>(h nm i b g).elim,λnm i b _ _ g=>(h nm i b g).elim⟩
variable {E:Nat->Ent}
theorem gn{nm i b:Nat}(h:cz (λ_=>none) E nm i b):False:=by
 obtain⟨_,_,_,_,_,_,h,_⟩:=h;cases h
theorem Held.none(P:Program)(w:World)(D:Nat->Prop)(E:Nat->Ent):Held P w D (bG []) E:=
 ⟨λ_ _ h=>(by cases h),λ_ _ h=>(by cases h),λ_ _ _ _ h=>(by cases h),eU.nil λ_ _ _ h=>gn h⟩
def bE(m:Nat->Option Blk)(E:Nat->Ent):Nat->Prop:=λb=>∃nm blk,m nm=some blk/\(E nm).isNil=false/\b=(E nm).b
structure Left(P:Program)(m:Nat->Option Blk)(upd:Mem)(w:World)(D:Nat->Prop)(E:Nat->Ent)(w':World)(D':Nat->Prop)(E':Nat->Ent):Prop where
 chg:Chg (bE m E) w w'
 dlo:∀b,D b->D' b
 dhi:∀b,D' b->D b\/w.heap.size<=b\/bE m E b
 dlt:∀b,D' b->b<w'.heap.size
 held:Held P w' D' (upM m upd) E'
 agree:∀nm b b',m nm=some b->upM m upd nm=some b'->b'.len=b.len->E' nm=E nm
 moved:∀nm b b',m nm=some b->upM m upd nm=some b'->(E' nm).isNil=false->bE m E (E' nm).b\/w.heap.size<=(E' nm).b
 fresh:∀nm b,m nm=none->upM m upd nm=some b->(E' nm).isNil=false->w.heap.size<=(E' nm).b
 priv:∀nm i b,cz (upM m upd) E' nm i b->cz m E nm i b\/w.heap.size<=b
def aj(P:Program)(G:List (Nat×AV))(f:FuncId)(args:List AV)(m:Mem)(c:lA):Prop:=
 c.pre->∀(w:World) (D:Nat->Prop) (E:Nat->Ent) (us:Lv),(∀b,D b->b<w.heap.size)->jB P ⟨w,D,bG m,E⟩ G->AV.relL P ⟨w,D,bG m,E⟩ args us->Held P w D (bG m) E->
  Calls P f us.toArray w λe w'=>∃v D' E',e=.returned v/\Left P (bG m) c.upd w D E w' D' E'/\c.ret.rel P ⟨w',D',upM (bG m) c.upd,E'⟩ v
def ay(P:Program)(G:List (Nat×AV))(K:Kt):Prop:=∀f args m c,K f args m=some c->aj P G f args m c
structure DC where
 pre:Prop
 ok:Bool
 pan:Value
abbrev KPt:=FuncId->List AV->Mem->Option DC
def chainOf(v:Value):List PanicEntry:=[{v:=v,recovered:=false}]
def fm(P:Program)(G:List (Nat×AV))(f:FuncId)(args:List AV)(m:Mem)(r:DC):Prop:=
 r.pre->r.ok=false->∀(w:World) (D:Nat->Prop) (E:Nat->Ent) (us:Lv),(∀b,D b->b<w.heap.size)->jB P ⟨w,D,bG m,E⟩ G->AV.relL P ⟨w,D,bG m,E⟩ args us->Held P w D (bG m) E->
  Calls P f us.toArray w λe w'=>e=.panicked (chainOf r.pan)/\Chg (bE (bG m) E) w w'
def bI(P:Program)(G:List (Nat×AV))(KP:KPt):Prop:=∀f args m r,KP f args m=some r->fm P G f args m r
def WM(P:Program)(t:TypeId)(a:AV):AV:=match a with
 |.val (.slice none 0 0)=>match P9 P t with
  |some (.sl e)=>.dat (.sl e) []|_=>a
 |.agg cs=>match P9 P t with
  |some ty=>match cQ ty cs with
   |some (x,[])=>.agg (cellsOf ty x)|_=>a
  |none=>a
 |_=>a
def yf(P:Program):List TypeId->List AV->List AV|t::ts,a::as=>WM P t a::yf P ts as|_,as=>as
variable {C:Ctx}{P:Program}{v:Value}
theorem RN{t:TypeId}{a:AV}(h:a.rel P C v):(WM P t a).rel P C v:=by
 unfold WM;split;split;simp only[AV.rel]at h;subst h;exact bu _ _ _;exact h;split;split;rename_i x u;obtain⟨us,e,g⟩:=h;obtain⟨j,f,z,y,g2⟩:=cm u g;have g2':f=[]:=g2;subst g2' z;exact⟨j++[],e,by rw[vZ];exact bZ y⟩;exact h;exact h;exact h
theorem uP:∀{ts:List TypeId}{as:List AV}{us:Lv},AV.relL P C as us->AV.relL P C (yf P ts as) us
 |[],_,_,h=>h|_::_,[],_,h=>h|t::ts,a::as,us,h=>by
  obtain⟨u,f,e,j,g2⟩:=h;exact⟨u,f,e,RN j,uP g2⟩
def kA(P:Program)(f:FuncId):List TypeId:=match P.funcs[f]? with|some fn=>fn.params.toList|none=>[]
def aCY:AV->Bool|.val (.slice none 0 0)=>true|_=>false
def ga(P:Program)(K:Kt)(f:FuncId)(args caps:List AV):List AV:=
 if(args.any aCY&&(K f (args++caps) []).isSome)=true then args else yf P (kA P f) args
variable {f:FuncId}{as:List AV}{caps:List AV}{us:Lv}{K:Kt}
theorem RL(h:AV.relL P C as us):AV.relL P C (ga P K f as caps) us:=by
 unfold ga;split;exact h;exact uP h
def nameless(a:AV):Bool:=a.names.isEmpty
def dS(m:Nat->Option Blk):List Nat->Mem
 |[]=>[]|nm::r=>match m nm with
  |some b=>(nm,b)::dS m r|none=>dS m r
theorem dR(m:Nat->Option Blk)(k:Nat):∀l:List Nat,(dS m l).lookup k=if k∈l then m k else none
 |[]=>rfl|nm::r=>by
  simp only[dS];split;rename_i b hb;simp only[List.lookup];by_cases e:k=nm;subst e;simp[hb];have:(k==nm)=false:=by simpa using e
  simp only[this,dR m k r,wY,e,false_or];rename_i hb;rw[dR m k r];by_cases e:k=nm;subst e;simp[hb];simp[e]
def lX(ns:List Nat)(b:Blk):Bool:=b.names.all λk=>ns.contains k
def OG(n:Nat)(b:Blk):Prop:=match b with|.buf _ _ _ _=>Dy n b.len|_=>n=b.len
instance (n:Nat) (b:Blk):Decidable (OG n b):=by
 unfold OG;split<;>infer_instance
theorem MQ{n:Nat}{b:Blk}(h:OG n b):n<=b.len:=by
 unfold OG at h;split at h;exact h;exact yI h
abbrev grow(b0 b:Blk):Prop:=OG b0.len b
theorem aAL{b0 b:Blk}(h:grow b0 b):b0.len<=b.len:=MQ h
def Vb(m:Nat->Option Blk)(ns:List Nat):Mem->Option (List Ob)
 |[]=>some []|(k,b)::r=>match m k,Vb m ns r with
  |some b0,some q=>if ns.contains k&&lX ns b&&decide (b0.es=b.es)then some (grow b0 b::q)else none|_,_=>none
def Ti:Mem->Mem->Option (Nat×Blk)|[],[(k,b)]=>if b.names.isEmpty then some (k,b)else none|_,_=>none
def cL(m:Nat->Option Blk)(l:List Nat):List Nat:=l++l.flatMap λk=>match m k with|some b=>b.names|none=>[]
variable {k:Nat}{l:List Nat}{m:Nat->Option Blk}
theorem eH(h:k∈l):k∈cL m l:=qJ.2 (.inl h)
theorem pZ(h:k∈cL m l):k∈l\/∃j∈l,∃b,m j=some b/\k∈b.names:=by
 rcases qJ.1 h with h|h;exact .inl h;obtain⟨j,u,f⟩:=yU.1 h;split at f;rename_i b hb;exact .inr ⟨j,u,b,hb,f⟩;cases f
theorem tL{j k:Nat}{b:Blk}(h:j∈l)(hb:m j=some b)(f:k∈b.names):k∈cL m l:=
 qJ.2 (.inr (yU.2 ⟨j,h,by rw[hb];exact f⟩))
theorem pY{l u:List Nat}(h:∀k∈l,k∈u)(y:k∈cL m l):k∈cL m u:=by
 rcases pZ y with g|⟨j,z,b,hb,f⟩;exact eH (h k g);exact tL (h j z) hb f
theorem xe{m m':Nat->Option Blk}(h:∀k∈l,m' k=m k):cL m' l=cL m l:=by
 unfold cL;congr 1;simp only[List.flatMap_def];congr 1;exact zS λk f=>by rw[h k f]
def yn(P:Program)(K:Kt)(nx:Nat)(m:Nat->Option Blk)(callee:AV)(args:List AV):Option Core:=
 match callee,args with
 |.fn f caps,args=>if goes P f then
   if(cL m (AV.namesL (ga P K f args caps++caps))).all (λk=>match m k with|some b=>lX (cL m (AV.namesL (ga P K f args caps++caps))) b|none=>true)then
   match K f (ga P K f args caps++caps) (dS m (cL m (AV.namesL (ga P K f args caps++caps))))with
   |some c=>match Ti (dS m (cL m (AV.namesL (ga P K f args caps++caps)))) c.upd with
    |some (k0,b0)=>if c.ret.names.all (λk=>k==k0)then some {need:=[c.pre],val:=aAb nx c.ret,upd:=[(nx,b0)],new:=some nx} else none|none=>match Vb m (cL m (AV.namesL (ga P K f args caps++caps))) c.upd with
     |some q=>if c.ret.names.all (λk=>(cL m (AV.namesL (ga P K f args caps++caps))).contains k)then some {need:=c.pre::q,val:=c.ret,upd:=c.upd} else none|none=>none
   |none=>none
   else none
  else none
 |.clo1 a r pre g,[x]=>match x.as a with
  |some x=>some {need:=[pre x],val:=.dat r (g x)}|none=>none
 |.clo2 a b r pre g,[x,y]=>match x.as a,y.as b with
  |some x,some y=>some {need:=[pre x y],val:=.dat r (g x y)}|_,_=>none
 |_,_=>none
theorem mh(h:goes P f=true)(w:World)(args:Array Value):(callFunc f args).run P w=.ok (.enter f args) w:=by
 unfold goes at h;split at h;rename_i fn u;simp only[qC,qCm,ne_eq]at h;have z:fn.body.isNone=false:=by cases hb:fn.body<;>simp_all
 have y:(fn.name == "runtime.NumGoroutine")=false:=by simpa using h.2
 simp only[callFunc,wS,run_program,wK,u,y,z];rfl;cases h
theorem Ge{C C':Ctx}{a:AV}(j:nameless a=true)(L:Later C C')(h:a.rel P C v):a.rel P C' v:=
 AV.rel_mono L (λnm f=>by
  unfold nameless at j;rw[wX]at j;rw[j]at f;cases f) h
theorem dH(m:Nat->Option Blk)(u:Mem)(k:Nat):upM m u k=match u.lookup k with|some b=>some b|none=>m k:=rfl
variable {ns:List Nat}
theorem qp:∀{u:Mem}{q:List Ob},Vb m ns u=some q->(∀p∈q,p)->∀(k:Nat) (b:Blk),u.lookup k=some b->
  ∃b0,m k=some b0/\k∈ns/\b0.es=b.es/\b0.len<=b.len/\∀x∈b.names,x∈ns
 |[],_,_,_,k,b,f=>by simp at f|(k',L)::r,q,h,j,k,b,f=>by
  simp only[Vb]at h;split at h;case h_2=>cases h
  rename_i b0 G hm z;split at h;case isFalse=>cases h
  rename_i hc;cases h;simp only[qC,qF]at hc;simp only[List.lookup]at f;split at f;rename_i e;cases f;have e:k=k':=by simpa using e
  subst e;refine⟨b0,hm,by simpa using hc.1.1,hc.2,aAL (Ob.get j (by simp)),λx y=>?_⟩;have:=hc.1.2;unfold lX at this;rw[qU]at this;simpa using this x y;exact qp z (λp A=>j p (by simp[A])) k b f
theorem aL.called{S:Base}{σ:Sig}{a:Act}{w w':World}{D D':Nat->Prop}{E E':Nat->Ent}(h:aL S σ a w D E){ns:List Nat}{upd:Mem}{q:List Ob}
  (hns:∀k∈ns,∀b,σ.m k=some b->∀x∈b.names,x∈ns) (hu:Vb σ.m ns upd=some q) (hq:∀p∈q,p) (hl:Left S.P (bG (dS σ.m ns)) upd w D E w' D' E'):
  aL S ⟨σ.T,upM σ.m upd,σ.sv⟩ a w' D' (λk=>if k∈ns then E' k else E k)/\Later ⟨w,D,σ.m,E⟩ ⟨w',D',upM σ.m upd,λk=>if k∈ns then E' k else E k⟩:=by
 obtain⟨E2,hE2⟩:∃E2:Nat->Ent,E2=λk=>if k∈ns then E' k else E k:=⟨_,rfl⟩;have e2i:∀k,k∈ns->E2 k=E' k:=λk hk=>by rw[hE2];exact if_pos hk
 have e2o:∀k,k∉ns->E2 k=E k:=λk hk=>by rw[hE2];exact if_neg hk
 rw[<- hE2];have mem:∀k,bG (dS σ.m ns) k=if k∈ns then σ.m k else none:=λk=>dR σ.m k ns;have up:∀k b,upM σ.m upd k=some b->(∃b0,σ.m k=some b0/\b0.es=b.es/\b0.len<=b.len):=λk b hk=>by
  rw[dH]at hk;split at hk;rename_i b1 h1;cases hk;obtain⟨b0,A,_,g2,g3,_⟩:=qp hu hq k _ h1;exact⟨b0,A,g2,g3⟩;exact⟨b,hk,rfl,qN _⟩
 have same:∀k,k∈ns->upM (bG (dS σ.m ns)) upd k=upM σ.m upd k:=λk hk=>by
  rw[dH,dH];split;rfl;rw[mem,if_pos hk]
 have names:∀k b,k∈ns->upM σ.m upd k=some b->∀x∈b.names,x∈ns:=λk b hk hb=>by
  rw[dH]at hb;split at hb;rename_i b1 h1;cases hb;obtain⟨_,_,_,_,_,g⟩:=qp hu hq k _ h1;exact g;exact hns k hk b hb
 have keep:∀k,k<w.heap.size->¬bE (bG (dS σ.m ns)) E k->w'.heap[k]?=w.heap[k]?:=λk hk hno=>hl.chg.block k hk hno;have blk:∀k,bE (bG (dS σ.m ns)) E k->∃nm b,σ.m nm=some b/\nm∈ns/\(E nm).isNil=false/\k=(E nm).b:=by
  rintro k ⟨nm,b,A,g2,g3⟩;rw[mem]at A;split at A;rename_i z;exact⟨nm,b,A,z,g2,g3⟩;cases A
 have L:Later ⟨w,D,σ.m,E⟩ ⟨w',D',upM σ.m upd,E2⟩:=⟨hl.dlo,λb hb=>keep b (h.dlt b hb) λhx=>by
  obtain⟨nm,bb,A,_,g2,g3⟩:=blk b hx;exact(h.own nm bb A g2).2.2 (g3▸hb)⟩
 have rowKeep:∀nm b i k,σ.m nm=some b->rowsOf (E nm) b i k->w'.heap[k]?=w.heap[k]?:=λnm b i k hm hr=>keep k (h.pv.lt hm hr) λhx=>by
  obtain⟨u,b2,A,_,g3,g4⟩:=blk _ hx;exact h.pv.ent nm i k (aH.2 ⟨b,hm,hr⟩) u b2 A g3 g4.symm
 have hml:∀nm b,nm∈ns->σ.m nm=some b->bG (dS σ.m ns) nm=some b:=λnm b z hb=>by rw[mem,if_pos z];exact hb
 have mov:∀nm b,nm∈ns->upM σ.m upd nm=some b->(E' nm).isNil=false->(∃u b2,σ.m u=some b2/\u∈ns/\(E u).isNil=false/\(E' nm).b=(E u).b)\/w.heap.size<=(E' nm).b:=λnm b z hb hi=>by
  obtain⟨b0,g0,_⟩:=up nm b hb;rcases hl.moved nm b0 b (hml nm b0 z g0) (by rw[same nm z];exact hb) hi with g|g;exact .inl (blk _ g);exact .inr g
 have prv:∀nm i k,cz (upM σ.m upd) E2 nm i k->cz σ.m E nm i k\/(nm∈ns/\w.heap.size<=k/\cz (upM (bG (dS σ.m ns)) upd) E' nm i k):=λnm i k hk=>by
  obtain⟨bb,A,g2⟩:=aH.1 hk;by_cases z:nm∈ns;rw[e2i nm z]at g2;have hp:cz (upM (bG (dS σ.m ns)) upd) E' nm i k:=aH.2 ⟨bb,by rw[same nm z];exact A,g2⟩;rcases hl.priv nm i k hp with g|g;left;obtain⟨b2,q1,q2⟩:=aH.1 g;rw[mem,if_pos z]at q1;exact aH.2 ⟨b2,q1,q2⟩;exact .inr ⟨z,g,hp⟩;rw[e2o nm z]at g2;left;have hlk:upd.lookup nm=none:=by
   cases hx:upd.lookup nm with
   |none=>rfl|some b1=>
    obtain⟨_,_,g,_⟩:=qp hu hq nm b1 hx;exact(z g).elim
  rw[dH,hlk]at A;exact aH.2 ⟨bb,A,g2⟩
 have pvNew:eU S.w0.heap.size S.O (upM σ.m upd) E2 w'.heap.size D':=by
  refine⟨λnm i k hk=>?_,λnm i k hk f b' X hi e=>?_,λnm i k f j h1 h2=>?_⟩;rcases prv nm i k hk with g|⟨_,A,g2⟩;obtain⟨q1,q2,q3⟩:=h.pv.own nm i k g;refine⟨q1,qI q2 hl.chg.size,λhd=>?_⟩;rcases hl.dhi _ hd with r|r|r;exact q3 r;omega;obtain⟨u,b2,r1,_,r3,r4⟩:=blk _ r;exact h.pv.ent nm i k g u b2 r1 r3 r4.symm;obtain⟨_,q2,q3⟩:=hl.held.pv.own nm i k g2;exact⟨.inl (vS h.low.size A),q2,q3⟩;obtain⟨b0,g0,_⟩:=up f b' X;by_cases G:f∈ns;rw[e2i f G]at hi e;rcases prv nm i k hk with g|⟨_,A,g2⟩;rcases mov f b' G X hi with⟨u,b2,q1,_,q3,q4⟩|q;exact h.pv.ent nm i k g u b2 q1 q3 (q4.symm.trans e);have:=(h.pv.own nm i k g).2.1;omega;exact hl.held.pv.ent nm i k g2 f b' (by rw[same f G];exact X) hi e;rw[e2o f G]at hi e;have hlt:=(h.own f b0 g0 hi).2.1;rcases prv nm i k hk with g|⟨_,A,_⟩;exact h.pv.ent nm i k g f b0 g0 hi e;omega;rcases prv nm i k h1 with g|⟨_,A,g2⟩<;>rcases prv f j k h2 with q|⟨_,q1,q2⟩
  exact h.pv.inj nm i k f j g q;have:=(h.pv.own nm i k g).2.1;omega;have:=(h.pv.own f j k q).2.1;omega;exact hl.held.pv.inj nm i k f j g2 q2
 refine⟨h.go (m':=upM σ.m upd) L (λk=>.inl λb' X=>?_) (λnm b hm=>?_) (λnm b hm hi=>?_) (λnm f b b' hb X hi hi' e=>?_)
  (h.low.step hl.chg.os hl.chg.tape hl.chg.output hl.chg.size λk hk hno=>keep k (qI hk h.low.size) λhx=>?_) hl.dlt (λb hb=>?_) pvNew,L⟩
 obtain⟨b0,A,g2,g3⟩:=up k b' X;refine⟨b0,A,g2,g3,λhe=>?_⟩;show E2 k=E k;by_cases z:k∈ns;rw[e2i k z];exact hl.agree k b0 b' (hml k b0 z A) (by rw[same k z];exact X) he.symm;exact e2o k z;by_cases z:nm∈ns;right;have:=hl.held.bl nm b (by rw[same nm z];exact hm);rw[e2i nm z];refine dG.mono (C:=⟨w',D',upM (bG (dS σ.m ns)) upd,E'⟩) (C':=⟨w',D',upM σ.m upd,E2⟩) ⟨λ_ g=>g,λ_ _=>rfl⟩ (λx hx b' X=>?_) (λ_=>rfl) (λ_ _ _=>rfl) this;exact⟨b',(by show upM (bG (dS σ.m ns)) upd x=some b';rw[same x (names nm b z hm x hx)];exact X),rfl,qN _,λ_=>e2i x (names nm b z hm x hx)⟩;left;have hlk:upd.lookup nm=none:=by
  cases hx:upd.lookup nm with
  |none=>rfl|some b1=>
   obtain⟨_,_,g,_⟩:=qp hu hq nm b1 hx;exact(z g).elim
 have hm2:σ.m nm=some b:=by rw[dH,hlk]at hm;exact hm
 refine⟨hm2,e2o nm z,λhi=>keep _ (h.own nm b hm2 hi).2.1 λhx=>?_,λi k hr=>rowKeep nm b i k hm2 hr⟩;obtain⟨u,b2,A,g2,g3,g4⟩:=blk _ hx;have:=h.inj nm u b b2 hm2 A hi g3 g4;subst this;exact z g2;obtain⟨b0,A,_⟩:=up nm b hm;by_cases z:nm∈ns;rw[e2i nm z]at hi ⊢;obtain⟨q1,q2⟩:=hl.held.own nm b (by rw[same nm z];exact hm) hi;refine⟨?_,q1,q2⟩;rcases mov nm b z hm hi with⟨u,b2,r1,_,r3,r4⟩|r;rw[r4];exact(h.own u b2 r1 r3).1;exact .inl (vS h.low.size r);rw[e2o nm z]at hi ⊢;obtain⟨g2,g3,g4⟩:=h.own nm b0 A hi;refine⟨g2,qI g3 hl.chg.size,λhd=>?_⟩;rcases hl.dhi _ hd with g|g|g;exact g4 g;exact xM _ (qI g3 g);obtain⟨u,b2,r1,r2,r3,r4⟩:=blk _ g;have:=h.inj nm u b0 b2 A r1 hi r3 r4;subst this;exact z r2;obtain⟨b0,A,_⟩:=up nm b hb;obtain⟨b1,g2,_⟩:=up f b' X;have mix:∀x y bx b1,x∈ns->y∉ns->upM σ.m upd x=some bx->σ.m y=some b1->(E' x).isNil=false->(E y).isNil=false->(E' x).b=(E y).b->False:=λx y bx b1 hx hy hbx hy1 hix hiy e=>by
  rcases mov x bx hx hbx hix with⟨u,b2,r1,r2,r3,r4⟩|r;have:=h.inj u y b2 b1 r1 hy1 r3 hiy (r4.symm.trans e);subst this;exact hy r2;have:=(h.own y b1 hy1 hiy).2.1;omega
 by_cases z:nm∈ns<;>by_cases G:f∈ns;rw[e2i nm z]at hi e;rw[e2i f G]at hi' e;exact hl.held.inj nm f b b' (by rw[same nm z];exact hb) (by rw[same f G];exact X) hi hi' e;rw[e2i nm z]at hi e;rw[e2o f G]at hi' e;exact(mix nm f b b1 z G hb g2 hi hi' e).elim;rw[e2o nm z]at hi e;rw[e2i f G]at hi' e;exact(mix f nm b' b0 G z X A hi' hi e.symm).elim;rw[e2o nm z]at hi e;rw[e2o f G]at hi' e;exact h.inj nm f b0 b1 A g2 hi hi' e;obtain⟨nm,bb,A,_,g2,g3⟩:=blk k hx;rcases(h.own nm bb A g2).1 with g|g;rw[<- g3]at g;omega;exact hno (g3▸g);rcases hl.dhi b hb with g|g|g;exact .inl g;exact .inr (.inl (vS h.low.size g));obtain⟨u,b2,r1,_,r3,r4⟩:=blk _ g;rw[r4];exact .inr ((h.own u b2 r1 r3).1)
theorem aL.calledNew{S:Base}{σ:Sig}{a:Act}{w w':World}{D D':Nat->Prop}{E E':Nat->Ent}(h:aL S σ a w D E){nx y:Nat}{b0:Blk}(hu:Unm nx σ)(hb0:b0.names=[])(z:Left S.P (bG []) [(y,b0)] w D E w' D' E'):
  aL S ⟨σ.T,upM σ.m [(nx,b0)],σ.sv⟩ a w' D' (upE E nx (E' y)):=by
 have hk0:upM (bG []) [(y,b0)] y=some b0:=by rw[eX,if_pos rfl]
 have keep:∀k,k<w.heap.size->w'.heap[k]?=w.heap[k]?:=λk u=>z.chg.block k u λ⟨nm,blk,g,_⟩=>(by cases g);have e1:upE E nx (E' y) nx=E' y:=by simp[upE]
 have e2:∀k,k≠nx->upE E nx (E' y) k=E k:=λk u=>by simp[upE,u]
 have m2:∀k b,k≠nx->upM σ.m [(nx,b0)] k=some b->σ.m k=some b:=λk b u hb=>by rw[eX,if_neg u]at hb;exact hb
 have m1:∀b,upM σ.m [(nx,b0)] nx=some b->b=b0:=λb hb=>by rw[eX,if_pos rfl]at hb;exact(wF hb).symm
 have fr:(E' y).isNil=false->w.heap.size<=(E' y).b:=z.fresh y b0 rfl hk0;have prv:∀nm i k,cz (upM σ.m [(nx,b0)]) (upE E nx (E' y)) nm i k->(nm≠nx/\cz σ.m E nm i k)\/(nm=nx/\w.heap.size<=k/\cz (upM (bG []) [(y,b0)]) E' y i k):=λnm i k u=>by
  obtain⟨bb,g1,g2⟩:=aH.1 u;by_cases hn:nm=nx;subst hn;have eb:=m1 bb g1;subst eb;rw[e1]at g2;have hp:cz (upM (bG []) [(y,bb)]) E' y i k:=aH.2 ⟨bb,hk0,g2⟩;rcases z.priv y i k hp with g|g;obtain⟨_,q,_⟩:=aH.1 g;cases q;exact .inr ⟨rfl,g,hp⟩;rw[e2 nm hn]at g2;exact .inl ⟨hn,aH.2 ⟨bb,m2 nm bb hn g1,g2⟩⟩
 have pvNew:eU S.w0.heap.size S.O (upM σ.m [(nx,b0)]) (upE E nx (E' y)) w'.heap.size D':=by
  refine⟨λnm i k u=>?_,λnm i k u f b' X hi e=>?_,λnm i k f j h1 h2=>?_⟩;rcases prv nm i k u with⟨_,g⟩|⟨_,g1,g2⟩;obtain⟨q1,q2,q3⟩:=h.pv.own nm i k g;refine⟨q1,qI q2 z.chg.size,λhd=>?_⟩;rcases z.dhi _ hd with r|r|⟨_,_,r,_⟩;exact q3 r;omega;cases r;obtain⟨_,q2,q3⟩:=z.held.pv.own y i k g2;exact⟨.inl (vS h.low.size g1),q2,q3⟩;by_cases hn:f=nx;subst hn;rw[e1]at hi e;rcases prv nm i k u with⟨_,g⟩|⟨_,g1,g2⟩;have:=(h.pv.own nm i k g).2.1;have:=fr hi;omega;exact z.held.pv.ent y i k g2 y b0 hk0 hi e;have A:=m2 f b' hn X;rw[e2 f hn]at hi e;have hlt:=(h.own f b' A hi).2.1;rcases prv nm i k u with⟨_,g⟩|⟨_,g1,_⟩;exact h.pv.ent nm i k g f b' A hi e;omega;rcases prv nm i k h1 with⟨n1,g⟩|⟨n1,g1,g2⟩<;>rcases prv f j k h2 with⟨n2,q⟩|⟨n2,q1,q2⟩
  exact h.pv.inj nm i k f j g q;have:=(h.pv.own nm i k g).2.1;omega;have:=(h.pv.own f j k q).2.1;omega;exact⟨n1.trans n2.symm,(z.held.pv.inj y i k y j g2 q2).2⟩
 refine h.go (m':=upM σ.m [(nx,b0)]) ⟨z.dlo,λb hb=>keep b (h.dlt b hb)⟩ (λk=>?_) (λnm b hm=>?_) (λnm b hm hi=>?_) (λnm f b b' hb X hi L e=>?_)
  (h.low.step z.chg.os z.chg.tape z.chg.output z.chg.size λk u _=>keep k (qI u h.low.size)) z.dlt (λb hb=>?_) pvNew
 by_cases u:k=nx;subst u;exact .inr hu;exact .inl λb' X=>⟨b',m2 k b' u X,rfl,qN _,λ_=>e2 k u⟩;by_cases u:nm=nx;subst u;right;have eb:=m1 b hm;subst eb;rw[e1];exact dG.mono (C:=⟨w',D',upM (bG []) [(y,b)],E'⟩) (C':=⟨w',D',upM σ.m [(nm,b)],upE E nm (E' y)⟩) ⟨λ_ g=>g,λ_ _=>rfl⟩ (λx hx=>by rw[hb0]at hx;cases hx) (λ_=>rfl) (λ_ _ _=>rfl) (z.held.bl y b hk0);have A:=m2 nm b u hm;exact .inl ⟨A,e2 nm u,λhi=>keep _ (h.own nm b A hi).2.1,λi k hr=>keep _ (h.pv.lt A hr)⟩;by_cases u:nm=nx;subst u;rw[e1]at hi ⊢;exact⟨.inl (vS h.low.size (fr hi)),z.held.own y b0 hk0 hi⟩;have A:=m2 nm b u hm;rw[e2 nm u]at hi ⊢;obtain⟨g1,g2,g3⟩:=h.own nm b A hi;refine⟨g1,qI g2 z.chg.size,λhd=>?_⟩;rcases z.dhi _ hd with g|g|⟨_,_,g,_⟩;exact g3 g;omega;cases g;by_cases u:nm=nx<;>by_cases G:f=nx;rw[u,G];subst u;rw[e1]at hi e;rw[e2 f G]at L e;have:=(h.own f b' (m2 f b' G X) L).2.1;have:=fr hi;omega;subst G;rw[e1]at L e;rw[e2 nm u]at hi e;have:=(h.own nm b (m2 nm b u hb) hi).2.1;have:=fr L;omega;rw[e2 nm u]at hi e;rw[e2 f G]at L e;exact h.inj nm f b b' (m2 nm b u hb) (m2 f b' G X) hi L e;rcases z.dhi b hb with g|g|⟨_,_,g,_⟩;exact .inl g;exact .inr (.inl (vS h.low.size g));cases g
theorem aL.pureCall{S:Base}{σ:Sig}{a:Act}{w w':World}{D:Nat->Prop}{E:Nat->Ent}(h:aL S σ a w D E)(hw:Below w.heap.size w w'):
  aL S σ a w' (λb=>D b\/gi w w' b) E:=
 h.world hw (λb=>⟨λg=>g.imp id (λg=>⟨g,.inr g⟩),λg=>g.imp id (λg=>g.1)⟩) (λb g=>by
  rcases g with g|g;exact qI (h.dlt b g) hw.size;exact g.2)
theorem aL.heldOf{S:Base}{σ:Sig}{a:Act}{w:World}{D:Nat->Prop}{E:Nat->Ent}(h:aL S σ a w D E)(ns:List Nat):Held S.P w D (bG (dS σ.m ns)) E:=by
 have mem:∀k b,bG (dS σ.m ns) k=some b->σ.m k=some b:=λk b y=>by
  have:=dR σ.m k ns;unfold bG at y;rw[this]at y;split at y;exact y;cases y
 refine⟨λnm b hb=>?_,λnm b hb hi=>(h.own nm b (mem nm b hb) hi).2,λnm f b G hb u=>h.inj nm f b G (mem _ _ hb) (mem _ _ u),?_⟩
 rotate_left
 have z:∀nm i b,cz (bG (dS σ.m ns)) E nm i b->cz σ.m E nm i b:=λnm i b hb=>by
  obtain⟨L,g1,g2⟩:=aH.1 hb;exact aH.2 ⟨L,mem nm L g1,g2⟩
 exact⟨λnm i b hb=>⟨.inr trivial,(h.pv.own nm i b (z _ _ _ hb)).2⟩,λnm i b hb f blk A hi=>h.pv.ent nm i b (z _ _ _ hb) f blk (mem _ _ A) hi,λnm i b f j h1 X=>h.pv.inj nm i b f j (z _ _ _ h1) (z _ _ _ X)⟩;exact dG.mono (C:=⟨w,D,σ.m,E⟩) (C':=⟨w,D,bG (dS σ.m ns),E⟩) ⟨λ_ g=>g,λ_ _=>rfl⟩ (λx _ G u=>⟨G,mem _ _ u,rfl,qN _,λ_=>rfl⟩) (λ_=>rfl) (λ_ _ _=>rfl) (h.bl nm b (mem nm b hb))
variable {D:Nat->Prop}{w:World}
theorem zr(ns:List Nat)(h:AV.relL P ⟨w,D,m,E⟩ as us):
  AV.relL P ⟨w,D,bG (dS m ns),E⟩ as us:=
 AV.relL_mono (C:=⟨w,D,m,E⟩) (C':=⟨w,D,bG (dS m ns),E⟩) ⟨λ_ h=>h,λ_ _=>rfl⟩ (λk _ j f=>⟨j,(by
  have:=dR m k ns;replace f:(dS m ns).lookup k=some j:=f;rw[this]at f;split at f;exact f;cases f),rfl,qN _,λ_=>rfl⟩) h
variable {S:Base}{a:Act}{args:List AV}{u:Value}{σ:Sig}{callee:AV}{c:Core}{nx:Nat}
theorem C0(hK:ay S.P S.G K)(h:aL S σ a w D E)
  (hc:yn S.P K nx σ.m callee args=some c) (hn:∀q∈c.need,q) (hunm:∀k,c.new=some k->Unm k σ) (hcal:callee.rel S.P ⟨w,D,σ.m,E⟩ u) (L:AV.relL S.P ⟨w,D,σ.m,E⟩ args us):
  ∃f as,(do let d <- Deferred.ofValue u us.toArray;invoke d.target d.args).run S.P w=.ok (.enter f as) w/\
   Calls S.P f as w λe w''=>∃v,e=.returned v/\Outcome S ⟨σ.T,upM σ.m c.upd,σ.sv⟩ a c.val v w'':=by
 have X:∀f caps,u=.func (.func f) #[] caps->goes S.P f=true->(do let d <- Deferred.ofValue u us.toArray;invoke d.target d.args).run S.P w=.ok (.enter f (us.toArray++caps)) w:=by
  intro f caps hu hg;subst hu;simp only[Deferred.ofValue,wS,yN,wK,invoke,qAh];exact mh hg w _
 unfold yn at hc;split at hc;rename_i f caps;split at hc;case isFalse=>cases hc
 rename_i hg;split at hc;case isFalse=>cases hc
 rename_i hall;split at hc;case h_2=>cases hc
 rename_i cr hk;have hns:∀k∈cL σ.m (AV.namesL (ga S.P K f args caps++caps)),∀b,σ.m k=some b->∀x∈b.names,x∈cL σ.m (AV.namesL (ga S.P K f args caps++caps)):=by
  intro k hk b hb x hx;rw[qU]at hall;have:=hall k hk;rw[hb]at this;unfold lX at this;simp only[qU]at this;simpa using this x hx
 obtain⟨cs,hu,hcaps⟩:=hcal;have hall2:=zr (cL σ.m (AV.namesL (ga S.P K f args caps++caps))) (AV.relL_append (RL (P:=S.P) (K:=K) (f:=f) (caps:=caps) L) hcaps);have e:us.toArray++cs.toArray=(us++cs).toArray:=by simp
 have j:=λhp:cr.pre=>hK f _ _ cr hk hp w D E (us++cs) h.dlt (jB.mono (C:=⟨w,D,σ.m,E⟩) ⟨λ_ g=>g,λ_ _=>rfl⟩ h.gl) hall2 (h.heldOf _);split at hc;rename_i k0 b0 hfr;split at hc;case isFalse=>cases hc
 rename_i hnm;cases hc;unfold Ti at hfr;split at hfr;case h_2=>cases hfr
 rename_i k1 b1 hmem hupd;split at hfr;case isFalse=>cases hfr
 rename_i hb0;cases hfr;refine⟨f,_,X f _ hu hg,?_⟩;rw[e];refine(j (Ob.get hn (by simp))).mono λe w' he=>?_;obtain⟨v,D',E',rfl,hl,hv⟩:=he;rw[hmem,hupd]at hl hv;refine⟨v,rfl,D',upE E nx (E' k0),h.calledNew (hunm nx rfl) (wX.1 hb0) hl,?_⟩;refine AV.rel_ren (m:=upM (bG []) [(k0,b0)]) (E:=E') (k:=k0) ?_ ?_ (λx hx=>?_) hv;show upM σ.m [(nx,b0)] nx=upM (bG []) [(k0,b0)] k0;rw[eX,eX,if_pos rfl,if_pos rfl];simp[upE];have:=qU.1 hnm x hx;simpa using this;split at hc;case h_2=>cases hc
 rename_i q hq;split at hc;case isFalse=>cases hc
 rename_i hnl;cases hc;refine⟨f,_,X f _ hu hg,?_⟩;rw[e];refine(j (Ob.get hn (by simp))).mono λe w' he=>?_;obtain⟨v,D',E',rfl,hl,hv⟩:=he;obtain⟨g1,g2⟩:=h.called hns hq (λp hp=>hn p (by simp[hp])) hl;refine⟨v,rfl,D',_,g1,AV.rel_mono (C:=⟨w',D',upM (bG (dS σ.m (cL σ.m (AV.namesL (ga S.P K f args caps++caps))))) cr.upd,E'⟩) (C':=⟨w',D',upM σ.m cr.upd,λk=>if k∈cL σ.m (AV.namesL (ga S.P K f args caps++caps))then E' k else E k⟩) ⟨λ_ g=>g,λ_ _=>rfl⟩ (λnm hnm b' A=>?_) hv⟩;have hin:nm∈cL σ.m (AV.namesL (ga S.P K f args caps++caps)):=by
  have:=qU.1 hnl nm hnm;simpa using this
 have hml:∀b,σ.m nm=some b->bG (dS σ.m (cL σ.m (AV.namesL (ga S.P K f args caps++caps)))) nm=some b:=λb hb=>by
  show(dS σ.m _).lookup nm=some b;rw[dR,if_pos hin];exact hb
 replace A:upM σ.m cr.upd nm=some b':=A;rw[dH]at A;have ex:∃b0,σ.m nm=some b0/\upM (bG (dS σ.m (cL σ.m (AV.namesL (ga S.P K f args caps++caps))))) cr.upd nm=some b':=by
  split at A;rename_i b1 h1;obtain⟨b0,k1,_⟩:=qp hq (λp hp=>hn p (by simp[hp])) nm b1 h1;exact⟨b0,k1,by rw[dH,h1];exact A⟩;rename_i h1;exact⟨b',A,by rw[dH,h1];exact hml b' A⟩
 obtain⟨b0,k1,k2⟩:=ex;exact⟨b',k2,rfl,qN _,λ_=>if_pos hin⟩;rename_i a1 r pre g x;split at hc;case h_2=>cases hc
 rename_i y hy;cases hc;obtain⟨u1,us',e,r1,r2⟩:=L;simp only[AV.relL]at r2;subst r2 e;obtain⟨f,caps,hu,hg,j⟩:=hcal;have hr:=AV.as_rel hy r1;refine⟨f,_,X f _ hu hg,?_⟩;refine(j w D (λb hb=>hb) h.dlt (λ_ _=>rfl) y u1 (Ob.get hn (by simp)) hr).mono λe w' he=>?_;obtain⟨v,rfl,hw,hv⟩:=he;exact⟨v,rfl,_,E,h.pureCall hw,hv⟩;rename_i a1 b1 r pre g x x2;split at hc;case h_2=>cases hc
 rename_i y z hy hz;cases hc;obtain⟨u1,us',e,r1,u2,us'',e2,r2,r3⟩:=L;simp only[AV.relL]at r3;subst r3 e2 e;obtain⟨f,caps,hu,hg,j⟩:=hcal;refine⟨f,_,X f _ hu hg,?_⟩;refine(j w D (λb hb=>hb) h.dlt (λ_ _=>rfl) y z u1 u2 (Ob.get hn (by simp)) (AV.as_rel hy r1) (AV.as_rel hz r2)).mono λe w' he=>?_;obtain⟨v,rfl,hw,hv⟩:=he;exact⟨v,rfl,_,E,h.pureCall hw,hv⟩;cases hc
def gS:AV->AV|.dat (.int k) x=>.dat (.int k) x|.dat .bool x=>.dat .bool x|.dat .str x=>.dat .str x|_=>.top
theorem QO{C C':Ctx}{a:AV}(h:a.rel P C v):(gS a).rel P C' v:=by
 unfold gS;split;exact h;exact h;exact h;trivial
def Ou(m:Nat->Option Blk)(E:Nat->Ent)(D:Nat->Prop):Nat->Prop:=λb=>D b\/bE m E b
def O2(P:Program)(K:Kt)(nx:Nat)(m:Nat->Option Blk)(callee:AV)(args:List AV):Option Core:=match yn P K nx m callee args with|some c=>some c|none=>yn P K nx m (jX callee) (sX args)
theorem X2(X:ay S.P S.G K)(h:aL S σ a w D E)
  (hc:O2 S.P K nx σ.m callee args=some c) (L:∀q∈c.need,q) (y:∀k,c.new=some k->Unm k σ) (z:callee.rel S.P ⟨w,D,σ.m,E⟩ u) (j:AV.relL S.P ⟨w,D,σ.m,E⟩ args us):
  ∃f as,(do let d <- Deferred.ofValue u us.toArray;invoke d.target d.args).run S.P w=.ok (.enter f as) w/\
   Calls S.P f as w λe A=>∃v,e=.returned v/\Outcome S ⟨σ.T,upM σ.m c.upd,σ.sv⟩ a c.val v A:=by
 unfold O2 at hc;split at hc;rename_i c1 h1;cases hc;exact C0 X h h1 L y z j;exact C0 X h hc L y (AV.rel_forg z) (AV.relL_forg j)
def selC(P:Program)(K:Kt)(nx:Nat)(m:Nat->Option Blk)(args:List AV)(t:Ty):List AV->Option (List (List Ob×t.den))
 |[]=>some []|c::cs=>match yn P K nx m c args,selC P K nx m args t cs with
  |some co,some r=>match co.upd,co.new,co.val.as t with
   |[],none,some x=>some ((co.need,x)::r)|_,_,_=>none
  |_,_=>none
def uj{α:Type}(i:Nat):Nat->List (List Ob×α)->List Ob|_,[]=>[]|j,q::r=>q.1.map (Ob.under (i=j))++uj i (j+1) r
def mZ(P:Program)(K:Kt)(nx:Nat)(m:Nat->Option Blk)(f:AV)(args:List AV):Option Core:=match f with
 |.sel i cs=>match cs with
  |[]=>none|c::r=>match yn P K nx m c args with
   |some co=>match co.val with
    |.dat t _=>match selC P K nx m args t (c::r)with
     |some q=>some {need:=uj (Dc i) 0 q,val:=.dat t (Dw (q.map (·.2)) (Dc i) t.dflt)}|none=>none
    |_=>none
   |none=>none
 |f=>O2 P K nx m f args
theorem QM{t:Ty}:∀{cs:List AV}{q:List (List Ob×t.den)},selC P K nx m args t cs=some q->∀{j:Nat}{c:AV},cs[j]?=some c->
  ∃f x,yn P K nx m c args=some f/\f.upd=[]/\f.new=none/\f.val.as t=some x/\q[j]?=some (f.need,x)
 |[],_,_,j,c,h=>by simp at h|c'::cs,q,u,j,c,h=>by
  unfold selC at u;split at u;case h_2=>cases u
  rename_i f r z y;split at u;case h_2=>cases u
  rename_i x L G A;cases u;cases j with
  |zero=>
   simp only[kF,vV]at h;subst h;exact⟨f,x,z,L,G,A,rfl⟩
  |succ j=>simpa using QM y (by simpa using h)
theorem zi{α:Type}{i:Nat}:∀{q:List (List Ob×α)}{b j:Nat}{ns:List Ob}{x:α},(∀p∈uj i b q,p)->q[j]?=some (ns,x)->i=b+j->∀p∈ns,p
 |[],_,_,_,_,_,h,_=>by simp at h|y::q,b,j,ns,x,u,h,e=>by
  intro p f;cases j with
  |zero=>
   simp only[kF,vV]at h;subst h;exact u (Ob.under (i=b) p) (by simp only[uj,qJ,vU];exact .inl ⟨p,f,rfl⟩) Z
  |succ j=>
   exact zi (b:=b+1) (λp f=>u p (by simp only[uj,qJ];exact .inr f)) (by simpa using h) Z p f
theorem JZ(hK:ay S.P S.G K)(h:aL S σ a w D E)
  (hc:mZ S.P K nx σ.m callee args=some c) (hn:∀q∈c.need,q) (A:∀k,c.new=some k->Unm k σ) (y:callee.rel S.P ⟨w,D,σ.m,E⟩ u) (j:AV.relL S.P ⟨w,D,σ.m,E⟩ args us):
  ∃f as,(do let d <- Deferred.ofValue u us.toArray;invoke d.target d.args).run S.P w=.ok (.enter f as) w/\
   Calls S.P f as w λe X=>∃v,e=.returned v/\Outcome S ⟨σ.T,upM σ.m c.upd,σ.sv⟩ a c.val v X:=by
 unfold mZ at hc;split at hc;rename_i i cs;split at hc;cases hc;rename_i c0 r;split at hc;case h_2=>cases hc
 rename_i co0 _;split at hc;case h_2=>cases hc
 rename_i t _ _;split at hc;case h_2=>cases hc
 rename_i q hq;cases hc;obtain⟨vs,g1,g2⟩:=y;have L:i.toNat<(c0::r).length:=by rw[AV.relL_length g1];exact(qE.1 g2).1
 obtain⟨co,x,k1,k2,k3,k4,k5⟩:=QM hq (qB L);obtain⟨u',g3,g4⟩:=AV.relL_get g1 (qB L);have eu:u'=u:=wF (g3.symm.trans g2);subst eu;have z:=zi (b:=0) (i:=i.toNat) hn k5 Z;obtain⟨f,as,h1,h2⟩:=C0 hK h k1 z (λk hk=>by rw[k3]at hk;cases hk) g4 j;refine⟨f,as,h1,h2.mono λe w' he=>?_⟩;obtain⟨v,rfl,D',E',p1,p2⟩:=he;rw[k2]at p1 p2;refine⟨v,rfl,D',E',p1,?_⟩;have hx:=AV.as_rel k4 p2;have ev:(q.map (·.2)).getD i.toNat t.dflt=x:=by
  simp only[List.getD,qQ,k5];rfl
 show af _ _ t ((q.map (·.2)).getD i.toNat t.dflt) [v];rw[ev];exact hx;exact X2 hK h hc hn A y j
def aAm:RV->Option Core|(.ip t x,_)=>some {val:=.ip t x}|(.ptr nm g i c,some b)=>some {need:=[b.len=g],val:=.ptr nm g i c}|(.fn f caps,_)=>some {val:=.fn f caps}|(.ipv x,_)=>some {val:=.ipv x}|(.ips cs,_)=>some {val:=.ips cs}|(.ia t xs,_)=>some {val:=.ia t xs}|(.sel i cs,_)=>if cs.all aFN then some {val:=.sel i cs} else none|_=>none
def I0:Operand->Operand->Bool|.tmp i,.tmp j=>i==j|.const (.int k x),.const (.int k' y)=>decide (k=k')&&decide (x=y)|_,_=>false
def C4(P:Program)(nx:Nat)(b:Builtin)(ts:Array TypeId)(vs:List RV):Option Core:=
 match b,vs with
 |.len,[x]=>match ts[0]? with
  |some t=>aFG P t x|none=>none
 |.append,[s,x]=>match ts.toList with
  |[t,t']=>if t=t' then aDw P nx t s x else none|_=>none
 |.copy,[d,s]=>match ts.toList with
  |[t,_]=>aA2 P t d s|_=>none
 |.max,vs=>match(vs.map (·.1):List AV)with
  |.dat (.int k) x::r=>match aBD true k x r with
   |some y=>some {val:=.dat (.int k) y}|none=>none
  |_=>none
 |.min,vs=>match(vs.map (·.1):List AV)with
  |.dat (.int k) x::r=>match aBD false k x r with
   |some y=>some {val:=.dat (.int k) y}|none=>none
  |_=>none
 |_,_=>none
def opE(P:Program)(K:Kt)(mt:Bool)(nx:Nat)(m:Nat->Option Blk)(o:Op)(vs:List RV):Option Core:=
 match o,vs with
 |.move _,[x]=>some {val:=x.1}|.assign _,[x]=>some {val:=x.1}|.alloc e,[]=>match xu P nx e with
  |some c=>some c|none=>UB P nx e
 |.build t parts,vs=>Uk P t (parts.toList.map (·.1)) vs|.box e _,[x]=>match rn P m mt e x.1 with
  |some c=>some c|none=>match J3 mt x with
   |some c=>some c|none=>aF1 P mt nx e x
 |.buildSlice t len parts,vs=>match R1 P mt t len (parts.toList.map (·.1)) (vs.map (·.1))with
  |some c=>some c|none=>aFF P mt nx t len (parts.toList.map (·.1)) (vs.map (·.1))
 |.load t _,[p]=>match BR P t p with
  |some c=>some c|none=>match tG P t p with
   |some c=>some c|none=>Xa P t p
 |.store t _ _,[p,v]=>match uc P t p v with
  |some c=>some c|none=>match ud P t p v with
   |some c=>some c|none=>match QG P t p v with
    |some c=>some c|none=>jH P m t p v
 |.nilCheck _,[p]=>aAm p|.binOp op xT _ y _,[a,b]=>match S4 P op xT y a.1 b.1 with
  |some c=>some c|none=>aF2 P op xT a.1 b.1
 |.unOp op _ _,[a]=>unE op a.1|.convert s d _,[a]=>match Ui P s d a.1 with
  |some c=>some c|none=>aA3 P s d a.1
 |.makeInterface t _,[x]=>RY P t x.1|.typeAssert _ _ t ok,[x]=>J4 P t ok x.1|.makeFunc (.func f) first _,vs=>if first.isEmpty then some {val:=.fn f (vs.map (·.1))} else none
 |.makeSlice t l c,[a,b]=>aAp P nx t a.1 b.1 (I0 l c)|.slice t _ none none none,[x]=>match xn P t x with
  |some c=>some c|none=>zh P t x.1 none none
 |.slice t _ (some _) none none,[x,l]=>zh P t x.1 (some l.1) none|.slice t _ none (some _) none,[x,h]=>zh P t x.1 none (some h.1)|.slice t _ (some _) (some _) none,[x,l,h]=>zh P t x.1 (some l.1) (some h.1)|.fieldAddr s _ f,[p]=>rh P s f p|.field t _ f,[x]=>TD P t f x.1|.indexAddr t _ _,[x,i]=>match wa P t x i.1 with
  |some c=>some c|none=>q8 P t x i.1
 |.index t _ _,[x,i]=>match Cb P t x.1 i.1 with
  |some c=>some c|none=>SV P t x.1 i.1
 |.extract _ i,[x]=>CO i x.1|.call c,vs=>match c.callee,vs with
  |.builtin b,vs=>C4 P nx b c.argTypes vs|.value _,f::args=>mZ P K nx m f.1 (args.map (·.1))|_,_=>none
 |_,_=>none
theorem BA(h:AV.relL P C [] us):us=[]:=h
theorem fR{a:AV}(h:AV.relL P C [a] [u]):a.rel P C u:=by
 obtain⟨_,_,e,g,_⟩:=h;cases e;exact g
theorem ux{a b:AV}{u v:Value}(h:AV.relL P C [a,b] [u,v]):a.rel P C u/\b.rel P C v:=by
 obtain⟨_,_,e,g,_,_,f,g2,_⟩:=h;cases e;cases f;exact⟨g,g2⟩
theorem aCC{a b c:AV}{u v x:Value}(h:AV.relL P C [a,b,c] [u,v,x]):a.rel P C u/\b.rel P C v/\c.rel P C x:=by
 obtain⟨_,_,e,g,_,_,y,g2,_,_,j,f,_⟩:=h;cases e;cases y;cases j;exact⟨g,g2,f⟩
theorem Yields.value{S:Base}{σ:Sig}{a:Act}{x:AV}{s:Sem Value}{w:World}(h:∃r w',s.run S.P w=.ok r w'/\Outcome S σ a x r w'):
  Yields S σ a x ((do pure (Next.value (<- s)):Sem Next).run S.P w):=by
 obtain⟨r,w',j,f⟩:=h;exact .inl ⟨r,w',by simp[j],f⟩
theorem Yields.same{S:Base}{σ:Sig}{a:Act}{x:AV}{s:Sem Value}{w:World}{D:Nat->Prop}{E:Nat->Ent}(f:aL S σ a w D E)(h:∃r,s.run S.P w=.ok r w/\x.rel S.P ⟨w,D,σ.m,E⟩ r):
  Yields S σ a x ((do pure (Next.value (<- s)):Sem Next).run S.P w):=by
 obtain⟨r,u,j⟩:=h;exact Yields.value ⟨r,w,u,D,E,f,j⟩
theorem NQ{i j:Operand}(h:I0 i j=true)(a:Act):a.eval i=a.eval j:=by
 unfold I0 at h;split at h;simp only[yJ]at h;subst h;rfl;simp only[qC,qF]at h;obtain⟨rfl,rfl⟩:=h;rfl;cases h
theorem toList_map{α β:Type}(xs:Array α)(f:α->β):xs.map f=(xs.toList.map f).toArray:=by
 apply yP;simp
variable {vs:List RV}
theorem J1(h:aL S σ a w D E){b:Builtin}{ts:Array TypeId}{ty:TypeId}{cs:Array Bool}
  (X:AV.relL S.P ⟨w,D,σ.m,E⟩ (vs.map (·.1)) us) (f:∀v∈vs,v.2=cV σ.m v.1) (hc:C4 S.P nx b ts vs=some c) (hn:∀q∈c.need,q) (hu:∀k,c.new=some k->Unm k σ):
  Yields S ⟨σ.T,upM σ.m c.upd,σ.sv⟩ a c.val ((builtin b ts ty cs us.toArray).run S.P w):=by
 unfold C4 at hc;split at hc;rename_i x;obtain⟨u,j,e,A,g2⟩:=X;have g2':=BA g2;subst g2' e;split at hc;rename_i t ht;obtain⟨r,h1,h2,h3,_⟩:=aAu (ty:=ty) h ht (f x (by simp)) hc hn A;rw[h3];exact Yields.same h ⟨r,h1,h2⟩;cases hc;rename_i s x;obtain⟨u,j,e,A,u2,us2,e2,g3,g4⟩:=X;have g4':=BA g4;subst g4' e2 e;split at hc;rename_i t t' L;split at hc;rename_i ht;subst ht;have z:ts=#[t,t]:=by apply yP;exact L
 subst z;exact Yields.value (aBh h (f s (by simp)) (f x (by simp)) hc hn A g3 hu);cases hc;cases hc;rename_i d s;obtain⟨u,j,e,A,u2,us2,e2,g3,g4⟩:=X;have g4':=BA g4;subst g4' e2 e;split at hc;rename_i t t' L;have z:ts=#[t,t']:=by apply yP;exact L
 subst z;exact Yields.value (XQ h (f d (by simp)) (f s (by simp)) hc hn A g3);cases hc;split at hc;rename_i k x r G;split at hc;rename_i y hy;cases hc;rw[G]at X;obtain⟨u,j,e,A,g2⟩:=X;subst e;simp only[AV.rel,af,vF,wB]at A;subst A;have:=Bt (P:=S.P) (w:=w) true k r j x y hy g2;refine Yields.same h ⟨.int k y,?_,rfl⟩;simp only[Builtin.max_];exact this;cases hc;cases hc;split at hc;rename_i k x r G;split at hc;rename_i y hy;cases hc;rw[G]at X;obtain⟨u,j,e,A,g2⟩:=X;subst e;simp only[AV.rel,af,vF,wB]at A;subst A;have:=Bt (P:=S.P) (w:=w) false k r j x y hy g2;refine Yields.same h ⟨.int k y,?_,rfl⟩;simp only[Builtin.min_];exact this;cases hc;cases hc;cases hc
theorem aCL(hK:ay S.P S.G K)(h:aL S σ a w D E){mt:Bool}{o:Oper}
  (hr:AV.relL S.P ⟨w,D,σ.m,E⟩ (vs.map (·.1)) (o.op.operands.toList.map a.eval)) (L:∀v∈vs,v.2=cV σ.m v.1)
  (hc:opE S.P K mt nx σ.m o.op vs=some c) (hn:∀q∈c.need,q) (hu:∀k,c.new=some k->Unm k σ/\∀v∈vs,k∉v.1.names):
  Yields S ⟨σ.T,upM σ.m c.upd,σ.sv⟩ a c.val ((execOp a.eval o).run S.P w):=by
 have hu1:∀k,c.new=some k->Unm k σ:=λk hk=>(hu k hk).1;obtain⟨dst,op,type,pos,after,guard⟩:=o;simp only at hr hc;unfold opE at hc;split at hc;rename_i x0 x;cases hc;exact .inl ⟨_,w,rfl,D,E,h,fR hr⟩;rename_i x0 x;cases hc;exact .inl ⟨_,w,rfl,D,E,h,fR hr⟩;split at hc;rename_i c' z;cases hc;exact Yields.value (Is h z hu1);exact Yields.value (UA h hc hu1);rename_i t parts;have hmap:(parts.map λ(i,x)=>(i,a.eval x))=((parts.toList.map (·.1)).zip (parts.toList.map λp=>a.eval p.2)).toArray:=by
  apply yP;simp only[qAu,List.zip_map']
 have hops:(Op.build t parts).operands.toList.map a.eval=parts.toList.map λp=>a.eval p.2:=by
  simp[Op.operands]
 rw[hops]at hr;obtain⟨r,A,j,X,_⟩:=Uj (w:=w) hc hn L hr;rw[X];refine Yields.same h ⟨r,?_,j⟩;rw[hmap];exact A;rename_i e x0 x;split at hc;rename_i c' z;cases hc;exact Yields.value (O6 h z (fR hr));split at hc;rename_i c' z;cases hc;exact Yields.value (O7 h z (fR hr));refine Yields.value (aBb h (L x (by simp)) hc hn (λk hk=>⟨hu1 k hk,λhm=>?_⟩) (fR hr));have:=(hu k hk).2 x (by simp);apply this;cases hx:x.1<;>rw[hx]at hm<;>first|exact hm|simpa[cH,AV.namesL]using hm
 rename_i t len parts;have hmap:(parts.map λ(i,x)=>(i,a.eval x))=((parts.toList.map (·.1)).zip (parts.toList.map λp=>a.eval p.2)).toArray:=by
  apply yP;simp only[qAu,List.zip_map']
 have hops:(Op.buildSlice t len parts).operands.toList.map a.eval=parts.toList.map λp=>a.eval p.2:=by
  simp[Op.operands]
 rw[hops]at hr;split at hc;rename_i c' z;cases hc;obtain⟨r,w',A,j⟩:=RZ h z hr;refine Yields.value ⟨r,w',?_,j⟩;rw[hmap];exact A;obtain⟨_,r,w',A,j⟩:=aAr h hc hr hu1;refine Yields.value ⟨r,w',?_,j⟩;rw[hmap];exact A;rename_i t x0 p;split at hc;rename_i c' z;cases hc;obtain⟨r,A,j,X,_⟩:=Jr h (L p (by simp)) z hn (fR hr);rw[X];exact Yields.same h ⟨r,A,j⟩;split at hc;rename_i c' z;cases hc;obtain⟨r,A,j,X,_⟩:=vg h (L p (by simp)) z hn (fR hr);rw[X];exact Yields.same h ⟨r,A,j⟩;obtain⟨r,A,j,X,_⟩:=Ly h (L p (by simp)) hc hn (fR hr);rw[X];exact Yields.same h ⟨r,A,j⟩;rename_i t x0 y0 p v;obtain⟨g1,g2⟩:=ux hr;split at hc;rename_i c' z;cases hc;obtain⟨_,hval,w',A,D',E',j⟩:=D9 h (L p (by simp)) (L v (by simp)) z hn g1 g2;refine .inr (.inl ⟨w',by simp[execOp,A],D',E',j,?_⟩);rw[hval];rfl;split at hc;rename_i c' z;cases hc;obtain⟨_,hval,w',A,D',E',j⟩:=Eg h (L p (by simp)) z hn g1 g2;refine .inr (.inl ⟨w',by simp[execOp,A],D',E',j,?_⟩);rw[hval];rfl;split at hc;rename_i c' z;cases hc;obtain⟨_,hval,w',A,D',E',j⟩:=QF h (L p (by simp)) (L v (by simp)) z hn g1 g2;refine .inr (.inl ⟨w',by simp[execOp,A],D',E',j,?_⟩);rw[hval];rfl;obtain⟨_,hval,w',A,D',E',j⟩:=D8 h (L p (by simp)) hc hn g1 g2;refine .inr (.inl ⟨w',by simp[execOp,A],D',E',j,?_⟩);rw[hval];rfl;rename_i x0 p;have hp:=fR hr;unfold aAm at hc;split at hc;cases hc;obtain⟨bl,off,us,e,g⟩:=hp;refine .inl ⟨_,w,?_,D,E,h,⟨bl,off,us,rfl,g⟩⟩;simp[execOp,e]
 rename_i nm g i c0 b;cases hc;have hm:σ.m nm=some b:=(L _ (qW.2 rfl)).symm;obtain⟨_,_,e⟩:=(hp b hm).2 (Ob.get hn (by simp));refine .inl ⟨_,w,?_,D,E,h,hp⟩;simp[execOp,e];cases hc;obtain⟨us,e,g⟩:=hp;refine .inl ⟨_,w,?_,D,E,h,⟨us,rfl,g⟩⟩;simp[execOp,e];cases hc;obtain⟨bl,off,u,e,g⟩:=hp;refine .inl ⟨_,w,?_,D,E,h,⟨bl,off,u,rfl,g⟩⟩;simp[execOp,e];cases hc;obtain⟨bl,off,us,e,g⟩:=hp;refine .inl ⟨_,w,?_,D,E,h,⟨bl,off,us,rfl,g⟩⟩;simp[execOp,e];cases hc;obtain⟨bl,off,e,g⟩:=hp;refine .inl ⟨_,w,?_,D,E,h,⟨bl,off,rfl,g⟩⟩;simp[execOp,e];rename_i i cs _;split at hc;case isFalse=>cases hc
 rename_i hall;cases hc;obtain⟨vs,g1,g2⟩:=hp;have hlt:i.toNat<cs.length:=by rw[AV.relL_length g1];exact(qE.1 g2).1
 obtain⟨u',g3,g4⟩:=AV.relL_get g1 (qB hlt);have eu:=wF (g3.symm.trans g2);have hf:=qU.1 hall _ (wM hlt);have:∃f us,a.eval x0=.func (.func f) #[] us:=by
  rw[<- eu];cases hq:cs[i.toNat]<;>rw[hq]at hf g4<;>first|cases hf|skip
  obtain⟨us,e,_⟩:=g4;exact⟨_,_,e⟩
 obtain⟨f,us,e⟩:=this;refine .inl ⟨_,w,?_,D,E,h,⟨vs,g1,g2⟩⟩;simp[execOp,e];cases hc;rename_i bop xT x0 y0 yT x y;obtain⟨g1,g2⟩:=ux hr;split at hc;rename_i c' z;cases hc;obtain⟨r,A,j,X,_⟩:=S3 (w:=w) (x:=x0) (y:=y0) z g1 g2;rw[X];exact Yields.same h ⟨r,A,j⟩;obtain⟨r,A,j,X⟩:=VV (w:=w) (x:=x0) (y:=y0) hc hn g1 g2;rw[X];exact Yields.same h ⟨r,A,j⟩;rename_i uop t0 x0 x;obtain⟨r,A,j,X⟩:=oT (P:=S.P) (w:=w) hc hn (fR hr);rw[X];exact Yields.same h ⟨r,A,j⟩;rename_i s d x0 x;split at hc;rename_i c' z;cases hc;exact Yields.value (Uh h z (fR hr));obtain⟨r,A,j,X⟩:=Q0 (w:=w) hc hn (fR hr);rw[X];exact Yields.same h ⟨r,A,j⟩;rename_i t x0 x;obtain⟨r,A,j,X,_⟩:=RX (w:=w) hc (fR hr);rw[X];exact Yields.same h ⟨r,A,j⟩;rename_i x0 xt t ok x;obtain⟨r,A,j,X,_⟩:=Pq (w:=w) (xt:=xt) hc (fR hr);rw[X];exact Yields.same h ⟨r,A,j⟩;rename_i f first caps
 split at hc;rename_i hf;cases hc;have hf':first=#[]:=by simpa using hf
 subst hf';refine .inl ⟨.func (.func f) #[] (caps.map a.eval),w,?_,D,E,h,caps.toList.map a.eval,by rw[toList_map],?_⟩;simp[execOp,Instr.makeFunc];have hr':AV.relL S.P ⟨w,D,σ.m,E⟩ (vs.map (·.1)) (caps.toList.map a.eval):=by simpa[Op.operands]using hr
 exact hr';cases hc;rename_i t l c0 x y;obtain⟨g1,g2⟩:=ux hr;exact Yields.value (WZ h (λhs=>NQ hs a) hc hn g1 g2 hu1);rename_i t x0 x;split at hc;rename_i c' z;cases hc;obtain⟨r,A,j,X,_⟩:=Ir h (L x (by simp)) z hn (fR hr);rw[X];exact Yields.same h ⟨r,A,j⟩;obtain⟨r,A,j,X,_⟩:=oU (w:=w) (vl:=none) (vh:=none) hc hn (fR hr) trivial trivial;rw[X];exact Yields.same h ⟨r,A,j⟩;rename_i t x0 l0 x l;obtain⟨g1,g2⟩:=ux hr;obtain⟨r,A,j,X,_⟩:=oU (w:=w) (vl:=some _) (vh:=none) hc hn g1 g2 trivial;rw[X];exact Yields.same h ⟨r,A,j⟩;rename_i t x0 l0 x l;obtain⟨g1,g2⟩:=ux hr;obtain⟨r,A,j,X,_⟩:=oU (w:=w) (vl:=none) (vh:=some _) hc hn g1 trivial g2;rw[X];exact Yields.same h ⟨r,A,j⟩;rename_i t x0 l0 h0 x l hh;obtain⟨g1,g2,g3⟩:=aCC hr;obtain⟨r,A,j,X,_⟩:=oU (w:=w) (vl:=some _) (vh:=some _) hc hn g1 g2 g3;rw[X];exact Yields.same h ⟨r,A,j⟩;rename_i s x0 f p;obtain⟨r,A,j,X,_⟩:=CJ h (L p (by simp)) hc hn (fR hr);rw[X];exact Yields.same h ⟨r,A,j⟩;rename_i t x0 f x;obtain⟨r,A,j,X,_⟩:=TC (w:=w) hc (fR hr);rw[X];exact Yields.same h ⟨r,A,j⟩;rename_i t x0 i0 x i;obtain⟨g1,g2⟩:=ux hr;split at hc;rename_i c' z;cases hc;obtain⟨r,A,j,X,_⟩:=Hm h (L x (by simp)) z hn g1 g2;rw[X];exact Yields.same h ⟨r,A,j⟩;obtain⟨r,A,j,X,_⟩:=Cc h (L x (by simp)) hc hn g1 g2;rw[X];exact Yields.same h ⟨r,A,j⟩;rename_i t x0 i0 x i;obtain⟨g1,g2⟩:=ux hr;split at hc;rename_i c' z;cases hc;obtain⟨r,A,j,X,_⟩:=JF (w:=w) z hn g1 g2;rw[X];exact Yields.same h ⟨r,A,j⟩;obtain⟨r,A,j,X,_⟩:=SU (w:=w) hc hn g1 g2;rw[X];exact Yields.same h ⟨r,A,j⟩
 rename_i x0 i x;obtain⟨r,A,j,X,_⟩:=JQ (P:=S.P) (w:=w) hc (fR hr);rw[X];exact Yields.same h ⟨r,A,j⟩;rename_i cl;obtain⟨callee,args,argTypes⟩:=cl;simp only at hc;split at hc;rename_i b;have hr':AV.relL S.P ⟨w,D,σ.m,E⟩ (vs.map (·.1)) (args.toList.map a.eval):=by simpa[Op.operands,Call.operands]using hr
 obtain⟨cs,e⟩:∃cs,execOp a.eval ⟨dst,.call {callee:=.builtin b,args:=args,argTypes:=argTypes},type,pos,after,guard⟩=builtin b argTypes type cs (args.map a.eval):=⟨_,by simp only[execOp,resolve,pure_bind,invoke];rfl⟩;rw[e,toList_map args a.eval];exact J1 (ty:=type) h hr' L hc hn hu1;rename_i x0 f fs;have hr':AV.relL S.P ⟨w,D,σ.m,E⟩ (f.1::fs.map (·.1)) (a.eval x0::args.toList.map a.eval):=by simpa[Op.operands,Call.operands]using hr
 obtain⟨u,us',e,g1,g2⟩:=hr';simp only[vF]at e;obtain⟨rfl,rfl⟩:=e;obtain⟨f',as,j,X⟩:=JZ hK h hc hn hu1 g1 g2;refine .inr (.inr ⟨f',as,w,?_,X⟩);have e2:execOp a.eval ⟨dst,.call {callee:=.value x0,args:=args,argTypes:=argTypes},type,pos,after,guard⟩=(do let d <- Deferred.ofValue (a.eval x0) (args.toList.map a.eval).toArray;invoke d.target d.args):=by
  simp only[execOp,resolve,toList_map args a.eval]
 rw[e2];exact j;cases hc;cases hc
theorem uQ:∀{ts:List TypeId}{as:List AV},k∈AV.namesL (yf P ts as)->k∈AV.namesL as
 |[],_,h=>h|_::_,[],h=>h|t::ts,a::as,h=>by
  simp only[yf,AV.namesL,qJ]at h ⊢;rcases h with h|h;left;unfold WM at h;split at h;split at h;simp[AV.names]at h;exact h;split at h;split at h;simp only[AV.names,iI]at h;cases h;exact h;exact h;exact h;exact .inr (uQ h)
theorem py:∀(l k:List AV),AV.namesL (l++k)=AV.namesL l++AV.namesL k|[],_=>rfl|a::l,k=>by simp[AV.namesL,py l k]
theorem uZ{m m':Nat->Option Blk}:∀{l:List Nat},(∀k∈l,m' k=m k)->dS m' l=dS m l
 |[],_=>rfl|k::l,h=>by
  simp only[dS];rw[h k (by simp),uZ (λx f=>h x (by simp[f]))]
theorem za{m m':Nat->Option Blk}(h:∀k∈ns,m' k=m k):∀u:Mem,Vb m' ns u=Vb m ns u
 |[]=>rfl|(k,b)::r=>by
  simp only[Vb];rw[za h r];by_cases f:k∈ns;rw[h k f];have hc:ns.contains k=false:=by simpa using f
  cases m' k<;>cases m k<;>cases Vb m ns r<;>simp[hc,f]
theorem Jj(h:k∈AV.namesL (ga P K f as caps)):k∈AV.namesL as:=by
 unfold ga at h;split at h;exact h;exact uQ h
theorem lk{m m':Nat->Option Blk}{f:AV}(h:∀k,k∈cL m f.names\/k∈cL m (AV.namesL args)->m' k=m k):yn P K nx m' f args=yn P K nx m f args:=by
 unfold yn;split;rename_i f caps;have up:∀k∈AV.namesL (ga P K f args caps++caps),k∈AV.namesL args\/k∈(AV.fn f caps).names:=λk u=>by
  rw[py,qJ]at u;rcases u with u|u;exact .inl (Jj u);exact .inr (by simpa[AV.names]using u)
 have z:∀k∈cL m (AV.namesL (ga P K f args caps++caps)),m' k=m k:=λk u=>by
  rcases pZ u with g|⟨j,L,b,hb,y⟩;rcases up k g with g|g;exact h k (.inr (eH g));exact h k (.inl (eH g));rcases up j L with g|g;exact h k (.inr (tL g hb y));exact h k (.inl (tL g hb y))
 rw[xe (m:=m) (m':=m') (l:=AV.namesL (ga P K f args caps++caps)) λk u=>z k (eH u)];have X:((cL m (AV.namesL (ga P K f args caps++caps))).all λk=>match m' k with|some b=>lX (cL m (AV.namesL (ga P K f args caps++caps))) b|none=>true) =
   ((cL m (AV.namesL (ga P K f args caps++caps))).all λk=>match m k with|some b=>lX (cL m (AV.namesL (ga P K f args caps++caps))) b|none=>true):=by
  have:∀(l:List Nat),(∀k∈l,m' k=m k)->(l.all λk=>match m' k with|some b=>lX (cL m (AV.namesL (ga P K f args caps++caps))) b|none=>true) =
    (l.all λk=>match m k with|some b=>lX (cL m (AV.namesL (ga P K f args caps++caps))) b|none=>true):=by
   intro l;induction l with
   |nil=>intro _;rfl
   |cons x l G=>
    intro A;simp only[qAw];rw[A x (by simp),G (λk u=>A k (by simp[u]))]
  exact this _ z
 rw[X,uZ z];simp only[za z];rfl;rfl;rfl
theorem J0{m m':Nat->Option Blk}{f:AV}(h:∀k,k∈cL m f.names\/k∈cL m (AV.namesL args)->m' k=m k):O2 P K nx m' f args=O2 P K nx m f args:=by
 unfold O2;rw[lk h,lk (f:=jX f) (args:=sX args) (m:=m) (m':=m') (λk j=>by
  rw[fE,dU]at j;rcases j with j|j<;>(rcases pZ j with g|⟨_,g,_⟩<;>cases g))]
theorem ym{m m':Nat->Option Blk}{f:AV}(h:∀k,k∈cL m f.names\/k∈cL m (AV.namesL args)->m' k=m k):mZ P K nx m' f args=mZ P K nx m f args:=by
 have sel:∀{t:Ty}{cs:List AV},(∀k,k∈cL m (AV.namesL cs)\/k∈cL m (AV.namesL args)->m' k=m k)->selC P K nx m' args t cs=selC P K nx m args t cs:=by
  intro t cs;induction cs with
  |nil=>intro _;rfl
  |cons c cs A=>
   intro h;simp only[selC];rw[lk (m:=m) (m':=m') λk u=>h k (u.imp (pY λj y=>by simp[AV.namesL,y]) id),A λk u=>h k (u.imp (pY λj y=>by simp[AV.namesL,y]) id)]
 unfold mZ;split;rename_i i cs;split;rfl;rename_i c r;have z:∀k,k∈cL m (AV.namesL (c::r))\/k∈cL m (AV.namesL args)->m' k=m k:=λk u=>h k (u.imp (pY λj y=>by simpa[AV.names]using y) id);rw[lk (m:=m) (m':=m') λk u=>z k (u.imp (pY λj y=>by simp[AV.namesL,y]) id)];split;split;rw[sel z];rfl;rfl;exact J0 h
def Ze:Op->Bool|.call _=>true|.store _ _ _=>true|.box _ _=>true|_=>false
theorem RD{mt:Bool}{m m':Nat->Option Blk}{o:Op}(h:Ze o=true->∀v∈vs,∀k∈cL m v.1.names,m' k=m k):opE P K mt nx m' o vs=opE P K mt nx m o vs:=by
 have A:∀{l:List RV}{k:Nat},k∈AV.namesL (l.map (·.1))->∃v∈l,k∈v.1.names:=by
  intro l k;induction l with
  |nil=>intro h;simp[AV.namesL]at h
  |cons x l G=>
   intro h;simp only[wR,AV.namesL,qJ]at h;rcases h with h|h;exact⟨x,by simp,h⟩;obtain⟨v,y,u⟩:=G h;exact⟨v,by simp[y],u⟩
 unfold opE;split<;>first|rfl|skip
 rw[C5 (m:=m) (m':=m') λk f=>h rfl _ (by simp) k (eH f)];rw[ub (m:=m) (m':=m') λk f=>h rfl _ (by simp) k (eH f)];split<;>first|rfl|skip
 refine ym λk f=>?_;rcases f with f|f;exact h rfl _ (by simp) k f;rcases pZ f with g|⟨j,L,b,hb,z⟩;obtain⟨v,y,u⟩:=A g;exact h rfl v (by simp[y]) k (eH u);obtain⟨v,y,u⟩:=A L;exact h rfl v (by simp[y]) k (tL u hb z)
end Go.Eng
namespace Go.Eng
section
variable {σ:Type} (step:Nat->σ->σ)
def iZ(done:Nat->Bool):Nat->σ->σ|0,s=>s|k+1,s=>if done k then step k (iZ done k s)else iZ done k s
def Yi:Nat->Bool:=λ_=>true
theorem qs{d d':Nat->Bool}:∀(k:Nat) (s:σ),(∀i,i<k->d i=d' i)->iZ step d k s=iZ step d' k s
 |0,_,_=>rfl|k+1,s,h=>by
  simp only[iZ];rw[qs k s (λi hi=>h i Z),h k Z]
variable {step}
structure Orders(step:Nat->σ->σ)(n:Nat)(anc:Nat->Nat->Bool)(Rok U:Nat->σ->Prop)(s0:σ):Prop where
 comm:∀i j,i<j->j<n->anc i j=false->∀s,step j (step i s)=step i (step j s)
 rk1:∀i j,i<j->j<n->anc i j=false->∀s,Rok j (step i s)↔Rok j s
 rk2:∀i j,i<j->j<n->anc i j=false->∀s,Rok i (step j s)↔Rok i s
 u:∀i j,i<n->j<n->i≠j->(i<j\/anc j i=false)->∀s,U j s->U j (step i s)
 lex:∀j,j<n->Rok j (iZ step Yi j s0)
 u0:∀j,j<n->U j s0
variable {n:Nat}{anc:Nat->Nat->Bool}{Rok U:Nat->σ->Prop}{s0:σ}
theorem KT(H:Orders step n anc Rok U s0){done:Nat->Bool}(hd:∀i j,i<j->j<n->anc i j=true->done j=true->done i=true):∀k,k<=n->
  ∃l:List Nat,(∀i∈l,i<k/\done i=false)/\iZ step Yi k s0=l.foldl (λs i=>step i s) (iZ step done k s0)
 |0,_=>⟨[],by simp,rfl⟩|k+1,hk=>by
  obtain⟨l,h,z⟩:=KT H hd k Z;cases f:done k with
  |false=>
   refine⟨l++[k],λi hi=>?_,?_⟩;rcases qJ.1 hi with g|g;exact⟨by have:=(h i g).1;omega,(h i g).2⟩;simp at g;subst g;exact⟨Nat.lt_succ_self _,f⟩;simp only[iZ,Yi,kJ,f,wZ,kX,qCk,kS,List.foldl_nil];rw[<- z]
  |true=>
   refine⟨l,λi hi=>⟨by have:=(h i hi).1;omega,(h i hi).2⟩,?_⟩;have key:∀(l:List Nat) (s:σ),(∀i∈l,i<k/\done i=false)->step k (l.foldl (λs i=>step i s) s)=l.foldl (λs i=>step i s) (step k s):=by
    intro l;induction l with
    |nil=>intro s _;rfl
    |cons i l A=>
     intro s y;have hi:=y i (by simp);have u:anc i k=false:=by
      cases L:anc i k with
      |false=>rfl|true=>have:=hd i k hi.1 Z L f;rw[hi.2]at this;cases this
     simp only[kS];rw[A (step i s) (λq G=>y q (by simp[G])),H.comm i k hi.1 Z u]
   show iZ step Yi (k+1) s0=l.foldl (λs i=>step i s) (iZ step done (k+1) s0);have e1:iZ step Yi (k+1) s0=step k (iZ step Yi k s0):=rfl;have X:iZ step done (k+1) s0=step k (iZ step done k s0):=by show(if done k then _ else _)=_;rw[if_pos f]
   rw[e1,X,z,key l _ h]
theorem RB(H:Orders step n anc Rok U s0){done:Nat->Bool}(hd:∀i j,i<j->j<n->anc i j=true->done j=true->done i=true){j:Nat}(hj:j<n)(A:done j=false)
  (L:∀i,i<j->anc i j=true->done i=true):
  Rok j (iZ step done n s0)/\U j (iZ step done n s0)/\iZ step (λi=>if i=j then true else done i) n s0=step j (iZ step done n s0):=by
 have f:∀i,j<i->i<n->done i=true->anc j i=false:=λi h1 h2 h3=>by
  cases ha:anc j i with
  |false=>rfl|true=>have:=hd j i h1 h2 ha h3;rw[A]at this;cases this
 refine⟨?_,?_,?_⟩
 ·
  obtain⟨l,h1,h2⟩:=KT H hd j Z;have hl:=H.lex j hj;rw[h2]at hl;have back:∀(l:List Nat) (s:σ),(∀i∈l,i<j/\done i=false)->Rok j (l.foldl (λs i=>step i s) s)->Rok j s:=by
   intro l;induction l with
   |nil=>intro s _ h;exact h
   |cons i l G=>
    intro s hl h;have hi:=hl i (by simp);have hna:anc i j=false:=by
     cases ha:anc i j with
     |false=>rfl|true=>have:=L i hi.1 ha;rw[hi.2]at this;cases this
    have:=G (step i s) (λq hq=>hl q (by simp[hq])) h;exact(H.rk1 i j hi.1 hj hna s).1 this
  have h3:Rok j (iZ step done j s0):=back l _ h1 hl;have fwd:∀k,j<=k->k<=n->Rok j (iZ step done k s0):=by
   intro k hjk;induction k with
   |zero=>
     intro _;have:j=0:=by omega
     subst this;exact h3
   |succ k G=>
    intro hk;rcases zO k j with z|hge;have:j=k+1:=by omega
    subst this;exact h3;have g:=G hge Z;simp only[iZ];split;rename_i y;have X:j≠k:=λe=>by subst e;rw[A]at y;cases y
    exact(H.rk2 j k Z Z (f k Z Z y) _).2 g;exact g
  exact fwd n Z (qN _)
 .have all:∀k,k<=n->U j (iZ step done k s0):=by
   intro k;induction k with
   |zero=>intro _;exact H.u0 j hj
   |succ k G=>
    intro hk;have g:=G Z;simp only[iZ];split;rename_i y;have X:k≠j:=λe=>by subst e;rw[A]at y;cases y
    refine H.u k j Z hj X ?_ _ g;rcases zO k j with h|h;exact .inl h;exact .inr (f k Z Z y);exact g
  exact all n (qN _)
 .have low:∀k,k<=j->iZ step (λi=>if i=j then true else done i) k s0=iZ step done k s0:=λk hk=>
   qs step k s0 (λi hi=>if_neg Z)
  have all:∀k,j+1<=k->k<=n->iZ step (λi=>if i=j then true else done i) k s0=step j (iZ step done k s0):=by
   intro k hjk;induction k with
   |zero=>omega|succ k G=>
    intro hk;rcases zO j k with z|hge;have g:=G z Z;have hkj:(k=j)=False:=by simp;omega
    simp only[iZ,hkj,kX];rw[g];split;rename_i y;exact H.comm j k z Z (f k z Z y) _;rfl;have e:k=j:=by omega
    subst e;simp only[iZ,kJ,A,wZ,kX];rw[low k (qN _)]
  exact all n Z (qN _)
end
end Go.Eng
namespace Go.Eng
open Go
abbrev Any:Machine->Prop:=λ_=>True
def At(P:Program)(ro:Option Nat)(c:Code)(Q:Exit->Act->World->Prop)(a:Act)(w:World):Prop:=
 ∀(b:Frame) (k:List Item) (cs:List Frame),b.roundOf=ro->(P.funcs[b.fn]?).isSome=true->
  ∃e a' w',Q e a' w'/\ArrivesIn Any P (lone (b.atR a (.code c::k)) cs w) b k cs e a' w'
theorem toAny{I:Machine->Prop}{P:Program}{m m':Machine}(h:StepsIn I P m m'):StepsIn Any P m m':=h.mono λ_ _=>trivial
theorem fZ{P:Program}{m m':Machine}(h:step P m=.next m'):StepsIn Any P m m':=.one trivial h
theorem WH{P:Program}{m m':Machine}(h:StepsIn Any P m m'):StepsIn (Machine.fenced P Fence.wide) P m m':=h.mono λ_ _=>fenced_wide P _
theorem Pv{I:Machine->Prop}{P:Program}{m:Machine}{b:Frame}{k:List Item}{cs:List Frame}{e:Exit}{a:Act}{w:World}(h:ArrivesIn I P m b k cs e a w):ArrivesIn Any P m b k cs e a w:=by
 cases e with
 |normal=>exact toAny h|exit id=>exact⟨λk' y=>toAny (h.1 k' y),λu y=>let⟨f,j,z⟩:=h.2 u y;⟨f,j,toAny z⟩⟩|goto l=>exact⟨λk' y=>toAny (h.1 k' y),λu y=>let⟨f,j,z⟩:=h.2 u y;⟨f,j,toAny z⟩⟩|ret=>exact⟨λu=>let⟨t,j⟩:=h.1 u;⟨t,toAny j⟩,λu=>let⟨t,j⟩:=h.2 u;⟨t,toAny j⟩⟩|panic A=>exact let⟨t,j⟩:=h;⟨t,toAny j⟩|outgrown=>exact h
section
variable {P:Program}{ro:Option Nat}{Q:Exit->Act->World->Prop}{a:Act}{w:World}
theorem Uo{F:Fence}{n:Nat}{c:Code}(j:F.round=ro)(u:∀f,F.fn f)(hd:F.depth=none)(h:c.wpIn F n P Q a w):At P ro c Q a w:=λb k cs hb _=>
 let⟨e,y,w',q,r⟩:=h b k cs (hb.trans j.symm) (u _) (λd g=>by rw[hd]at g;cases g)
 ⟨e,y,w',q,Pv r⟩
theorem Jc{m:Machine}{b:Frame}{x:Item}{k:List Item}{cs:List Frame}{e:Exit}{a:Act}{w:World}(f:x.plain=true)(j:e≠.normal)(h:ArrivesIn Any P m b (x::k) cs e a w):ArrivesIn Any P m b k cs e a w:=
 .pass f (λ_ _=>.inl j) h
theorem xm{x y:Code}(h:At P ro x (Exit.then (At P ro y Q) Q) a w):At P ro (.seq x y) Q a w:=λb k cs hb u=>by
 obtain⟨e,a1,A,j,r⟩:=h b (.code y::k) cs hb u;have s0:StepsIn Any P (lone (b.atR a (.code (.seq x y)::k)) cs w) (lone (b.atR a (.code x::.code y::k)) cs w):=fZ stepR_seq;by_cases f:e=.normal;subst f;obtain⟨L,X,z,G,r2⟩:=j b k cs hb u;exact⟨L,X,z,G,.of_steps (s0.trans r) r2⟩;refine⟨e,a1,A,?_,.of_steps s0 (Jc rfl f r)⟩;cases e<;>first|exact(f rfl).elim|exact j
theorem Us{c:Operand}{x y:Code}{t:Bool}(hc:a.eval c=.bool t)(A:t=true->At P ro x Q a w)(z:t=false->At P ro y Q a w):At P ro (.cond c x y) Q a w:=λb k cs hb u=>by
 have h:At P ro (if t then x else y) Q a w:=by cases t with|true=>exact A rfl|false=>exact z rfl
 obtain⟨e,G,f,j,r⟩:=h b k cs hb u;exact⟨e,G,f,j,.of_steps (fZ (stepR_cond hc)) r⟩
theorem tW{id:Nat}{c:Code}(h:At P ro c (Exit.inBlock id Q) a w):At P ro (.block id c) Q a w:=λb k cs hb hf=>by
 obtain⟨e,y,u,f,r⟩:=h b (.inBlock id::k) cs hb hf;have s0:StepsIn Any P (lone (b.atR a (.code (.block id c)::k)) cs w) (lone (b.atR a (.code c::.inBlock id::k)) cs w):=fZ stepR_block;cases e with
 |normal=>exact⟨.normal,y,u,f,s0.trans (StepsIn.trans r (fZ stepR_inBlock))⟩|exit j=>
  by_cases G:j=id;replace f:Q .normal y u:=by simpa only[Exit.inBlock,G,kJ]using f
  exact⟨.normal,y,u,f,s0.trans (r.1 k (by simp[exitTo,G]))⟩;replace f:Q (.exit j) y u:=by simpa only[Exit.inBlock,G,kX]using f
  have A:exitTo j (.inBlock id::k)=exitTo j k:=by simp[exitTo,Ne.symm G]
  exact⟨.exit j,y,u,f,λk' z=>s0.trans (r.1 k' (A.trans z)),λg z=>let⟨L,X,g2⟩:=r.2 g (A.trans z);⟨L,X,s0.trans g2⟩⟩
 |goto l=>
  have A:gotoIn l (.inBlock id::k)=gotoIn l k:=by simp[gotoIn]
  exact⟨.goto l,y,u,f,λk' z=>s0.trans (r.1 k' (A.trans z)),λg z=>let⟨L,X,g2⟩:=r.2 g (A.trans z);⟨L,X,s0.trans g2⟩⟩
 |ret=>exact⟨_,y,u,f,.of_steps s0 r⟩|panic ch=>exact⟨_,y,u,f,.of_steps s0 r⟩|outgrown=>exact⟨_,y,u,f,.of_steps s0 r⟩
theorem Nw{c:Code}(h:At P ro c (λe a w=>match e with|.goto _=>False|e=>Q e a w) a w):At P ro (.scope c) Q a w:=λb k cs hb L=>by
 obtain⟨e,y,u,f,r⟩:=h b (.inScope c::k) cs hb L;have s0:StepsIn Any P (lone (b.atR a (.code (.scope c)::k)) cs w) (lone (b.atR a (.code c::.inScope c::k)) cs w):=fZ (step_lone_go (by simp[stepG,stepG.exec,Frame.atR]));cases e with
 |normal=>exact⟨.normal,y,u,f,s0.trans (StepsIn.trans r (fZ (step_lone_go (by simp[stepG,stepG.exec,Frame.atR]))))⟩|exit j=>
  have A:exitTo j (.inScope c::k)=exitTo j k:=by simp[exitTo]
  exact⟨.exit j,y,u,f,λk' z=>s0.trans (r.1 k' (A.trans z)),λg z=>let⟨G,X,g2⟩:=r.2 g (A.trans z);⟨G,X,s0.trans g2⟩⟩
 |goto l=>exact f.elim|ret=>exact⟨_,y,u,f,.of_steps s0 r⟩|panic ch=>exact⟨_,y,u,f,.of_steps s0 r⟩|outgrown=>exact⟨_,y,u,f,.of_steps s0 r⟩
theorem at_loop{c:Code}(I:Nat->Act->World->Prop)(n0:Nat)(h0:I n0 a w)(round:∀n a w,I n a w->At P ro c (Exit.then (λj w'=>∃u,u<n/\I u j w') Q) a w):At P ro (.loop c) Q a w:=λb k cs hb G=>by
 have main:∀(n:Nat),∀m,m<=n->∀a w,I m a w->∃e j w',Q e j w'/\ArrivesIn Any P (lone (b.atR a (.code c::.inLoop c::k)) cs w) b k cs e j w':=by
  intro n;induction n with
  |zero=>
   intro m hm a w A;obtain⟨e,z,y,f,r⟩:=round m a w A b (.inLoop c::k) cs hb G;by_cases h:e=.normal;subst h;obtain⟨u,L,_⟩:=f;exact absurd L Z;refine⟨e,z,y,?_,Jc rfl h r⟩;cases e<;>first|exact(h rfl).elim|exact f
  |succ n ih=>
   intro m hm a w A;obtain⟨e,z,y,f,r⟩:=round m a w A b (.inLoop c::k) cs hb G;by_cases h:e=.normal;subst h;obtain⟨u,L,h2⟩:=f;obtain⟨e2,a2,X,q2,r2⟩:=ih u Z z y h2;exact⟨e2,a2,X,q2,.of_steps (StepsIn.trans r (fZ stepR_inLoop)) r2⟩;refine⟨e,z,y,?_,Jc rfl h r⟩;cases e<;>first|exact(h rfl).elim|exact f
 obtain⟨e,j,w',f,r⟩:=main n0 n0 (qN _) a w h0;exact⟨e,j,w',f,.of_steps (fZ stepR_loop) r⟩
end
def YJ(P:Program)(l:Nat)(R:Ending->World->Prop):Exit->Act->World->Prop|.panic ch,a,w=>a.defers=[]/\R (.panicked ch) w|e,a,w=>roundPost P l R e a w
theorem KW{P:Program}{l:Nat}{f:FuncId}{tmps:Array Value}{assign body:Code}{w:World}{R:Ending->World->Prop}(hf:(P.funcs[f]?).isSome=true)
  (h:At P (some l) assign (Exit.then (λa1 w1=>∃w2,(Instr.beginRound l).run P w1=.ok () w2/\At P (some l) body (YJ P l R) a1 w2) (λ_ _ _=>False)) {tmps:=tmps,defers:=[]} w):
  RoundIn Fence.wide 0 P l f tmps assign body w R:=by
 refine⟨trivial,λc cs _=>?_⟩;obtain⟨b,hb⟩:∃b:Frame,b={ (default:Frame)with fn:=f,kind:=.normal,roundOf:=some l}:=⟨_,rfl⟩;have u:b.roundOf=some l:=by rw[hb]
 have G:b.fn=f:=by rw[hb]
 have e0:Frame.round l f tmps assign body .normal=b.atR {tmps:=tmps,defers:=[]} [.code assign,.beginRound,.code body]:=by rw[hb];simp[Frame.round,Frame.atR]
 obtain⟨e,a1,w1,hq,r⟩:=h b [.beginRound,.code body] (c::cs) u (by rw[G];exact hf);rw[<- e0]at r;cases e<;>first|exact hq.elim|skip
 obtain⟨w2,hbr,L⟩:=hq;have s1:StepsIn Any P (lone (Frame.round l f tmps assign body .normal) (c::cs) w) (lone (b.atR a1 [.code body]) (c::cs) w2):=StepsIn.trans r (fZ (stepR_beginRound u hbr));obtain⟨e2,a2,w3,X,r2⟩:=L b [] (c::cs) u (by rw[G];exact hf);have done:∀{v:Value}{z:World}{m:Machine},StepsIn Any P (lone (b.atR a1 [.code body]) (c::cs) w2) m->step P m=.next (lone (c.finish v) cs z)->R (.returned v) z->
   ∃e w',R e w'/\ComesIn (Machine.fenced P Fence.wide) P (lone (Frame.round l f tmps assign body .normal) (c::cs) w) (match e with|.returned v=>lone (c.finish v) cs w'|.panicked chain=>lone (c.raise chain) cs w'|.outgrown=>lone c cs w') e:=
  λ{v z _} g1 g2 g3=>⟨.returned v,z,g3,WH (s1.trans (g1.trans (fZ g2)))⟩
 cases e2 with
 |normal=>
  obtain⟨v,z,j,y⟩:=X;exact done r2 (stepR_round_end u (by rw[hb]) j) y
 |ret=>
  obtain⟨v,z,j,y⟩:=X;obtain⟨k1,A⟩:=r2.2 (by rw[u];rfl);exact done A (stepR_round_ret u (by rw[hb]) j) y
 |exit id=>
  obtain⟨v,z,j,y⟩:=X;obtain⟨k1,hk,A⟩:=r2.2 (by rw[u];rfl) rfl;exact done A (stepR_round_exit u (by rw[hb]) hk j) y
 |goto t=>
  obtain⟨v,z,j,y⟩:=X;obtain⟨k1,hk,A⟩:=r2.2 (by rw[u];rfl) rfl;exact done A (stepR_round_goto u (by rw[hb]) hk j) y
 |panic ch=>
  obtain⟨hd,y⟩:=X;obtain⟨todo,A⟩:=r2;refine⟨.panicked ch,w3,y,WH (s1.trans (A.trans (fZ (step_leave_panicked ⟨rfl,hd,?_⟩))))⟩;have:(P.funcs[b.fn]?).isSome=true:=by rw[G];exact hf
  exact qAd.1 this
 |outgrown=>exact X.elim
theorem at_range{P:Program}{ro:Option Nat}{g:Operand}{ps:Array Tmp}{assign body:Code}{Q:Exit->Act->World->Prop}{a:Act}{w:World}
  (h:∀fn,(P.funcs[fn]?).isSome=true->∃(l:Nat) (mark:List Deferred) (w1:World) (d:Deferred) (j:World) (f:FuncId) (args:Array Value) (w2:World),
   (Instr.enterLoop fn a.tmps ps assign body ro).run P w=.ok (l,mark) w1/\(resolve a.eval (rangeCall g l) 0).run P w1=.ok d j/\(invoke d.target d.args).run P j=.ok (.enter f args) w2/\
   CallsIn Fence.wide 0 P f args w2 λe y=>match e with
    |.returned _=>∃jump z,(Instr.endLoop l).run P y=.ok jump z/\(match jump with|none=>Q .normal {a with defers:=mark++a.defers} z|some c=>At P ro c Q {a with defers:=mark++a.defers} z)
    |.panicked ch=>Q (.panic ch) {a with defers:=mark++a.defers} y
    |.outgrown=>False):At P ro (.rangeFunc g ps assign body) Q a w:=λb k cs hb hf=>by
 obtain⟨l,mark,w1,d,j,f,args,w2,he,G,X,_,u⟩:=h b.fn hf;rw[<- hb]at he;have s0:=fZ (stepR_rangeFunc (P:=P) (b:=b) (a:=a) (k:=k) (cs:=cs) (w:=w) he G X);obtain⟨e,y,fr,hR,A,_,L⟩:=u (b.atR {a with defers:=mark++a.defers} (.inRangeFunc l::k)::cs) (room_wide _);cases e with
 |outgrown=>exact hR.elim|returned v=>
  obtain⟨jump,z,hend,hj⟩:=hR;have s1:StepsIn Any P (lone fr (b.atR {a with defers:=mark++a.defers} (.inRangeFunc l::k)::cs) y) (lone (b.atR {a with defers:=mark++a.defers} (.endRangeFunc l::k)) cs y):=by
   rw[<- finish_atR_inRangeFunc l v];exact fZ (step_leave_returned L)
  have s2:=(s0.trans (toAny A)).trans (s1.trans (fZ (stepR_endRangeFunc hend)));cases jump with
  |none=>exact⟨.normal,_,z,hj,s2⟩|some c=>
   obtain⟨e',a'',w5,hq,r⟩:=hj b k cs hb hf;exact⟨e',a'',w5,hq,.of_steps s2 r⟩
 |panicked ch=>
  refine⟨.panic ch,_,y,hR,.inRangeFunc l::k,(s0.trans (toAny A)).trans (fZ ?_)⟩;rw[<- Frame.raise_atR];exact step_leave_panicked L
theorem CZ{P:Program}{f:FuncId}{fn:Func}{c:Code}{args:Array Value}{w:World}{R:Ending->World->Prop}(hf:P.funcs[f]?=some fn)(hb:fn.body=some c)
  (h:At P none c (bodyPostM Fence.wide 0 P fn R) {tmps:=args++Array.replicate (fn.ntmps-args.size) undef,defers:=[]} w):CallsIn Fence.wide 0 P f args w R:=by
 refine⟨trivial,λcs hr=>?_⟩;obtain⟨b,L⟩:∃b:Frame,b={ (default:Frame)with fn:=f,kind:=.normal,roundOf:=none}:=⟨_,rfl⟩;have u:b.fn=f:=by rw[L]
 have hk:b.kind=.normal:=by rw[L]
 have y:b.roundOf=none:=by rw[L]
 have e0:Frame.enter P f args .normal=b.atR {tmps:=args++Array.replicate (fn.ntmps-args.size) undef,defers:=[]} [.code c]:=by rw[L];simp[Frame.enter,Frame.atR,hf,hb]
 obtain⟨e,A,w',z,r⟩:=h b [] cs y (by rw[u,hf];rfl);rw[<- e0]at r;have out:∀(m:FrameMode) (j:List Item),m≠.run->LeavesInM Fence.wide 0 P fn A.tmps R A.defers m w'->StepsIn Any P (lone (Frame.enter P f args .normal) cs w) (lone {b.atR A j with mode:=m} cs w')->
   ∃e w' fr,R e w'/\ComesIn (Machine.fenced P Fence.wide) P (lone (Frame.enter P f args .normal) cs w) (lone fr cs w') e/\fr.fn=f/\fr.leaving P w' e:=λm j _ hl G=>by
  obtain⟨e',X,fr',hR',g1,g2,g3⟩:=leaves_stepsInM (F:=Fence.wide) (n:=0) A.defers m w' {b.atR A j with mode:=m} cs rfl rfl rfl (by rw[show({b.atR A j with mode:=m}:Frame).fn=f from u];exact hf) hk trivial hr hl;exact⟨e',X,fr',hR',ComesIn.of_steps (WH G) g1,g2.trans u,g3⟩
 cases e with
 |normal=>exact out .returning [] (by simp) z (StepsIn.trans r (fZ (stepR_end y)))|ret=>
  obtain⟨j,G⟩:=r.1 y;exact out .returning j (by simp) z G
 |panic ch=>
  obtain⟨j,G⟩:=r;exact out (.panicking ch) j (by simp) z G
 |exit id=>exact z.elim|goto l=>exact z.elim|outgrown=>exact⟨.outgrown,w',b,z,r.resolve_left (by rw[hk];simp),u,trivial⟩
end Go.Eng
namespace Go.Eng
open Go.RowKit
structure Rec where
 dst:Option Tmp
 val:AV
 upd:List (Nat×Blk)
 new:Option Nat
 reads:List Tmp
 fp:List Nat
 need:List Ob
def dY(r:Rec)(s:Sig):Sig:=⟨upT s.T r.dst r.val,upM s.m r.upd,s.sv⟩
def IU:AV->AV|.pin _ a=>a|a=>a
variable {C:Ctx}{P:Program}
theorem P7{a:AV}{v:Value}(h:a.rel P C v):(IU a).rel P C v:=by
 unfold IU;split;exact h.2;exact h
theorem IT(a:AV):(IU a).names=a.names:=by
 unfold IU;split<;>simp[AV.names]
def evT(G:List (Nat×AV))(T:Nat->AV):Operand->AV
 |.tmp t=>IU (T t)|.const v=>FV v|.global g=>match G.lookup g with
  |some a=>a|none=>.val (.pointer (some ⟨g,0,none⟩))
 |.func f=>.fn f []
variable {k:Nat}
theorem vf{β:Type}{l:List (Nat×β)}{b:β}(h:l.lookup k=some b):(k,b)∈l:=by
 induction l with
 |nil=>simp at h|cons p l f=>
  obtain⟨p1,p2⟩:=p;simp only[List.lookup]at h;split at h;rename_i e;cases h;have:k=p1:=by simpa using e
  subst this;simp;exact wU _ (f h)
variable {S:Base}{D:Nat->Prop}{a:Act}{w:World}{E:Nat->Ent}{σ:Sig}
theorem dV(h:aL S σ a w D E)(x:Operand):(evT S.G σ.T x).rel S.P ⟨w,D,σ.m,E⟩ (a.eval x):=by
 cases x with
 |tmp t=>exact P7 (h.tm t)|const v=>exact FT v|global g=>
  simp only[evT];split;rename_i av j;exact(h.gl _ (vf j)).2.1;exact rfl
 |func f=>exact⟨[],rfl,rfl⟩
variable {G:List (Nat×AV)}
theorem TE(u:∀p∈G,p.2.names=[]){T:Nat->AV}(h:∀t,k∉(T t).names)(x:Operand):k∉(evT G T x).names:=by
 cases x with
 |tmp t=>simp only[evT,IT];exact h t|const v=>cases v<;>simp[evT,FV,AV.names]
 |global g=>
  simp only[evT];split;rename_i av j;rw[u _ (vf j)];simp;simp[AV.names]
 |func f=>simp[evT,AV.names,AV.namesL]
def eqW(b:Bool):Bool->Bool|true=>b|false=>!b
def PI(T:Nat->AV)(ops:Array Oper):Option (Nat×Bool)->Option Bool
 |none=>some true|some (k,want)=>match(ops[k]?).bind (·.dst)with
  |some d=>match T d with
   |.dat .bool b=>some (eqW b want)|.grd g (.dat .bool b)=>some (g&&eqW b want)|_=>none
  |none=>none
variable {g:Bool}{ops:Array Oper}{o:Oper}
theorem CP(h:aL S σ a w D E)(f:PI σ.T ops o.guard=some g):
  Region.wanted o (yielded ops a.tmps)=g:=by
 unfold PI at f;unfold Region.wanted;split at f;rename_i y;cases f;rw[y];rename_i k j y;rw[y];simp only;split at f;rename_i d hd;have G:yielded ops a.tmps k=match a.tmps[d]? with|some (.bool b)=>some b|_=>none:=by
  unfold yielded;rw[hd];rfl
 rw[G];have hrel:=h.tm d;split at f;rename_i b A;cases f;rw[A]at hrel;simp only[AV.rel,af,vF,wB]at hrel;have:a.tmps[d]?=some (.bool b):=by
  rw[vG]at hrel;cases u:a.tmps[d]? with
  |none=>rw[u]at hrel;cases hrel
  |some v=>rw[u]at hrel;simp at hrel;rw[hrel]
 rw[this];simp only[];cases b<;>cases j<;>rfl;rename_i g' b A;cases f;rw[A]at hrel;obtain⟨X,L⟩:=hrel;cases g' with
 |true=>
  have hrel:=X rfl;simp only[AV.rel,af,vF,wB]at hrel;have:a.tmps[d]?=some (.bool b):=by
   rw[vG]at hrel;cases u:a.tmps[d]? with
   |none=>rw[u]at hrel;cases hrel
   |some v=>rw[u]at hrel;simp at hrel;rw[hrel]
  rw[this];simp only[];cases b<;>cases j<;>rfl
 |false=>
  have z:=L rfl;rw[vG]at z;cases u:a.tmps[d]? with
  |none=>rfl|some v=>
   rw[u]at z;simp at z;subst z;rfl
 cases f;cases f
def ug(g:Bool):AV->AV×List Ob|.grd g' v=>(v,[g=true->g'=true])|v=>(v,[])
theorem ny{a:AV}{v:Value}(j:g=true)(f:∀q∈(ug g a).2,q)(h:a.rel P C v):(ug g a).1.rel P C v:=by
 cases a<;>first
  |exact h
  |exact h.1 ((f _ (qW.2 rfl)) j)
theorem Vf(g:Bool)(a:AV):(ug g a).1.names=a.names:=by
 unfold ug;split;simp[AV.names];rfl
def aCK(x:Bool):AV->AV->Option AV|.dat t u,.dat t' v=>if h:t'=t then some (.dat t (bif x then u else h▸v))else none|_,_=>none
def aAg(g:Bool)(c a b:AV):Option Core:=
 match ug g c with
 |(.dat .bool x,nc)=>
  match aCK x (ug (g&&x) a).1 (ug (g&&!x) b).1 with
  |some v=>some {need:=nc++(ug (g&&x) a).2++(ug (g&&!x) b).2,val:=v}|none=>none
 |_=>none
theorem Wm{c a b:AV}{core:Core}{u y j:Value}(G:g=true)(hc:aAg g c a b=some core)(A:∀q∈core.need,q)
  (h0:c.rel P C u) (h1:a.rel P C y) (h2:b.rel P C j):
  core.upd=[]/\core.new=none/\∃r,(do pure (Next.value (if <- asBool u then y else j)):Sem Next).run P w=.ok (.value r) w/\core.val.rel P C r:=by
 unfold aAg at hc;split at hc;rename_i x nc L;split at hc;rename_i vv h;cases hc;have z:=ny G (λq f=>A q (by rw[L]at f;simp[f])) h0;rw[L]at z;simp only[AV.rel,af,vF,wB]at z;subst z;refine⟨rfl,rfl,if x=true then y else j,by simp[asBool],?_⟩;unfold aCK at h;split at h;rename_i t p t' q hp f;split at h;rename_i X;subst X;cases h;cases x with
 |true=>
  have:=ny (g:=g&&true) (by rw[G];rfl) (λq f=>A q (qJ.2 (.inl (qJ.2 (.inr f))))) h1;rw[hp]at this;simpa using this
 |false=>
  have:=ny (g:=g&&!false) (by rw[G];rfl) (λq f=>A q (qJ.2 (.inr f))) h2;rw[f]at this;simpa using this
 cases h;cases h;cases hc;cases hc
def Qa:Operand->List Tmp|.tmp t=>[t]|_=>[]
def Y6:Op->Bool|.pick _ _ _=>true|_=>false
def OU(P:Program)(K:Kt)(mt:Bool)(nx:Nat)(m:Nat->Option Blk)(g:Bool)(op:Op)(raw:List AV):Option Core:=
 match Y6 op,raw with
 |true,[c,a,b]=>aAg g c a b|true,_=>none|false,raw=>match opE P K mt nx m op (raw.map λv=>((ug g v).1,cV m (ug g v).1))with
  |some c=>some {c with need:=(raw.flatMap λv=>(ug g v).2)++c.need}
  |none=>none
def aDW:AV->List Nat|.buf nm _=>[nm]|.view nm _=>[nm]|.ptr nm _ _ _=>[nm]|.row nm _ _ _=>[nm]|.rptr nm _ _ _ _=>[nm]|_=>[]
def UR(m:Nat->Option Blk)(o:Op)(v:AV):List Nat:=if Ze o=true then cL m v.names else aDW v
theorem NI{v:AV}(h:k∈aDW v):k∈v.names:=by
 cases v<;>first|exact h|cases h
theorem ZJ{m:Nat->Option Blk}{o:Op}{v:AV}(h:k∈aDW v):k∈UR m o v:=by
 unfold UR;split;exact eH (NI h);exact h
def tI(ops:Array Oper):Option (Nat×Bool)->List Tmp
 |none=>[]|some (k,_)=>match(ops[k]?).bind (·.dst)with
  |some d=>[d]|none=>[]
def Jo(o:Oper)(g:Bool)(reads:List Tmp)(fp:List Nat)(c:Core):Option Rec:=
 match o.guard with
 |none=>some {dst:=o.dst,val:=c.val,upd:=c.upd,new:=c.new,reads:=reads,fp:=fp,need:=c.need}|some _=>match c.upd,c.new with
  |[],none=>some {dst:=o.dst,val:=.grd g c.val,upd:=[],new:=none,reads:=reads,fp:=fp,need:=c.need.map (Ob.under (g=true))}|_,_=>none
def iM(P:Program)(G:List (Nat×AV))(K:Kt)(mt:Bool)(ops:Array Oper)(nx:Nat)(s:Sig)(o:Oper):Option Rec:=
 match PI s.T ops o.guard with
 |some g=>match OU P K mt nx s.m g o.op (o.op.operands.toList.map (evT G s.T))with
  |some c=>Jo o g (o.op.operands.toList.flatMap Qa++tI ops o.guard) (o.op.operands.toList.flatMap λx=>UR s.m o.op (ug g (evT G s.T x)).1) c|none=>none
 |none=>none
theorem uf{K:Kt}{mt:Bool}{nx:Nat}{s s':Sig}{r:Rec}(h:iM P G K mt ops nx s o=some r)
  (h1:∀t∈r.reads,s'.T t=s.T t) (h2:∀nm∈r.fp,s'.m nm=s.m nm):iM P G K mt ops nx s' o=some r:=by
 have hr:∃g,PI s.T ops o.guard=some g/\r.reads=o.op.operands.toList.flatMap Qa++tI ops o.guard/\r.fp=o.op.operands.toList.flatMap λx=>UR s.m o.op (ug g (evT G s.T x)).1:=by
  unfold iM at h;split at h;rename_i g hg;split at h;rename_i c hc;refine⟨g,hg,?_⟩;unfold Jo at h;split at h;cases h;exact⟨rfl,rfl⟩;split at h;cases h;exact⟨rfl,rfl⟩;cases h;cases h;cases h
 obtain⟨g,hg,A,hfp⟩:=hr;have e1:∀x∈o.op.operands.toList,evT G s'.T x=evT G s.T x:=by
  intro x f;cases x with
  |tmp t=>exact zX IU (h1 t (by rw[A];exact qJ.2 (.inl (yU.2 ⟨_,f,by simp[Qa]⟩))))|_=>rfl
 have e2:PI s'.T ops o.guard=PI s.T ops o.guard:=by
  unfold PI;cases X:o.guard with
  |none=>rfl|some p=>
   obtain⟨k,want⟩:=p;simp only;cases hd:(ops[k]?).bind (·.dst)with
   |none=>rfl|some d=>
    simp only;rw[h1 d (by rw[A];exact qJ.2 (.inr (by simp[tI,X,hd])))]
 have e3:o.op.operands.toList.map (evT G s'.T)=o.op.operands.toList.map (evT G s.T):=zS e1;have u:∀x∈o.op.operands.toList,∀nm∈UR s.m o.op (ug g (evT G s.T x)).1,s'.m nm=s.m nm:=λx f nm j=>
  h2 nm (by rw[hfp];exact yU.2 ⟨x,f,j⟩)
 have e4:∀x∈o.op.operands.toList,∀v,v=(ug g (evT G s.T x)).1->cV s'.m v=cV s.m v:=by
  intro x f v z;have:∀nm∈aDW v,s'.m nm=s.m nm:=λnm j=>u x f nm (by rw[<- z];exact ZJ j);cases v<;>first|rfl|exact this _ (qW.2 rfl)
 have e5:OU P K mt nx s'.m g o.op (o.op.operands.toList.map (evT G s.T))=OU P K mt nx s.m g o.op (o.op.operands.toList.map (evT G s.T)):=by
  unfold OU;split;rfl;rfl;have:((o.op.operands.toList.map (evT G s.T)).map λv=>((ug g v).1,cV s'.m (ug g v).1))=((o.op.operands.toList.map (evT G s.T)).map λv=>((ug g v).1,cV s.m (ug g v).1)):=by
   apply zS;intro v z;obtain⟨x,f,rfl⟩:=vU.1 z;rw[e4 x f _ rfl]
  rw[this,RD (m:=s.m) (m':=s'.m)];intro hd v z k L;obtain⟨y,hy,rfl⟩:=vU.1 z;obtain⟨x,f,rfl⟩:=vU.1 hy;exact u x f k (by unfold UR;rw[if_pos hd];exact L)
 have e6:(o.op.operands.toList.flatMap λx=>UR s'.m o.op (ug g (evT G s'.T x)).1)=o.op.operands.toList.flatMap λx=>UR s.m o.op (ug g (evT G s.T x)).1:=by
  simp only[List.flatMap_def];congr 1;apply zS;intro x f;rw[e1 x f];unfold UR;split;rename_i hd;exact xe λk L=>u x f k (by unfold UR;rw[if_pos hd];exact eH L);rfl
 unfold iM at h ⊢;rw[e2,e3];rw[hg]at h ⊢;simp only at h ⊢;rw[e5,e6];exact h
def Base.F(S:Base):Fence:=match S.rd with|none=>Fence.wide|some l=>Fence.wide.inRound l
theorem Base.F_fn(S:Base)(f:FuncId):S.F.fn f:=by unfold Base.F;split<;>trivial
theorem Base.F_depth(S:Base):S.F.depth=none:=by unfold Base.F;split<;>rfl
theorem Base.F_round(S:Base):S.F.round=S.rd:=by unfold Base.F;split<;>(rename_i h;rw[h];rfl)
theorem Base.callsIn{S:Base}{n:Nat}{P:Program}{f:FuncId}{args:Array Value}{w:World}{R:Ending->World->Prop}(h:Calls P f args w R):CallsIn S.F n P f args w R:=by
 unfold Base.F;split;exact callsIn_wide.2 h;exact CallsIn.inRound _ (callsIn_wide.2 h)
theorem oQ{K:Kt}(hK:ay S.P S.G K){mt:Bool}{nx i:Nat}{r:Rec}{Q:Exit->Act->World->Prop}(ho:ops[i]?=some o)
  (hs:Sim S σ a w) (hd:∀d,o.dst=some d->d<S.N) (hr:iM S.P S.G K mt ops nx σ o=some r) (hn:∀q∈r.need,q) (hu:∀k,r.new=some k->Unm k σ):
  wpOpIn S.F 0 S.P ops Q i (λa' w'=>Sim S (dY r σ) a' w') a w:=by
 obtain⟨D,E,h⟩:=hs;unfold iM at hr;split at hr;case h_2=>cases hr
 rename_i g hg;split at hr;case h_2=>cases hr
 rename_i c hc;unfold wpOpIn;rw[ho];simp only;have hw:=CP (o:=o) h hg;have run:g=true->∀(hn':∀q∈c.need,q) (hu':∀k,c.new=some k->Unm k σ),Yields S ⟨σ.T,upM σ.m c.upd,σ.sv⟩ a c.val ((execOp a.eval o).run S.P w):=by
  intro hg1 hn' hu';unfold OU at hc;split at hc
  .rename_i c0 a0 b0 hp hraw;obtain⟨dst,op,ty,pos,after,guard⟩:=o;cases op<;>first|(cases hp;done)|skip
   rename_i oc oa ob;simp only[Op.operands,wR,qBv,vF,wB]at hraw;obtain⟨rfl,rfl,rfl⟩:=hraw;obtain⟨h1,h2,rr,h3,h4⟩:=Wm (w:=w) hg1 hc hn' (dV h oc) (dV h oa) (dV h ob);rw[h1];exact .inl ⟨rr,w,h3,D,E,h,h4⟩
  cases hc;split at hc;rename_i c' hop;cases hc;have hrel:AV.relL S.P ⟨w,D,σ.m,E⟩ (((o.op.operands.toList.map (evT S.G σ.T)).map λv=>((ug g v).1,cV σ.m (ug g v).1)).map (·.1)) (o.op.operands.toList.map a.eval):=by
   refine AV.relL_mk (by simp) λj av u h1 h2=>?_;simp only[qBb,qQ,kZ]at h1 h2;obtain⟨x,hx,rfl⟩:=h1;obtain⟨x',hx',rfl⟩:=h2;rw[hx]at hx';cases hx';refine ny hg1 (λq hq=>hn' q ?_) (dV h x);simp only[qJ,yU];exact .inl ⟨evT S.G σ.T x,vU.2 ⟨x,qY hx,rfl⟩,hq⟩
  refine aCL (c:=c') hK h hrel (λv hv=>?_) hop (λq hq=>hn' q (qJ.2 (.inr hq))) (λk hk=>⟨hu' k hk,λv hv=>?_⟩);obtain⟨x,_,rfl⟩:=vU.1 hv;rfl;obtain⟨x,hx,rfl⟩:=vU.1 hv;obtain⟨y,_,rfl⟩:=vU.1 hx;simp only;rw[Vf];exact TE (λp hp=>(h.gl p hp).1) (hu' k hk).2.1 y;cases hc
 have fin:∀x v (w':World),r.upd=c.upd->Outcome S ⟨σ.T,upM σ.m c.upd,σ.sv⟩ a x v w'->(∀C:Ctx,x.rel S.P C v->r.val.rel S.P C v)->r.dst=o.dst->Sim S (dY r σ) (a.put o.dst v) w':=by
  intro x v w' z hout X A;obtain⟨D',E',q1,q2⟩:=hout;have:=q1.put (d:=o.dst) (v:=v) (x:=r.val) (λt ht=>hd t ht) (X _ q2);refine⟨D',E',?_⟩;unfold dY;rw[A,z];exact this
 have nodef:∀d,o.op≠.defer d:=λd e=>by
  have hp:Y6 o.op=false:=by rw[e];rfl
  unfold OU at hc;split at hc;rename_i he _;rw[hp]at he;cases he;cases hc;rw[e]at hc;simp only[opE]at hc;cases hc
 have about:∀f,o.about S.P w a.eval=some f->S.F.fn f:=λf _=>S.F_fn f;have upon:∀x,r.upd=c.upd->r.dst=o.dst->(∀(C:Ctx) v,x.rel S.P C v->r.val.rel S.P C v)->Yields S ⟨σ.T,upM σ.m c.upd,σ.sv⟩ a x ((execOp a.eval o).run S.P w)->
   o.wpIn S.F 0 S.P a w (λa' w'=>Sim S (dY r σ) a' w') Q:=by
  intro x z A X hy;unfold Oper.wpIn;refine⟨about,?_⟩;rw[Oper.semAt_eq _ _ _ nodef];rcases hy with⟨v,w',e,ho⟩|⟨w',e,ho⟩|⟨f,args,w',e,ho⟩;rw[e];exact fin x v w' z ho (λC=>X C v) A;rw[e];exact fin x undef w' z ho (λC=>X C undef) A;rw[e,Oper.uponIn_enter];refine⟨λh=>(by rw[S.F_depth]at h;cases h),Base.callsIn (ho.mono λe2 w2 he=>?_)⟩;obtain⟨v,rfl,ho2⟩:=he;exact fin x v w2 z ho2 (λC=>X C v) A
 rw[hw];unfold Jo at hr;split at hr;rename_i hgd;cases hr;have hg1:g=true:=by rw[hgd]at hg;simp only[PI,vV]at hg;exact hg.symm
 rw[if_pos hg1];exact upon c.val rfl rfl (λC v hv=>hv) (run hg1 hn hu);rename_i gp hgd;split at hr;rename_i z hnew;cases hr;by_cases L:g=true;rw[if_pos L];refine upon c.val z.symm rfl (λC v hv=>⟨λ_=>hv,λhf=>by rw[L]at hf;cases hf⟩) (run L (λq hq=>?_) (λk hk=>by rw[hnew]at hk;cases hk));exact hn (Ob.under (g=true) q) (vU.2 ⟨q,hq,rfl⟩) L;rw[if_neg L];exact⟨about,D,E,h.put (d:=o.dst) (v:=undef) (x:=.grd g c.val) hd ⟨λhf=>(L hf).elim,λ_=>rfl⟩⟩;cases hr
end Go.Eng
namespace Go.Eng
open Go.RowKit
structure St where
 tm:List AV
 mem:List (Nat×Blk)
 nx:Nat
 sv:List AV:=[]
def St.sig(s:St):Sig:=⟨λt=>s.tm.getD t .top,λnm=>s.mem.lookup nm,s.sv⟩
def uX:List (Nat×Blk)->Nat->Blk->List (Nat×Blk)|[],k,b=>[(k,b)]|q::r,k,b=>if q.1=k then(k,b)::r else q::uX r k b
theorem pz(k:Nat)(b:Blk):∀(l:List (Nat×Blk)) (i:Nat),(uX l k b).lookup i=if i=k then some b else l.lookup i
 |[],i=>by
  simp only[uX,List.lookup];by_cases e:i=k;subst e;simp;have:(i==k)=false:=by simpa using e
  simp[this,e]
 |q::r,i=>by
  obtain⟨f,j⟩:=q;simp only[uX];by_cases h:f=k;subst h;simp only[kJ,List.lookup];by_cases e:i=f;subst e;simp;have:(i==f)=false:=by simpa using e
  simp[this,e];simp only[h,kX,List.lookup];by_cases e:i=f;subst e;simp[h];have:(i==f)=false:=by simpa using e
  simp only[this];exact pz k b r i
def dc(r:Rec)(s:St):St:=
 {s with
  tm:=match r.dst with|some d=>s.tm.set d r.val|none=>s.tm
  mem:=r.upd.foldr (λp m=>uX m p.1 p.2) s.mem
  nx:=match r.new with|some k=>k+1|none=>s.nx}
def jM(r:Rec)(n:Nat):Bool:=
 (match r.dst with|some d=>decide (d<n)|none=>true)&&true
theorem iU(r:Rec)(s:St):(dc r s).tm.length=s.tm.length:=by
 unfold dc;cases r.dst<;>simp
theorem gm{r:Rec}{s:St}(h:jM r s.tm.length=true):(dc r s).sig=dY r s.sig:=by
 unfold jM at h;simp only[qC]at h;obtain⟨G,h2⟩:=h;have y:(dc r s).sig.T=(dY r s.sig).T:=by
  funext t;simp only[St.sig,dc,dY,upT];cases hd:r.dst with
  |none=>simp|some d=>
   rw[hd]at G;have u:d<s.tm.length:=by simpa using G
   simp only[vV];by_cases e:t=d;subst e;simp[qA,u];simp only[if_neg e,qA];rw[zT (λh=>e h.symm)]
 have A:(dc r s).sig.m=(dY r s.sig).m:=by
  funext k;simp only[St.sig,dc,dY,upM];induction r.upd with
  |nil=>rfl|cons p l X=>
   obtain⟨k',b⟩:=p;simp only[List.foldr_cons,pz,List.lookup];by_cases e:k=k';subst e;simp;have:(k==k')=false:=by simpa using e
   simp only[this,if_neg e];exact X
 cases j:(dc r s).sig with
 |mk T m sv=>
  cases f:dY r s.sig with
  |mk T' m' L=>
   have z:(dc r s).sig.sv=(dY r s.sig).sv:=rfl;rw[j,f]at y A z;simp only at y A z;rw[y,A,z]
structure iJ where
 pre:Ob
 t:Ty
 L:List t.den
structure Cfg where
 P:Program
 G:List (Nat×AV)
 K:Kt
 mb:Tmp->Bool
 KI:FuncId->List AV->Option iJ
 rng:Bool
 KP:KPt:=λ_ _ _=>none
 pf:FuncId->Bool:=λ_=>false
def aD5(mb:Tmp->Bool)(o:Oper):Bool:=match o.dst with|some d=>mb d|none=>false
def Cfg.mt(c:Cfg)(o:Oper):Bool:=aD5 c.mb o
def td(c:Cfg)(ops:Array Oper):List Oper->St->Option (List Rec)
 |[],_=>some []|o::os,s=>match iM c.P c.G c.K (c.mt o) ops s.nx s.sig o with
  |some r=>if jM r s.tm.length=true then match td c ops os (dc r s)with
   |some rs=>some (r::rs)|none=>none
   else none
  |none=>none
def qk(rs:List Rec)(s:St)(j:Nat):St:=(rs.take j).foldl (λs r=>dc r s) s
theorem oS(rs:List Rec)(s:St)(j:Nat):(qk rs s j).tm.length=s.tm.length:=by
 unfold qk;induction rs.take j generalizing s with
 |nil=>rfl|cons r l f=>simp only[kS];rw[f,iU]
theorem I2{c:Cfg}{ops:Array Oper}:∀{os:List Oper}{s:St}{rs:List Rec},td c ops os s=some rs->
  rs.length=os.length/\∀(j:Nat) o r,os[j]?=some o->rs[j]?=some r->
   iM c.P c.G c.K (c.mt o) ops (qk rs s j).nx (qk rs s j).sig o=some r/\jM r s.tm.length=true
 |[],s,rs,h=>by
  simp only[td]at h;cases h;exact⟨rfl,λj o r h=>by simp at h⟩
 |o::os,s,rs,h=>by
  simp only[td]at h;split at h;case h_2=>cases h
  rename_i r hr;split at h;case isFalse=>cases h
  rename_i y;split at h;case h_2=>cases h
  rename_i L u;cases h;obtain⟨g1,g2⟩:=I2 u;refine⟨by simp[g1],λj o' r' z f=>?_⟩;cases j with
  |zero=>
   simp at z f;subst z f;exact⟨hr,y⟩
  |succ j=>
   obtain⟨X,A⟩:=g2 j o' r' (by simpa using z) (by simpa using f);rw[iU]at A;exact⟨by simpa[qk]using X,A⟩
theorem uh(rs:List Rec)(s:St)(j:Nat)(r:Rec)(h:rs[j]?=some r):qk rs s (j+1)=dc r (qk rs s j):=by
 unfold qk;rw[wW,h];simp
def unB(k:Nat)(s:St):Bool:=
 (s.mem.lookup k).isNone&&s.tm.all (λa=>!a.names.contains k)&&s.mem.all (λp=>!p.2.names.contains k)&&!(AV.namesL s.sv).contains k
theorem cX{l:List (Nat×Blk)}{k:Nat}{b:Blk}(h:l.lookup k=some b):(k,b)∈l:=by
 induction l with
 |nil=>simp at h|cons p l f=>
  obtain⟨p1,p2⟩:=p;simp only[List.lookup]at h;split at h;rename_i e;cases h;have:k=p1:=by simpa using e
  subst this;simp;exact wU _ (f h)
theorem Kr{k:Nat}{s:St}(h:unB k s=true):Unm k s.sig:=by
 unfold unB at h;simp only[qC,qU]at h;obtain⟨⟨⟨j,A⟩,z⟩,y⟩:=h;refine⟨?_,λt=>?_,λnm b hb=>?_,by have u:k∉AV.namesL s.sv:=(by simpa using y);exact u⟩;show s.mem.lookup k=none;cases f:s.mem.lookup k with
 |none=>rfl|some b=>rw[f]at j;cases j
 show k∉(s.tm.getD t .top).names;rw[qA];cases f:s.tm[t]? with
 |none=>simp[AV.names]|some a=>
  have:=A a (qY f);simpa using this
 have:=z _ (cX hb);simpa using this
def BB(k:Nat)(r:Rec):Bool:=!r.val.names.contains k&&r.upd.all (λp=>!(p.1==k)&&!p.2.names.contains k)
theorem zv{k:Nat}{r:Rec}(h:BB k r=true){s:Sig}(u:Unm k s):Unm k (dY r s):=by
 unfold BB at h;simp only[qC,qU]at h;obtain⟨z,y⟩:=h;have f:∀nm b,r.upd.lookup nm=some b->nm≠k/\k∉b.names:=λnm b hb=>by
  have:=y _ (cX hb);simpa using this
 refine⟨?_,λt=>?_,λnm b hb=>?_,u.2.2.2⟩;show upM s.m r.upd k=none;unfold upM;cases j:r.upd.lookup k with
 |none=>exact u.1|some b=>exact absurd rfl (f k b j).1
 show k∉(upT s.T r.dst r.val t).names;unfold upT;split;simpa using z;exact u.2.1 t;replace hb:upM s.m r.upd nm=some b:=hb;unfold upM at hb;cases j:r.upd.lookup nm with
 |none=>rw[j]at hb;exact u.2.2.1 nm b hb|some A=>rw[j]at hb;cases hb;exact(f nm _ j).2
def XJ(d:Option Tmp)(l:List Tmp):Bool:=match d with|some d=>l.contains d|none=>false
def aDe:Option Tmp->Option Tmp->Bool|some d,some e=>d==e|_,_=>false
def indep(r s:Rec):Bool:=
 !XJ r.dst s.reads&&!XJ s.dst r.reads&&!aDe r.dst s.dst &&
 r.upd.all (λp=>!s.fp.contains p.1&&s.upd.all λq=>!(p.1==q.1))&&s.upd.all (λp=>!r.fp.contains p.1)
theorem zz{l:List (Nat×Blk)}{k:Nat}(h:∀p∈l,p.1≠k):l.lookup k=none:=by
 cases f:l.lookup k with
 |none=>rfl|some b=>exact absurd rfl (h _ (cX f))
theorem Cd{r s:Rec}(h:indep r s=true):
  (∀σ,dY s (dY r σ)=dY r (dY s σ))/\(∀σ,(∀t∈s.reads,(dY r σ).T t=σ.T t)/\∀nm∈s.fp,(dY r σ).m nm=σ.m nm)/\
  (∀σ,(∀t∈r.reads,(dY s σ).T t=σ.T t)/\∀nm∈r.fp,(dY s σ).m nm=σ.m nm):=by
 unfold indep at h;simp only[qC,qU]at h;obtain⟨⟨⟨⟨h1,h2⟩,L⟩,G⟩,h5⟩:=h;have A:∀(d:Option Tmp) (l:List Tmp),(!XJ d l)=true->∀t∈l,some t≠d:=by
  intro d l hd t y e;subst e;simp[XJ,y]at hd
 refine⟨λσ=>?_,λσ=>⟨λt y=>?_,λnm f=>?_⟩,λσ=>⟨λt y=>?_,λnm f=>?_⟩⟩;unfold dY;congr 1;funext t;simp only[upT];by_cases u:some t=s.dst<;>by_cases j:some t=r.dst;exfalso;rw[<- u,<- j]at L;simp[aDe]at L;rw[if_pos u,if_neg j,if_pos u];rw[if_neg u,if_pos j,if_pos j];rw[if_neg u,if_neg j,if_neg j,if_neg u];funext nm;simp only[upM];cases hr:r.upd.lookup nm<;>cases X:s.upd.lookup nm<;>simp only[];exfalso;have:=(G _ (cX hr));simp only[qU]at this;have:=this.2 _ (cX X);simp at this;show upT σ.T r.dst r.val t=σ.T t;unfold upT;rw[if_neg (A _ _ h1 t y)];show upM σ.m r.upd nm=σ.m nm;unfold upM;rw[zz (λp z e=>by
  have:=(G p z).1;rw[e]at this;simp[f]at this)]
 show upT σ.T s.dst s.val t=σ.T t;unfold upT;rw[if_neg (A _ _ h2 t y)];show upM σ.m s.upd nm=σ.m nm;unfold upM;rw[zz (λp z e=>by
  have:=h5 p z;rw[e]at this;simp[f]at this)]
def J5(tbl:List Nat)(o:Oper):Nat:=o.after.toList.foldl (λs e=>if Region.binds .any e then s ||| 2 ^ e.on ||| tbl.getD e.on 0 else s) 0
def qg:List Nat->List Oper->List Nat|acc,[]=>acc|acc,o::os=>qg (acc++[J5 acc o]) os
theorem xq{f:List Nat}{i:Nat}:∀(es:List Edge) (s:Nat),(es.foldl (λs e=>if Region.binds .any e then s ||| 2 ^ e.on ||| f.getD e.on 0 else s) s).testBit i=true->
  s.testBit i=true\/∃e∈es,Region.binds .any e=true/\(i=e.on\/(f.getD e.on 0).testBit i=true)
 |[],s,h=>.inl h|e::es,s,h=>by
  simp only[kS]at h;rcases xq es _ h with g|⟨z,y,u⟩;split at g;rename_i hb;simp only[Nat.testBit_or,yO]at g;rcases g with(g|g)|g;exact .inl g;rw[Nat.testBit_two_pow]at g;have j:e.on=i:=by simpa using g
  exact .inr ⟨e,by simp,hb,.inl j.symm⟩;exact .inr ⟨e,by simp,hb,.inr g⟩;exact .inl g;exact .inr ⟨z,by simp[y],u⟩
def dflt:Rec:={dst:=none,val:=.top,upd:=[],new:=none,reads:=[],fp:=[],need:=[]}
def rR(tbl:List Nat)(ops:List Oper)(rs:List Rec):Bool:=
 (List.range ops.length).all λj=>
  (match ops[j]? with|some o=>tbl.getD j 0==J5 tbl o&&o.after.all (λe=>!Region.binds .any e||decide (e.on<j))|none=>false) &&
  (List.range j).all λi=>(tbl.getD j 0).testBit i||indep (rs.getD i dflt) (rs.getD j dflt)
def BI(draw:Bool)(tbl:List Nat)(s:St)(rs:List Rec):Bool:=
 (List.range rs.length).all λj=>match(rs.getD j dflt).new with|none=>true|some k=>unB k s&&(List.range rs.length).all λi=>i==j||(decide (j<i)&&(!draw||(tbl.getD i 0).testBit j))||BB k (rs.getD i dflt)
theorem wj{α:Type}{l:List α}{i:Nat}{x d:α}(h:l[i]?=some x):l.getD i d=x:=by
 rw[qA,h];rfl
theorem tu{draw:Bool}{f:List Nat}{s:St}{rs:List Rec}(h:BI draw f s rs=true){j k:Nat}{r:Rec}(hj:rs[j]?=some r)(hk:r.new=some k):
  Unm k s.sig/\∀i q,rs[i]?=some q->i≠j->(i<j\/(draw=true/\(f.getD i 0).testBit j=false))->BB k q=true:=by
 unfold BI at h;rw[qU]at h;have z:=(qE.1 hj).1;have u:=h j (by simpa using z);rw[wj hj,hk]at u;simp only[qC,qU]at u;refine⟨Kr u.1,λi q hq y hc=>?_⟩;have A:=(qE.1 hq).1;have X:=u.2 i (by simpa using A);rw[wj hq]at X;simp only[yO,yJ,qC,qF,zD]at X;rcases X with(g|⟨g1,g2⟩)|g;exact(y g).elim;rcases hc with hc|⟨L,G⟩;omega;rcases g2 with g2|g2;rw[L]at g2;cases g2;rw[G]at g2;cases g2;exact g
def aBB(c:Cfg)(ops:Array Oper)(draw:Bool)(s:St):Option (List Ob×St):=
 match td c ops ops.toList s with
 |some rs=>
  let tbl:=if draw then qg [] ops.toList else[]
  if BI draw tbl s rs=true/\(draw=true->rR tbl ops.toList rs=true)then some (rs.flatMap (·.need),qk rs s rs.length)else none
 |none=>none
section
variable {S:Base}{K:Kt}{mb:Tmp->Bool}{ops:Array Oper}{s:St}{rs:List Rec}
def gk(rs:List Rec)(i:Nat)(σ:Sig):Sig:=match rs[i]? with|some r=>dY r σ|none=>σ
theorem By(f:∀(j:Nat) (r:Rec),rs[j]?=some r->jM r s.tm.length=true):∀j,j<=rs.length->iZ (gk rs) Yi j s.sig=(qk rs s j).sig
 |0,_=>rfl|j+1,y=>by
  have u:=By f j Z;have h:=qB (l:=rs) (show j<rs.length by omega);show gk rs j (iZ (gk rs) Yi j s.sig)=_;rw[u,uh rs s j _ h,gm (by rw[oS];exact f j _ h)];simp only[gk,h]
structure Iy(S:Base)(K:Kt)(mb:Tmp->Bool)(ops:Array Oper)(s:St)(rs:List Rec):Prop where
 len:rs.length=ops.size
 at_:∀(j:Nat) o r,ops[j]?=some o->rs[j]?=some r->iM S.P S.G K (aD5 mb o) ops (qk rs s j).nx (qk rs s j).sig o=some r/\jM r s.tm.length=true
 tm:s.tm.length=S.N
 need:∀(j:Nat) r,rs[j]?=some r->∀q∈r.need,q
theorem Iy.dst(H:Iy S K mb ops s rs){j:Nat}{o:Oper}{r:Rec}(y:ops[j]?=some o)(u:rs[j]?=some r):∀d,o.dst=some d->d<S.N:=by
 intro d hd;obtain⟨f,h⟩:=H.at_ j o r y u;have e:r.dst=o.dst:=by
  unfold iM at f;split at f;split at f;unfold Jo at f;split at f;cases f;rfl;split at f;cases f;rfl;cases f;cases f;cases f
 unfold jM at h;simp only[qC]at h;have:=h.1;rw[e,hd]at this;rw[<- H.tm];simpa using this
theorem Iy.step(A:ay S.P S.G K)(H:Iy S K mb ops s rs){Q:Exit->Act->World->Prop}{j:Nat}{o:Oper}{r:Rec}(u:ops[j]?=some o)(f:rs[j]?=some r){σ:Sig}{a:Act}{w:World}
  (X:∀t∈r.reads,σ.T t=(qk rs s j).sig.T t) (L:∀nm∈r.fp,σ.m nm=(qk rs s j).sig.m nm) (y:∀k,r.new=some k->Unm k σ) (z:Sim S σ a w):
  wpOpIn S.F 0 S.P ops Q j (λa' w'=>Sim S (gk rs j σ) a' w') a w:=by
 have h:=uf (H.at_ j o r u f).1 X L;have:=oQ (Q:=Q) A u z (H.dst u f) h (H.need j r f) y;simp only[gk,f];exact this
theorem FG(hK:ay S.P S.G K)(H:Iy S K mb ops s rs){tbl:List Nat}(u:BI false tbl s rs=true){a:Act}{w:World}(hs:Sim S s.sig a w){Q:Exit->Act->World->Prop}
  (hQ:∀X w',Sim S (qk rs s rs.length).sig X w'->Q .normal X w') {id:Nat}:(Code.region id ops false).wpIn S.F 0 S.P Q a w:=by
 refine wpIn_region ?_;have z:∀(j:Nat) (r:Rec),rs[j]?=some r->jM r s.tm.length=true:=λj r f=>by
  have hj:j<ops.size:=by rw[<- H.len];exact(qE.1 f).1
  exact(H.at_ j _ r (zV hj) f).2
 have hun:∀(j k:Nat) r,rs[j]?=some r->r.new=some k->∀i,i<=j->Unm k (qk rs s i).sig:=by
  intro j k r f L i;induction i with
  |zero=>intro _;exact(tu u f L).1
  |succ i ih=>
   intro hi;have hil:i<rs.length:=by have:=(qE.1 f).1;omega
   have y:=qB hil;rw[uh rs s i _ y,gm (by rw[oS];exact z i _ y)];exact zv ((tu u f L).2 i _ y Z (.inl Z)) (ih Z)
 have key:∀(n j:Nat),j+n=ops.size->∀a w,Sim S (qk rs s j).sig a w->wpOpsIn S.F 0 S.P ops Q (List.range' j n) a w:=by
  intro n;induction n with
  |zero=>
   intro j hj a w h;simp only[qBp,wpOpsIn];have:j=rs.length:=by rw[H.len];omega
   subst this;exact hQ a w h
  |succ n ih=>
   intro j hj a w h;have A:j<ops.size:=Z;have ho:=zV A;have f:=qB (l:=rs) (show j<rs.length by rw[H.len];exact A);rw[qAr,wpOpsIn_cons];refine wpOpIn_mono (λX w' h'=>ih (j+1) Z X w' ?_) (H.step hK (Q:=Q) ho f (λ_ _=>rfl) (λ_ _=>rfl) (λk L=>hun j k _ f L j (qN _)) h);rw[uh rs s j _ f,gm (by rw[oS];exact z j _ f)];simpa only[gk,f]using h'
 have:=key ops.size 0 Z a w hs;rwa [<- qAq]at this
theorem RG{f:List Nat}(h:rR f ops.toList rs=true)(y:rs.length=ops.size):
  (∀(j:Nat) o,ops[j]?=some o->(∀e∈o.after,Region.binds .any e=true->e.on<j)/\∀i,(f.getD j 0).testBit i=true->∃e∈o.after,Region.binds .any e=true/\(i=e.on\/(f.getD e.on 0).testBit i=true))/\
  (∀(i j:Nat) (r q:Rec),i<j->rs[i]?=some r->rs[j]?=some q->(f.getD j 0).testBit i=false->indep r q=true):=by
 unfold rR at h;rw[qU]at h;refine⟨λj o ho=>?_,λi j r q L hr X hb=>?_⟩;have G:j<ops.size:=(qK.1 ho).1;have u:=h j (by simpa using G);have A:ops.toList[j]?=some o:=by simpa using ho
 rw[A]at u;simp only[qC,yJ]at u;obtain⟨⟨z,h3⟩,_⟩:=u;refine⟨λe he hb=>?_,λi hi=>?_⟩;rw[qBq]at h3;have:=h3 e he;simpa[hb]using this;rw[z]at hi;unfold J5 at hi;rcases xq _ _ hi with g|⟨e,h4,h5⟩;simp at g;exact⟨e,by simpa using h4,h5⟩;have G:j<ops.size:=by rw[<- y];exact(qE.1 X).1
 have u:=h j (by simpa using G);simp only[qC,qU]at u;have z:=u.2 i (by simpa using L);rw[wj hr,wj X,hb]at z;simpa using z
end
end Go.Eng
namespace Go.Eng
open Go.RowKit
section
variable {S:Base}{K:Kt}{mb:Tmp->Bool}{ops:Array Oper}{s:St}{rs:List Rec}
theorem Ve{listed:Array Bool}{j N:Nat}(L:listed.size=N)(y:j<N)(u:listed.getD j true=false):((List.range N).filter λi=>!(listed.setIfInBounds j true).getD i true).length+1<=((List.range N).filter λi=>!listed.getD i true).length:=by
 have hc:∀(l:List Nat),l.Nodup->j∈l->(l.filter λi=>!(listed.setIfInBounds j true).getD i true).length+1<=(l.filter λi=>!listed.getD i true).length:=by
  intro l;induction l with
  |nil=>intro _ h;cases h
  |cons x l z=>
   intro f hm;rw[List.nodup_cons]at f;simp only[yV];by_cases G:x=j;subst G;have X:(listed.setIfInBounds x true).getD x true=true:=by
    simp[Array.getD,L,y]
   have e2:∀(l:List Nat),x∉l->(l.filter λi=>!(listed.setIfInBounds x true).getD i true)=l.filter λi=>!listed.getD i true:=by
    intro l hl;apply List.filter_congr;intro i hi;have:i≠x:=λe=>hl (e▸hi);simp only[vG,xH];rw[if_neg (λe=>this e.symm)]
   rw[X,u,e2 l f.1];simp;have X:(listed.setIfInBounds j true).getD x true=listed.getD x true:=by
    simp only[vG,xH];rw[if_neg (λe=>G e.symm)]
   rw[X];have A:=z f.2 (by rcases wY.1 hm with g|g;exact(G g.symm).elim;exact g);split;simp only[wH];omega;exact A
 exact hc (List.range N) List.nodup_range (by simpa using y)
def Live(tbl:List Nat)(q j:Nat):Prop:=j≠q/\(tbl.getD j 0).testBit q=false
theorem M8(hK:ay S.P S.G K)(hm:S.P.follows .mixedOrders=true)(A:rs.length=ops.size){u:List Nat}{q:Nat}
  (hat:∀(j:Nat) o r,ops[j]?=some o->rs[j]?=some r->Live u q j->iM S.P S.G K (aD5 mb o) ops (qk rs s j).nx (qk rs s j).sig o=some r/\(∀d,o.dst=some d->d<S.N)/\∀p∈r.need,p)
  (hok:∀(j:Nat) (r:Rec),rs[j]?=some r->jM r s.tm.length=true) (hnew:BI true u s rs=true) (hdr:rR u ops.toList rs=true) {Q:Exit->Act->World->Prop}
  (hQ:ops.size<=q->∀a' w',Sim S (qk rs s rs.length).sig a' w'->Q .normal a' w')
  (spec:q<ops.size->∀(n:Nat) (listed:Array Bool) (a:Act) (w:World),listed.getD q false=false->
   (∀i,(u.getD i 0).testBit q=true->i<ops.size->listed.getD i false=false)->
   (∀r,rs[q]?=some r->∀t∈r.reads,(iZ (gk rs) (λi=>listed.getD i false) ops.size s.sig).T t=(qk rs s q).sig.T t)->
   Sim S (iZ (gk rs) (λi=>listed.getD i false) ops.size s.sig) a w->wpOpIn S.F 0 S.P ops Q q (wpAnyIn S.F 0 S.P .any ops Q n (listed.setIfInBounds q true)) a w)
  {a:Act}{w:World} (hs:Sim S s.sig a {w with drawn:=w.drawn+1}) {id:Nat}:(Code.region id ops true).wpIn S.F 0 S.P Q a w:=by
 refine wpIn_region_any hm ?_;obtain⟨L,hind⟩:=RG hdr A;have get:∀j,j<ops.size->∃r,rs[j]?=some r:=λj hj=>⟨_,qB (by rw[A];exact hj)⟩;have HO:Orders (gk rs) ops.size (λi j=>(u.getD j 0).testBit i)
   (λj σ=>∀r,rs[j]?=some r->(∀t∈r.reads,σ.T t=(qk rs s j).sig.T t)/\∀nm∈r.fp,σ.m nm=(qk rs s j).sig.m nm)
   (λj σ=>∀r k,rs[j]?=some r->r.new=some k->Unm k σ) s.sig:=by
  refine⟨λi j hij hj hna σ=>?_,λi j hij hj hna σ=>?_,λi j hij hj hna σ=>?_,λi j hi hj hne hc σ hu=>?_,λj hj=>?_,λj hj r k y hk=>(tu hnew y hk).1⟩;obtain⟨r,y⟩:=get i Z;obtain⟨q,hq⟩:=get j hj;simp only[gk,y,hq];exact(Cd (hind i j r q hij y hq hna)).1 σ;obtain⟨r,y⟩:=get i Z;obtain⟨q,hq⟩:=get j hj;obtain⟨g1,g2⟩:=(Cd (hind i j r q hij y hq hna)).2.1 σ;simp only[gk,y];refine⟨λh r' hr'=>?_,λh r' hr'=>?_⟩<;>(have e:r'=q:=wF (hr'.symm.trans hq);subst e;obtain⟨h1,h2⟩:=h _ hr');exact⟨λt ht=>(g1 t ht).symm.trans (h1 t ht),λnm f=>(g2 nm f).symm.trans (h2 nm f)⟩;exact⟨λt ht=>(g1 t ht).trans (h1 t ht),λnm f=>(g2 nm f).trans (h2 nm f)⟩;obtain⟨r,y⟩:=get i Z;obtain⟨q,hq⟩:=get j hj;obtain⟨g1,g2⟩:=(Cd (hind i j r q hij y hq hna)).2.2 σ;simp only[gk,hq];refine⟨λh r' hr'=>?_,λh r' hr'=>?_⟩<;>(have e:r'=r:=wF (hr'.symm.trans y);subst e;obtain⟨h1,h2⟩:=h _ hr');exact⟨λt ht=>(g1 t ht).symm.trans (h1 t ht),λnm f=>(g2 nm f).symm.trans (h2 nm f)⟩;exact⟨λt ht=>(g1 t ht).trans (h1 t ht),λnm f=>(g2 nm f).trans (h2 nm f)⟩;obtain⟨q,hq⟩:=get i hi;intro r k y hk;simp only[gk,hq];refine zv ((tu hnew y hk).2 i q hq hne ?_) (hu r k y hk);rcases hc with hc|hc;exact .inl hc;exact .inr ⟨rfl,hc⟩;intro r y;rw[By hok j (by rw[A];omega)];exact⟨λ_ _=>rfl,λ_ _=>rfl⟩
 have below:∀q,q<ops.size->∀i,(u.getD q 0).testBit i=true->i<q:=by
  intro q;induction q using Nat.strongRecOn with
  |_ q ihq=>
   intro hq i hb;have hoq:=zV hq;obtain⟨e,he,heb,hc⟩:=(L q _ hoq).2 i hb;have hlt:=(L q _ hoq).1 e he heb;rcases hc with rfl|hc;exact hlt;have:=ihq e.on hlt Z i hc;omega
 have X:∀(listed:Array Bool) (a:Act) (w:World),listed.size=ops.size->Region.ready .any ops listed=[]->(q<ops.size->listed.getD q false=false)->
   Sim S (iZ (gk rs) (λi=>listed.getD i false) ops.size s.sig) a w->Q .normal a w:=by
  intro listed a w z hrd hql h;have hall:∀j,j<ops.size->listed.getD j false=true:=by
   intro j;induction j using Nat.strongRecOn with
   |_ j ih=>
    intro hj;cases hd:listed.getD j false with
    |true=>rfl|false=>
     exfalso;have ho:=zV hj;have hmem:j∈Region.ready .any ops listed:=by
      unfold Region.ready;simp only[xJ,wG,qC,ho,yC,vK];refine⟨hj,?_,?_⟩;have:listed.getD j true=listed.getD j false:=by simp[Array.getD,z,hj]
      rw[this,hd];rfl;rw[qBq];intro e he;cases hb:Region.binds .any e with
      |false=>rfl|true=>
       have hlt:=(L j _ ho).1 e he hb;rw[ih e.on hlt Z];rfl
     rw[hrd]at hmem;cases hmem
  have hqs:ops.size<=q:=by
   rcases zO q ops.size with g|g;have:=hql g;rw[hall q g]at this;cases this;exact g
  refine hQ hqs a w ?_;rw[A,<- By hok ops.size (by rw[A];exact qN _),qs (gk rs) (d:=Yi) (d':=λi=>listed.getD i false) ops.size s.sig (λi hi=>(hall i hi).symm)];exact h
 have key:∀(n:Nat) (listed:Array Bool) (a:Act) (w:World),listed.size=ops.size->((List.range ops.size).filter λi=>!listed.getD i true).length<=n->(q<ops.size->listed.getD q false=false)->
   (∀i j,i<j->j<ops.size->(u.getD j 0).testBit i=true->listed.getD j false=true->listed.getD i false=true)->
   Sim S (iZ (gk rs) (λi=>listed.getD i false) ops.size s.sig) a w->wpAnyIn S.F 0 S.P .any ops Q n listed a w:=by
  intro n;induction n with
  |zero=>
   intro listed a w z hcnt hql hdc h;have hrd:Region.ready .any ops listed=[]:=by
    have:((List.range ops.size).filter λi=>!listed.getD i true)=[]:=vI Z;unfold Region.ready;rw[qBn]at this ⊢;intro i hi;have:=this i hi;simp only[qC,not_and];intro h1;exact(this h1).elim
   exact⟨hrd,X listed a w z hrd hql h⟩
  |succ n ih=>
   intro listed a w z hcnt hql hdc h;refine⟨λhrd=>X listed a w z hrd hql h,λj hj=>?_⟩;obtain⟨hjun,o,ho,hpre⟩:=mem_ready.1 hj;have hjl:j<ops.size:=(qK.1 ho).1;obtain⟨r,y⟩:=get j hjl;have hjf:listed.getD j false=false:=by
    have:listed.getD j true=listed.getD j false:=by simp[Array.getD,z,hjl]
    rw[<- this];exact hjun
   have hp:∀i,i<j->(u.getD j 0).testBit i=true->listed.getD i false=true:=by
    intro i hij hb;obtain⟨e,he,heb,hc⟩:=(L j o ho).2 i hb;have hel:=hpre e he heb;rcases hc with rfl|hc;exact hel;have hlt:=(L j o ho).1 e he heb;exact hdc i e.on (below e.on Z i hc) Z hc hel
   obtain⟨g1,g2,g3⟩:=RB HO (done:=λi=>listed.getD i false) hdc hjl hjf hp;by_cases hjq:j=q;subst hjq;exact spec hjl n listed a w hjf (λi hb hi=>by
    cases hl:listed.getD i false with
    |false=>rfl|true=>have:=hdc j i (below i hi j hb) hi hb hl;rw[hjf]at this;cases this) (λr y=>(g1 r y).1) h
   have hlive:Live u q j:=by
    refine⟨hjq,?_⟩;cases hb:(u.getD j 0).testBit q with
    |false=>rfl|true=>
     have hlt:=below j hjl q hb;have:=hp q hlt hb;rw[hql Z]at this;cases this
   obtain⟨g4,g5⟩:=g1 r y;obtain⟨l1,l2,l3⟩:=hat j o r ho y hlive;have hst:=uf l1 g4 g5;have hstep:wpOpIn S.F 0 S.P ops Q j (λa' w'=>Sim S (gk rs j (iZ (gk rs) (λi=>listed.getD i false) ops.size s.sig)) a' w') a w:=by
    have:=oQ (Q:=Q) hK ho h l2 hst l3 (λk hk=>g2 r k y hk);simp only[gk,y];exact this
   have eset:∀i,(listed.setIfInBounds j true).getD i false=if i=j then true else listed.getD i false:=by
    intro i;simp only[vG,xH];by_cases e:j=i;subst e;simp[z,hjl];rw[if_neg e,if_neg (λh=>e h.symm)]
   refine wpOpIn_mono (λa' w' h'=>ih (listed.setIfInBounds j true) a' w' (by simpa using z) ?_ ?_ ?_ ?_) hstep;have:=Ve z hjl hjun;omega;intro hqs;rw[eset,if_neg (λe=>hjq e.symm)];exact hql hqs;intro i p hip hp2 hb hlp;rw[eset]at hlp ⊢;split;rfl;split at hlp;rename_i e1;subst e1;exact hp i hip hb;exact hdc i p hip hp2 hb hlp;rw[show(λi=>(listed.setIfInBounds j true).getD i false)=λi=>if i=j then true else listed.getD i false from funext eset,g3];exact h'
 have fls:∀i,(Array.replicate ops.size false).getD i false=false:=λi=>by
  rw[vG];cases h:(Array.replicate ops.size false)[i]? with
  |none=>rfl|some v=>rw[kD]at h;split at h<;>cases h;rfl
 refine key ops.size (Array.replicate ops.size false) a _ (by simp) (vS (qBs _ _) (by simp)) (λ_=>fls q) (λi j _ _ _ hl=>by rw[fls]at hl;cases hl) ?_;have:∀n,iZ (gk rs) (λ_=>false) n s.sig=s.sig:=by
  intro n;induction n with
  |zero=>rfl|succ n ih=>simp only[iZ,wZ,kX];exact ih
 rw[show(λi=>(Array.replicate ops.size false).getD i false)=λ_=>false from funext fls,this];exact hs
theorem uz(hK:ay S.P S.G K)(hm:S.P.follows .mixedOrders=true)(H:Iy S K mb ops s rs){u:List Nat}(y:BI true u s rs=true)(z:rR u ops.toList rs=true)
  {a:Act}{w:World} (X:Sim S s.sig a {w with drawn:=w.drawn+1}) {Q:Exit->Act->World->Prop} (hQ:∀L w',Sim S (qk rs s rs.length).sig L w'->Q .normal L w') {id:Nat}:
  (Code.region id ops true).wpIn S.F 0 S.P Q a w:=
 M8 (mb:=mb) (q:=ops.size) hK hm H.len (λj o r A f _=>⟨(H.at_ j o r A f).1,H.dst A f,H.need j r f⟩)
  (λj r f=>(H.at_ j _ r (zV (by rw[<- H.len];exact(qE.1 f).1)) f).2) y z (λ_=>hQ) (λh=>absurd h Z) X
end
end Go.Eng
namespace Go.Eng
open Go.RowKit
def OJ(m:Mem)(nm:Nat):Bool:=m.any λp=>match p.2 with|.mat _ _ _ _ ov=>(AV.namesL (ov.map (·.2))).contains nm|_=>false
def gone(m m':Mem)(nm:Nat):Option Blk:=if OJ m nm then none else match m'.lookup nm with|some _=>none|none=>m.lookup nm
theorem fW{m m':Mem}{nm:Nat}{b:Blk}(h:gone m m' nm=some b):m.lookup nm=some b/\m'.lookup nm=none/\OJ m nm=false:=by
 unfold gone at h;split at h;cases h;rename_i j;split at h;cases h;rename_i f;exact⟨h,f,yQ.2 j⟩
def Nu(m m':Mem)(nm n:Nat)(t:Ty):Option (List Ob×List t.den):=
 match gone m m' nm with
  |some (.buf _ t' xs [])=>if h:t'=t then some ([xs.length=n],h▸xs)else none|some (.buf _ (.sl e) xs [(i,.buf nm2 n2)])=>match gone m m' nm2 with
    |some (.buf _ e' zs [])=>if h:e'=e then if h2:Ty.sl e=t then some ([xs.length=n,zs.length=n2],h2▸Ep (α:=List e.den) xs i (h▸zs))else none else none|_=>none
  |some (.mat _ _ e xss [])=>if h:Ty.sl e=t then some ([xss.length=n],h▸xss)else none|_=>none
def IP:Value->Value->Bool|.tuple a,.tuple b=>a.isEmpty&&b.isEmpty|.slice none m n,.slice none m' n'=>m==m'&&n==n'|.pointer none,.pointer none=>true|.nilFunc,.nilFunc=>true|.nilIface,.nilIface=>true|_,_=>false
theorem NG{v v':Value}(h:IP v v'=true):v=v':=by
 unfold IP at h;split at h<;>first
  |cases h;done
  |rfl
  |simp_all
instance (v v':Value):CoeDep Prop (v=v') Ob:=⟨⟨v=v',IP v v',NG⟩⟩
mutual
def leA(m m':Mem):AV->AV->Option (List Ob)
 |a,b=>match b with
  |.top=>some []|b=>match a,b with
   |.dat t x,.dat t' y=>if h:t=t' then some [h▸x=y]else none|.val v,.dat t y=>match v,t,y with
    |.slice none 0 0,.sl _,y=>some [y=[]]|_,_,_=>none
   |.val v,.buf nm n=>match v,m.lookup nm,m'.lookup nm with
    |.slice none 0 0,none,some (.buf _ _ ys [])=>some [n=0,ys=[]]|_,_,_=>none
   |.val v,.val v'=>some [v=v']|.buf nm n,.buf nm' n'=>if nm=nm' then match m.lookup nm with|some _=>some [n=n']|none=>none else none
   |.buf nm n,.dat t y=>match t,y with
    |.sl t,y=>match Nu m m' nm n t with|some (ns,xs)=>some (ns++([xs=y]:List Ob))|none=>none
    |_,_=>none
   |.ptr nm g i c,.ptr nm' g' i' c'=>if nm=nm' then match m.lookup nm with|some _=>some [g=g',i=i',c=c']|none=>none else none
   |.ptr nm g i c,.ip t y=>match gone m m' nm with
    |some (.var cs)=>match cQ t (cs.drop c)with
     |some (x,_)=>some [1=g,i=0,x=y]|none=>none
    |_=>none
   |.ip t x,.ip t' y=>if h:t=t' then some [h▸x=y]else none|.agg cs,.agg cs'=>leL m m' cs cs'|.tup cs,.tup cs'=>leL m m' cs cs'|.fn f cs,.fn f' cs'=>if f=f' then leL m m' cs cs' else none|.clo1 a r p g,.clo1 a' r' p' g'=>some [AV.clo1 a r p g=AV.clo1 a' r' p' g']|.clo2 a b r p g,.clo2 a' b' r' p' g'=>some [AV.clo2 a b r p g=AV.clo2 a' b' r' p' g']|.ifc t a,.ifc t' b=>if t=t' then leA m m' a b else none|.grd g a,b=>match leA m m' a b with|some ns=>some ((g=true)::ns)|none=>none
   |.ptr nm g i c,.ipv b=>match gone m m' nm with
    |some (.var cs)=>match cs.drop c with
     |x::_=>if nameless x then some [1=g,i=0,x=b]else none|[]=>none
    |_=>none
   |.ptr nm g i 0,.ia t y=>match gone m m' nm with
    |some (.buf _ t' xs [])=>if h:t'=t then some [xs.length=g,i=0,h▸xs=y]else none|_=>none
   |.ipv a,.ipv b=>leA m m' a b|.ips cs,.ips cs'=>leL m m' cs cs'|.slv cs,.slv cs'=>leL m m' cs cs'|.ia t x,.ia t' y=>if h:t=t' then some [h▸x=y]else none|.yld l,.yld l'=>some [l=l']|.av t x,.av t' y=>if h:t=t' then some [h▸x=y]else none|.pin u a,.pin u' b=>match leA m m' a b with|some ns=>some ((u=u')::ns)|none=>none
   |_,_=>none
def leL(m m':Mem):List AV->List AV->Option (List Ob)
 |[],[]=>some []|a::as,b::bs=>match leA m m' a b,leL m m' as bs with
  |some p,some q=>some (p++q)|_,_=>none
 |_,_=>none
end
def aBF(m m':Mem)(t:Ty)(xs ys:List t.den)(i:Nat)(v:AV):Option (List Ob):=
 match t,xs,ys,v with
 |.sl e,xs,ys,.buf nm2 n2=>match Nu m m' nm2 n2 e with
  |some (ns,zs)=>some (ns++([Ep (α:=List e.den) xs i zs=ys]:List Ob))|none=>none
 |_,_,_,_=>none
def LG(m m':Mem)(eli:TypeId)(e:Ty)(xs ys:List (List e.den))(i:Nat):AV->Option (List Ob)
 |.buf nm2 n2=>match m'.lookup nm2,m.lookup nm2 with
  |none,some (.buf el2 e2 zs [])=>if el2=eli then if h:e2=e then some [zs.length=n2,Ep (α:=List e.den) xs i (h▸zs)=ys]else none else none|_,_=>none
 |_=>none
def Xf(e:Ty)(t:Ty)(xs:List t.den)(ys:List (List e.den)):Option (List Ob):=
 if h:t=.sl e then if e.sz=1 then some [(h▸xs:List (Ty.den (.sl e)))=ys,Fh ys]else none else none
def leB(m m':Mem):Blk->Blk->Option (List Ob)
 |.var cs,.var cs'=>leL m m' cs cs'|.buf el t xs ov,.buf el' t' ys ov'=>if el=el' then if h:t=t' then match ov,ov' with
   |[],[]=>some [h▸xs=ys]|[(i,v)],[(i',v')]=>match leA m m' v v' with
    |some ns=>some ((h▸xs=ys)::(i=i')::ns)|none=>none
   |[(i,v)],[]=>aBF m m' t' (h▸xs) ys i v|_,_=>none
  else none else none
 |.buf el t xs [],.mat el' _ e ys []=>if el=el' then Xf e t xs ys else none|.mat el eli e xs ov,.mat el' eli' e' ys ov'=>if el=el'/\eli=eli' then if h:e=e' then match ov,ov' with
   |[],[]=>some [h▸xs=ys]|[(i,v)],[(i',v')]=>match leA m m' v v' with
    |some ns=>some ((h▸xs=ys)::(i=i')::ns)|none=>none
   |[(i,v)],[]=>LG m m' eli e' (h▸xs) ys i v|_,_=>none
  else none else none
 |_,_=>none
def leM(m m':Mem):Mem->Option (List Ob)
 |[]=>some []|(nm,b')::r=>match(match m.lookup nm with
     |some b=>leB m m' b b'|none=>match b' with
      |.buf _ _ ys []=>some [ys=[]]|_=>none),leM m m' r with
  |some p,some q=>some (p++q)|_,_=>none
def zy:Mem->List Nat|[]=>[]|(nm,.mat _ _ _ _ (_::_))::r=>nm::zy r|_::r=>zy r
def Ox(s s':St):Option (List Ob):=
 if s.tm.length=s'.tm.length/\(zy s.mem).length<=1 then match leL s.mem s'.mem s.tm s'.tm,leM s.mem s'.mem s'.mem,leL s.mem s'.mem s.sv s'.sv with|some p,some q,some r=>some (p++q++r)|_,_,_=>none
 else none
section
variable {S:Base}{s s':St}{a:Act}{w:World}{D:Nat->Prop}{E:Nat->Ent}
def Y9(m m':Mem)(D:Nat->Prop)(E:Nat->Ent)(b:Nat):Prop:=D b\/(∃nm blk,m.lookup nm=some blk/\m'.lookup nm=none/\OJ m nm=false/\(E nm).isNil=false/\b=(E nm).b)\/∃nm i,m'.lookup nm=none/\cz (λk=>m.lookup k) E nm i b
def aAQ(E:Nat->Ent)(nm:Nat):Blk->Nat->Nat×Nat|.mat _ _ _ _ [(i,.buf nm2 _)]=>λk=>if k=i then((E nm2).b,(E nm2).cap)else(E nm).rb k|_=>(E nm).rb
def xN(m:Mem)(E:Nat->Ent)(nm:Nat):Ent:=match m.lookup nm with|some b=>⟨(E nm).b,(E nm).cap,(E nm).isNil,aAQ E nm b⟩|none=>⟨0,0,true,noR⟩
theorem HG{m:Mem}{E:Nat->Ent}{nm:Nat}{b:Blk}(h:m.lookup nm=some b):xN m E nm=⟨(E nm).b,(E nm).cap,(E nm).isNil,aAQ E nm b⟩:=by unfold xN;rw[h]
theorem wn{m:Mem}{E:Nat->Ent}{nm:Nat}{b:Blk}(h:m.lookup nm=some b)(n:Nat):(xN m E nm).handle n=(E nm).handle n:=by rw[HG h];rfl
def OT(s:St)(w:World)(D:Nat->Prop)(E:Nat->Ent):Ctx:=⟨w,D,s.sig.m,E⟩
def ctx1(s s':St)(w:World)(D:Nat->Prop)(E:Nat->Ent):Ctx:=⟨w,Y9 s.mem s'.mem D E,s'.sig.m,xN s.mem E⟩
theorem jo(h:aL S s.sig a w D E){nm:Nat}{el:TypeId}{t:Ty}{xs:List t.den}{ov:List (Nat×AV)}(hm:s.mem.lookup nm=some (.buf el t xs ov)):
  ∃raw,bW S.P (OT s w D E) t xs ov raw/\raw.length=xs.length*t.sz/\
   (((E nm).isNil=true/\xs=[]/\(E nm).handle xs.length=.slice none 0 0)\/
    ((E nm).isNil=false/\(E nm).handle xs.length=.slice (some ⟨(E nm).b,0,none⟩) xs.length (E nm).cap/\xs.length<=(E nm).cap/\cU w (E nm).b 0 raw)):=by
 obtain⟨raw,y,r2⟩:=h.bl nm _ hm;refine⟨raw,r2,y.1,?_⟩;cases f:(E nm).isNil with
 |true=>
  have A:(E nm).handle xs.length=.slice none 0 0:=by unfold Ent.handle;rw[f];rfl
  rw[A]at y;rcases y.2 with⟨_,hz⟩|⟨g,cap,L,z,_⟩;exact .inl ⟨rfl,vI hz,A⟩;cases z
 |false=>
  have A:(E nm).handle xs.length=.slice (some ⟨(E nm).b,0,none⟩) xs.length (E nm).cap:=by unfold Ent.handle;rw[f];rfl
  rw[A]at y;refine .inr ⟨rfl,A,?_,λj u X=>?_⟩;rcases y.2 with⟨z,_⟩|⟨g,cap,L,z,_,_,hle,_⟩;cases z;simp only[yH,yG]at z;omega;have G:j<xs.length*t.sz:=by rw[<- y.1];exact(qE.1 X).1
  show w.cell? ⟨(E nm).b,0+j,none⟩=some u;rw[zU,y.cellAt j G];exact X
theorem bV{m m':Mem}:∀b,D b->Y9 m m' D E b:=λ_ h=>.inl h
theorem mC(h:aL S s.sig a w D E){nm:Nat}{el:TypeId}{t:Ty}{xs:List t.den}(hg:gone s.mem s'.mem nm=some (.buf el t xs [])):
  af w (Y9 s.mem s'.mem D E) (.sl t) xs [(E nm).handle xs.length]:=by
 obtain⟨hm,A,hf⟩:=fW hg;obtain⟨raw,r1,r2,r3⟩:=jo h hm;rcases r3 with⟨_,rfl,e⟩|⟨f,e,G,hc⟩;rw[e];exact bu _ _ _;rw[e];refine⟨_,_,rfl,G,(λh=>by cases h),(λad L _=>by cases L;rfl),λi y hy=>?_⟩;have X:=r1 i y hy;simp only[List.lookup]at X;refine⟨_,_,rfl,.inr (.inl ⟨nm,_,hm,A,hf,f,rfl⟩),?_,aw bV (λ_ _=>rfl) X⟩;intro j u z;rw[vW]at z;split at z;rw[vO]at z;have:=hc (i*t.sz+j) u z;show w.cell? ⟨(E nm).b,0+i*t.sz+j,none⟩=some u;rw[zU]at this ⊢;exact this;cases z
theorem Gk(h:aL S s.sig a w D E){nm:Nat}{el eli:TypeId}{t:Ty}{xss:List (List t.den)}(hg:gone s.mem s'.mem nm=some (.mat el eli t xss [])):
  af w (Y9 s.mem s'.mem D E) (.sl (.sl t)) xss [(E nm).handle xss.length]:=by
 obtain⟨hm,hno,hf⟩:=fW hg;obtain⟨h0,raw,r1,r2⟩:=h.bl nm _ hm;cases f:(E nm).isNil with
 |true=>
  have e3:(E nm).handle xss.length=.slice none 0 0:=by unfold Ent.handle;rw[f];rfl
  rw[e3]at r1 ⊢;rcases r1.2 with⟨_,G⟩|⟨g,cap,cur,A,_⟩;have:xss=[]:=vI G;subst this;exact bu _ _ _;cases A
 |false=>
  have e3:(E nm).handle xss.length=.slice (some ⟨(E nm).b,0,none⟩) xss.length (E nm).cap:=by unfold Ent.handle;rw[f];rfl
  rw[e3]at r1 ⊢;have X:xss.length<=(E nm).cap:=by
   rcases r1.2 with⟨A,_⟩|⟨g,cap,cur,A,_,_,X,_⟩;cases A;simp only[yH,yG]at A;omega
  refine⟨_,_,rfl,X,(λh=>by cases h),(λad had _=>by cases had;rfl),λi row hi=>?_⟩;obtain⟨u,g1,g2⟩:=r2 i row hi;simp only[List.lookup]at g2;obtain⟨ao,cap,q2,k1,k0,k2⟩:=g2;refine⟨_,[u],rfl,.inr (.inl ⟨nm,_,hm,hno,hf,f,rfl⟩),?_,?_⟩;intro j v hj;cases j with
  |succ j=>simp at hj|zero=>
   simp at hj;subst hj;have L:i<xss.length*1:=by have:=(qE.1 hi).1;omega
   show w.cell? ⟨(E nm).b,0+i*1+0,none⟩=some u;rw[zU,yS,xX,r1.cellAt i L];exact g1
  by_cases hp:0<row.length;obtain⟨p1,p2,p3⟩:=k2 hp;subst k1 p1;have hle2:row.length<=cap:=by
   rcases p2.2 with⟨A,_⟩|⟨g,cap',cur,A,_,_,X,_⟩;cases A;simp only[yH,yG]at A;omega
  refine⟨_,_,rfl,hle2,(λh=>by cases h),(λad had _=>by cases had;rfl),λj y hy=>?_⟩;have hr:=p3 j y hy;simp only[List.lookup]at hr;refine⟨_,_,rfl,.inr (.inr ⟨nm,i,hno,el,eli,t,xss,[],row,hm,rfl,hi,hp,rfl⟩),?_,aw bV (λ_ _=>rfl) hr⟩;intro z v G;rw[vW]at G;split at G;rename_i hz1;rw[vO]at G;have hj:=(qE.1 hy).1;have L:j*t.sz+z<row.length*1:=by rw[h0]at hz1 ⊢;omega
  show w.cell? ⟨((E nm).rb i).1,0+j*t.sz+z,none⟩=some v;rw[zU,p2.cellAt _ L];exact G;cases G;have:row=[]:=vI Z;subst this k1;exact⟨ao,cap,rfl,wE _,k0,λ_ _ h=>absurd h (xM _),λj y hy=>by cases hy⟩
theorem AZ(h:aL S s.sig a w D E){nm n:Nat}{t:Ty}{ns:List Ob}{xs:List t.den}{v:Value}(hc:Nu s.mem s'.mem nm n t=some (ns,xs))(hn:∀q∈ns,q)
  (hv:(AV.buf nm n).rel S.P (OT s w D E) v):af w (Y9 s.mem s'.mem D E) (.sl t) xs [v]:=by
 unfold Nu at hc;split at hc;rename_i el t' z G;obtain⟨hm,hno,hf⟩:=fW G;split at hc;rename_i ht;subst ht;cases hc;have f:z.length=n:=Ob.get hn (by simp);have X:=(hv _ hm).2 f;rw[<- f]at X;rw[X];exact mC h G;cases hc;rename_i el e z i nm2 n2 G;obtain⟨hm,hno,hf⟩:=fW G;split at hc;case h_2=>cases hc
 rename_i el2 e' zs hgo2;obtain⟨hm2,hno2,hf2⟩:=fW hgo2;split at hc;case isFalse=>cases hc
 rename_i he;subst he;split at hc;case isFalse=>cases hc
 rename_i ht;subst ht;cases hc;have f:z.length=n:=Ob.get hn (by simp);have L:zs.length=n2:=Ob.get hn (by simp);have X:=(hv _ hm).2 f;rw[<- f]at X;obtain⟨raw,r1,r2,r3⟩:=jo h hm;simp only[Ty.sz,yS]at r2;rcases r3 with⟨_,hx,e⟩|⟨hnil,e,hle,hc⟩;have:z=[]:=hx;subst this;have e1:v=.slice none 0 0:=X.trans e;rw[e1];exact bu _ _ _;have e1:=X.trans e;rw[e1];refine⟨_,_,by rw[Ep,zW],by rw[Ep,zW];exact hle,(λh=>by cases h),(λad had _=>by cases had;rfl),λk y hy=>?_⟩;have A:(List.set z i zs)[k]?=some y:=hy;have hk:k<z.length:=by have:=(qE.1 A).1;rwa [zW]at this
 have hx:=r1 k _ (qB hk);refine⟨⟨(E nm).b,0,none⟩,(raw.drop (k*1)).take 1,rfl,.inr (.inl ⟨nm,_,hm,hno,hf,hnil,rfl⟩),?_,?_⟩;intro j u hj;rw[vW]at hj;split at hj;rename_i hj1;rw[vO]at hj;have:=hc (k*1+j) u hj;show w.cell? ⟨(E nm).b,0+k*1+j,none⟩=some u;rw[zU]at this ⊢;exact this;cases hj;rw[vP]at A;split at A;rename_i eik;subst eik;rw[if_pos hk]at A;cases A;simp only[List.lookup,xW]at hx;obtain⟨_,u,hu,_,hur⟩:=hx;have e4:(raw.drop (i*1)).take 1=[u]:=by
  rw[yS];apply wP;intro q;rw[vW];cases q with
  |zero=>simp[hu]|succ q=>simp
 rw[e4,(hur _ hm2).2 L,<- L];exact mC h hgo2;rename_i hne;have hb:(k==i)=false:=by simpa using λe=>hne e.symm
 simp only[List.lookup,hb]at hx;have:y=z[k]:=by rw[qB hk]at A;exact(wF A).symm
 rw[this];exact aw bV (λ_ _=>rfl) hx;rename_i el eli e xss G;obtain⟨hm,hno,hf⟩:=fW G;split at hc;case isFalse=>cases hc
 rename_i ht;subst ht;cases hc;have f:xss.length=n:=Ob.get hn (by simp);have X:=(hv _ hm).2 f;rw[<- f]at X;rw[X];exact Gk h G;cases hc
theorem TG{t f:Ty}{x:t.den}{y:f.den}{w:World}{D:Nat->Prop}{us:Lv}(h:t=f)(e:h▸x=y)(j:af w D t x us):af w D f y us:=by
 subst h;simp only at e;subst e;exact j
def Names(m m':Mem):Prop:=∀nm b b',m.lookup nm=some b->m'.lookup nm=some b'->b.len=b'.len/\b.es=b'.es
mutual
theorem l7(h:aL S s.sig a w D E)(hN:Names s.mem s'.mem):∀{x y:AV}{ns:List Ob}{v:Value},leA s.mem s'.mem x y=some ns->(∀q∈ns,q)->x.rel S.P (OT s w D E) v->y.rel S.P (ctx1 s s' w D E) v
 |x,y,ns,v,hc,f,z=>by
  unfold leA at hc;split at hc;trivial;rename_i hnt;split at hc
  ·
   split at hc;rename_i ht;cases hc;exact aw bV (λ_ _=>rfl) (TG ht (Ob.get f (by simp)) z);cases hc
  ·
   split at hc;rename_i e0 y0;cases hc;have hy:y0=[]:=f _ (qW.2 rfl);simp only[AV.rel]at z;subst z hy;exact bu _ _ _;cases hc
  ·
   rename_i u nm n;split at hc;rename_i el ty ys G hm';cases hc;have h1:n=0:=Ob.get f (by simp);have h2:ys=[]:=Ob.get f (by simp);simp only[AV.rel]at z;subst z;intro b hb;have e:b=.buf el ty ys []:=wF (hb.symm.trans hm');subst e h1 h2;refine⟨qN _,λ_=>?_⟩;show _=(xN s.mem E nm).handle 0;unfold xN;rw[G];rfl;cases hc
  cases hc;have e:_=_:=f _ (qW.2 rfl);simp only[AV.rel]at z ⊢;rw[z];exact e
  ·
   rename_i nm n nm' n';split at hc;case isFalse=>cases hc
   rename_i e;subst e;split at hc;case h_2=>cases hc
   rename_i blk hm;cases hc;have e2:n=n':=Ob.get f (by simp);subst e2;intro b' hb';obtain⟨l1,l2⟩:=hN nm blk b' hm hb';obtain⟨X,g2⟩:=z blk hm;refine⟨Z,λe=>?_⟩;show v=(xN s.mem E nm).handle n;rw[wn hm];exact g2 Z
  ·
   rename_i nm n t y;split at hc;rename_i t y;split at hc;rename_i ns' xs hd;cases hc;have e:xs=y:=Ob.get f (by simp);subst e;exact AZ h hd (λq hq=>f q (by simp[hq])) z;cases hc;cases hc
  ·
   rename_i nm g i c nm' g' i' c';split at hc;case isFalse=>cases hc
   rename_i e;subst e;split at hc;case h_2=>cases hc
   rename_i blk hm;cases hc;have e1:g=g':=Ob.get f (by simp);have e2:i=i':=Ob.get f (by simp);have e3:c=c':=Ob.get f (by simp);subst e1 e2 e3;intro b' hb';obtain⟨l1,l2⟩:=hN nm blk b' hm hb';obtain⟨X,g2⟩:=z blk hm;refine⟨Z,λe=>?_⟩;obtain⟨q1,q2,q3⟩:=g2 Z;have A:(E nm).isNil=false:=q2;refine⟨q1,?_,?_⟩;show(xN s.mem E nm).isNil=false;rw[HG hm];exact A;show v=.pointer (some ⟨(xN s.mem E nm).b,_,none⟩);rw[HG hm,<- l2];exact q3
  ·
   rename_i nm g i c t y;split at hc;case h_2=>cases hc
   rename_i cs L;obtain⟨hm,G,hf⟩:=fW L;split at hc;case h_2=>cases hc
   rename_i x rest hof;cases hc;have e1:1=g:=Ob.get f (by simp);have e2:i=0:=Ob.get f (by simp);have e3:x=y:=Ob.get f (by simp);subst e2 e3;obtain⟨_,q2,q3⟩:=(z _ hm).2 e1;have A:(E nm).isNil=false:=q2;obtain⟨_,us,el,r1,r2⟩:=h.bl nm _ hm;have hd:=AV.relL_drop r2 c;obtain⟨u1,u2,e,p1,p2⟩:=cm hof hd;have q3':v=.pointer (some ⟨(E nm).b,c,none⟩):=by
    have:(Blk.var cs).es*0=0:=Nat.mul_zero _;rw[q3];show Value.pointer (some ⟨(E nm).b,0*_+c,none⟩)=_;rw[xB,zU]
   refine⟨(E nm).b,c,u1,q3',.inr (.inl ⟨nm,_,hm,G,hf,A,rfl⟩),?_,aw bV (λ_ _=>rfl) p1⟩;intro j u hj;have r1':w.heap[(E nm).b]?=some (.cells us el (0,0)):=r1;show w.cell? ⟨(E nm).b,c+j,none⟩=some u;rw[qCz w _ _ us el (0,0) r1'];have:(us.toList.drop c)[j]?=some u:=by rw[e,vY (qE.1 hj).1];exact hj
   rw[vO]at this;simpa using this
  split at hc;rename_i ht;cases hc;obtain⟨b,off,us,X,g2,g3,g4⟩:=z;exact⟨b,off,us,X,.inl g2,g3,aw bV (λ_ _=>rfl) (TG ht (Ob.get f (by simp)) g4)⟩;cases hc;obtain⟨us,e,g⟩:=z;exact⟨us,e,lZ h hN hc f g⟩;obtain⟨us,e,g⟩:=z;exact⟨us,e,lZ h hN hc f g⟩;split at hc;rename_i ef;subst ef;obtain⟨us,e,g⟩:=z;exact⟨us,e,lZ h hN hc f g⟩;cases hc;cases hc;have e:=f _ (qW.2 rfl);rw[<- e];exact AV.rel_mono (C:=OT s w D E) (C':=ctx1 s s' w D E) ⟨bV,λ_ _=>rfl⟩ (λnm hm=>by simp[AV.names]at hm) z;cases hc;have e:=f _ (qW.2 rfl);rw[<- e];exact AV.rel_mono (C:=OT s w D E) (C':=ctx1 s s' w D E) ⟨bV,λ_ _=>rfl⟩ (λnm hm=>by simp[AV.names]at hm) z;split at hc;rename_i et;subst et;obtain⟨u,e,g⟩:=z;exact⟨u,e,l7 h hN hc f g⟩;cases hc;rename_i g x';split at hc;rename_i ns' hns;cases hc;have hg:g=true:=Ob.get f (by simp);exact l7 h hN hns (λq hq=>f q (by simp[hq])) (z.1 hg);cases hc
  ·
   rename_i nm g i c b';split at hc;case h_2=>cases hc
   rename_i cs L;obtain⟨hm,G,hf⟩:=fW L;split at hc;case h_2=>cases hc
   rename_i x rest hdr;split at hc;case isFalse=>cases hc
   rename_i hnl;cases hc;have e1:1=g:=Ob.get f (by simp);have e2:i=0:=Ob.get f (by simp);have e3:x=b':=Ob.get f (by simp);subst e2 e3;obtain⟨_,q2,q3⟩:=(z _ hm).2 e1;have A:(E nm).isNil=false:=q2;obtain⟨_,us,el,r1,r2⟩:=h.bl nm _ hm;have hd:=AV.relL_drop r2 c;rw[hdr]at hd;obtain⟨u,us',e,p1,p2⟩:=hd;have q3':v=.pointer (some ⟨(E nm).b,c,none⟩):=by
    rw[q3];show Value.pointer (some ⟨(E nm).b,0*_+c,none⟩)=_;rw[xB,zU]
   refine⟨(E nm).b,c,u,q3',.inr (.inl ⟨nm,_,hm,G,hf,A,rfl⟩),?_,Ge (C:=OT s w D E) (C':=ctx1 s s' w D E) hnl ⟨bV,λ_ _=>rfl⟩ p1⟩;have r1':w.heap[(E nm).b]?=some (.cells us el (0,0)):=r1;show w.cell? ⟨(E nm).b,c,none⟩=some u;rw[qCz w _ _ us el (0,0) r1'];have:(us.toList.drop c)[0]?=some u:=by rw[e];rfl
   rw[vO]at this;simpa using this
  ·
   rename_i nm g i t y;split at hc;case h_2=>cases hc
   rename_i el t' xs L;obtain⟨hm,G,hf⟩:=fW L;split at hc;case isFalse=>cases hc
   rename_i ht;subst ht;cases hc;have e1:xs.length=g:=Ob.get f (by simp);have e2:i=0:=Ob.get f (by simp);have e3:xs=y:=Ob.get f (by simp);subst e2 e3;obtain⟨_,q2,q3⟩:=(z _ hm).2 e1;have A:(E nm).isNil=false:=q2;have hp:=mC (s':=s') h L;have e4:(E nm).handle xs.length=.slice (some ⟨(E nm).b,0,none⟩) xs.length (E nm).cap:=by unfold Ent.handle;rw[A];rfl
   rw[e4]at hp;have q3':v=.pointer (some ⟨(E nm).b,0,none⟩):=by
    rw[q3];show Value.pointer (some ⟨(E nm).b,0*_+0,none⟩)=_;rw[xB]
   exact⟨(E nm).b,0,q3',FD hp _ (qN _)⟩
  obtain⟨b,off,u,X,g2,g3,g4⟩:=z;exact⟨b,off,u,X,.inl g2,g3,l7 h hN hc f g4⟩;obtain⟨b,off,us,X,g2,g3,g4⟩:=z;exact⟨b,off,us,X,.inl g2,g3,lZ h hN hc f g4⟩;obtain⟨b,off,us,X,g2,g3,g4⟩:=z;have g5:=lZ h hN hc f g4;have el:=(AV.relL_length g4).trans (AV.relL_length g5).symm;exact⟨b,off,us,by rw[X,el],.inl g2,g3,g5⟩;split at hc;rename_i ht;cases hc;subst ht;have e:=f _ (qW.2 rfl);simp only at e;subst e;obtain⟨b,off,X,g2⟩:=z;exact⟨b,off,X,aw bV (λ_ _=>rfl) g2⟩;cases hc;cases hc;have e:=f _ (qW.2 rfl);subst e;exact z;split at hc;rename_i ht;cases hc;subst ht;have e:=f _ (qW.2 rfl);simp only at e;subst e;obtain⟨us,X,g2,g3⟩:=z;exact⟨us,X,g2,λi y hy=>aw bV (λ_ _=>rfl) (g3 i y hy)⟩;cases hc;split at hc;rename_i ns' hns;cases hc;exact⟨z.1.trans (Ob.get f (by simp)),l7 h hN hns (λq hq=>f q (by simp[hq])) z.2⟩;cases hc;cases hc
theorem lZ(h:aL S s.sig a w D E)(G:Names s.mem s'.mem):∀{xs ys:List AV}{ns:List Ob}{vs:Lv},leL s.mem s'.mem xs ys=some ns->(∀q∈ns,q)->AV.relL S.P (OT s w D E) xs vs->AV.relL S.P (ctx1 s s' w D E) ys vs
 |[],[],ns,vs,hc,j,f=>f|x::xs,y::ys,ns,vs,hc,j,f=>by
  simp only[leL]at hc;split at hc;rename_i p q X L;cases hc;obtain⟨v,u,e,g1,g2⟩:=f;exact⟨v,u,e,l7 h G X (λz A=>j z (qJ.2 (.inl A))) g1,lZ h G L (λz A=>j z (qJ.2 (.inr A))) g2⟩;cases hc
 |[],_::_,ns,vs,hc,j,f=>by simp[leL]at hc|_::_,[],ns,vs,hc,j,f=>by simp[leL]at hc
end
end
end Go.Eng
namespace Go.Eng
open Go.RowKit
theorem Ak{m m':Mem}:∀{xs ys:List AV}{ns:List Ob},leL m m' xs ys=some ns->xs.length=ys.length
 |[],[],_,_=>rfl|x::xs,y::ys,ns,h=>by
  simp only[leL]at h;split at h;rename_i p q j f;simp[Ak f];cases h
 |[],_::_,_,h=>by simp[leL]at h|_::_,[],_,h=>by simp[leL]at h
theorem YX{m m':Mem}:∀{xs ys:List AV}{ns:List Ob}{i:Nat}{y:AV},leL m m' xs ys=some ns->ys[i]?=some y->∃x p,xs[i]?=some x/\leA m m' x y=some p/\∀q∈p,q∈ns
 |[],[],_,i,y,_,h=>by simp at h|x::xs,y::ys,ns,i,z,h,hi=>by
  simp only[leL]at h;split at h;rename_i p q G A;cases h;cases i with
  |zero=>simp at hi;subst hi;exact⟨x,p,rfl,G,λz f=>qJ.2 (.inl f)⟩|succ i=>
   simp at hi;obtain⟨j,u,X,g2,L⟩:=YX A hi;exact⟨j,u,by simpa using X,g2,λz f=>qJ.2 (.inr (L z f))⟩
  cases h
 |[],_::_,_,_,_,h,_=>by simp[leL]at h|_::_,[],_,_,_,h,_=>by simp[leL]at h
theorem aAw{m m':Mem}{b u:Blk}{ns:List Ob}(h:leB m m' b u=some ns)(f:∀q∈ns,q):b.len=u.len/\b.es=u.es:=by
 unfold leB at h;split at h;exact⟨rfl,Ak h⟩;split at h;case isFalse=>cases h
 split at h;case isFalse=>cases h
 rename_i j;subst j;split at h;cases h;have e:=f _ (qW.2 rfl);simp only at e;subst e;exact⟨rfl,rfl⟩;split at h;cases h;have e:=f _ (wO);simp only at e;subst e;exact⟨rfl,rfl⟩;cases h;unfold aBF at h;split at h;split at h;cases h;have e:=f _ (qJ.2 (.inr (qW.2 rfl)));subst e;exact⟨by simp[Blk.len,Ep],rfl⟩;cases h;cases h;cases h;split at h;case isFalse=>cases h
 unfold Xf at h;split at h;case isFalse=>cases h
 rename_i j;subst j;split at h;case isFalse=>cases h
 cases h;have e:=f _ wO;simp only at e;subst e;exact⟨rfl,rfl⟩;split at h;case isFalse=>cases h
 split at h;case isFalse=>cases h
 rename_i j;subst j;split at h;cases h;have e:=f _ (qW.2 rfl);simp only at e;subst e;exact⟨rfl,rfl⟩;split at h;cases h;have e:=f _ (wO);simp only at e;subst e;exact⟨rfl,rfl⟩;cases h;unfold LG at h;split at h;split at h;split at h;case isFalse=>cases h
 split at h;case isFalse=>cases h
 rename_i y;subst y;cases h;have e:=f _ (wU _ (qW.2 rfl));subst e;exact⟨by simp[Blk.len,Ep],rfl⟩;cases h;cases h;cases h;cases h
section
variable {S:Base}{s s':St}{a:Act}{w:World}{D:Nat->Prop}{E:Nat->Ent}
theorem LD{m m':Mem}:∀{l:Mem}{ns:List Ob}{nm:Nat}{u:Blk},leM m m' l=some ns->l.lookup nm=some u->(∀q∈ns,q)->
  (∃b p,m.lookup nm=some b/\leB m m' b u=some p/\∀q∈p,q)\/(m.lookup nm=none/\∃el t,u=.buf el t [] [])
 |[],_,_,_,_,h,_=>by simp at h|(k,L)::r,ns,nm,u,h,j,A=>by
  simp only[leM]at h;split at h;case h_2=>cases h
  rename_i p q f G;cases h;simp only[List.lookup]at j;split at j;rename_i e;cases j;have e:nm=k:=by simpa using e
  subst e;split at f;rename_i b hb;exact .inl ⟨b,p,hb,f,λz y=>A z (qJ.2 (.inl y))⟩;rename_i hb;split at f;cases f;have e:_=[]:=A _ (qJ.2 (.inl (qW.2 rfl)));subst e;exact .inr ⟨hb,_,_,rfl⟩;cases f;exact LD G j (λz y=>A z (qJ.2 (.inr y)))
theorem WS{p:List Ob}(h:leM s.mem s'.mem s'.mem=some p)(u:∀q∈p,q):Names s.mem s'.mem:=by
 intro nm b A hb j;rcases LD h j u with⟨c,ps,f,z,y⟩|⟨f,_⟩;rw[hb]at f;cases f;exact aAw z y;rw[hb]at f;cases f
theorem Xe(h:aL S s.sig a w D E){t:Ty}{xs ys:List t.den}{i:Nat}{v:AV}{ns:List Ob}{e:Ent}{el:TypeId}{raw:Lv}(hc:aBF s.mem s'.mem t xs ys i v=some ns)(hn:∀q∈ns,q)
  (r1:w.ownsRow 0 el t.sz (e.handle xs.length) xs.length raw) (r2:bW S.P (OT s w D E) t xs [(i,v)] raw):
  dG S.P 0 (ctx1 s s' w D E) e (.buf el t ys []):=by
 cases t with
 |sl X=>
  cases v with
  |buf nm2 n2=>
   simp only[aBF]at hc;split at hc;case h_2=>cases hc
   rename_i ns' zs hz;cases hc;have ex:Ep (α:=List X.den) xs i zs=ys:=hn _ (qJ.2 (.inr (qW.2 rfl)));subst ex;refine⟨raw,by rw[Ep,zW];exact r1,λk y hy=>?_⟩;have f:(List.set xs i zs)[k]?=some y:=hy;have G:k<xs.length:=by have:=(qE.1 f).1;rwa [zW]at this
   have j:=r2 k _ (qB G);simp only[List.lookup];rw[vP]at f;split at f;rename_i L;subst L;rw[if_pos G]at f;cases f;simp only[List.lookup,xW]at j;obtain⟨_,u,hu,_,z⟩:=j;have e4:(raw.drop (i*(Ty.sl X).sz)).take (Ty.sl X).sz=[u]:=by
    simp only[Ty.sz,yS];apply wP;intro q;rw[vW];cases q with
    |zero=>simp[hu]|succ q=>simp
   rw[e4];exact AZ h hz (λq hq=>hn q (qJ.2 (.inl hq))) z;rename_i A;have hb:(k==i)=false:=by simpa using λe=>A e.symm
   simp only[List.lookup,hb]at j;have:y=xs[k]:=by rw[qB G]at f;exact(wF f).symm
   rw[this];exact aw bV (λ_ _=>rfl) j
  |_=>simp[aBF]at hc
 |_=>simp[aBF]at hc
theorem wt{nm k i:Nat}{v:AV}{el f:TypeId}{t:Ty}{xss:List (List t.den)}(h:k≠i):aAQ E nm (.mat el f t xss [(i,v)]) k=(E nm).rb k:=by
 cases v<;>first
  |rfl
  |(show(if k=i then _ else(E nm).rb k)=_;rw[if_neg h])
theorem Rb{nm k:Nat}{X:TypeId}{t:Ty}{row:List t.den}{u:Value}(f:(xN s.mem E nm).rb k=(E nm).rb k)(hr:Iw S.P 0 (OT s w D E) (E nm) X t k row u):Iw S.P 0 (ctx1 s s' w D E) (xN s.mem E nm) X t k row u:=by
 obtain⟨ao,cap,j,z,A,y⟩:=hr;refine⟨ao,cap,j,z,A,λhp=>?_⟩;obtain⟨L,k2,G⟩:=y hp;exact⟨by rw[f];exact L,k2,bg (C:=OT s w D E) (C':=ctx1 s s' w D E) ⟨bV,λ_ _=>rfl⟩ (λnm h=>by cases h) G⟩
theorem aAv(h:aL S s.sig a w D E)(hN:Names s.mem s'.mem){nm:Nat}{b b':Blk}{ns:List Ob}(hm:s.mem.lookup nm=some b)(hc:leB s.mem s'.mem b b'=some ns)(A:∀q∈ns,q):
  dG S.P 0 (ctx1 s s' w D E) (xN s.mem E nm) b':=by
 have hb:dG S.P 0 (OT s w D E) (E nm) b:=h.bl nm b hm;have hE:=HG (E:=E) hm;have hH:=wn (E:=E) hm;unfold leB at hc;split at hc;obtain⟨h0,us,el,h1,h2⟩:=hb;exact⟨by rw[hE];exact h0,us,el,by rw[hE];exact h1,lZ h hN hc A h2⟩;split at hc;case isFalse=>cases hc
 rename_i he;subst he;split at hc;case isFalse=>cases hc
 rename_i ht;subst ht;obtain⟨raw,G,r2⟩:=hb;split at hc;cases hc;have ex:=A _ (qW.2 rfl);simp only at ex;subst ex;refine⟨raw,by rw[hH];exact G,λi y hy=>?_⟩;have g:=r2 i y hy;simp only[List.lookup]at g ⊢;exact aw bV (λ_ _=>rfl) g;rename_i i v i' v';split at hc;rename_i ns' hv;cases hc;have ex:=A _ (wO);have ei:i=i':=Ob.get A (by simp);simp only at ex;subst ex ei;refine⟨raw,by rw[hH];exact G,λk y hy=>?_⟩;have g:=r2 k y hy;by_cases j:(k==i)=true;simp only[List.lookup,j]at g ⊢;obtain⟨g1,u,g2,g3,g4⟩:=g;exact⟨g1,u,g2,g3,l7 h hN hv (λq hq=>A q (by simp[hq])) g4⟩;have j:(k==i)=false:=by simpa using j
 simp only[List.lookup,j]at g ⊢;exact aw bV (λ_ _=>rfl) g;cases hc;exact Xe h hc A (by rw[hH];exact G) r2;cases hc
 ·
  split at hc;case isFalse=>cases hc
  rename_i he;subst he;unfold Xf at hc;split at hc;case isFalse=>cases hc
  rename_i ht;subst ht;split at hc;case isFalse=>cases hc
  rename_i hz;cases hc;have e1:=A _ wO;have e2:∀r∈_,r=[]:=A _ (wU _ (qW.2 rfl));simp only at e1;subst e1;obtain⟨raw,G,r2⟩:=hb;refine⟨hz,raw,by rw[hH];exact G,λi row hi=>?_⟩;have e3:=e2 row (qY hi);subst e3;have g:=r2 i [] hi;simp only[List.lookup]at g ⊢;obtain⟨ao,cap,q1,q2,q3,_⟩:=g;refine⟨.slice ao 0 cap,?_,ao,cap,[],rfl,q3,λh=>absurd h (xM _)⟩;have:((raw.drop (i*1)).take 1)[0]?=some (.slice ao 0 cap):=by
   have q1':(raw.drop (i*1)).take 1=[.slice ao (List.length ([]:List _)) cap]:=q1;rw[q1'];rfl
  rw[vW,if_pos (by decide),vO]at this;simpa using this
 ·
  split at hc;case isFalse=>cases hc
  rename_i he;obtain⟨he1,he2⟩:=he;subst he1 he2;split at hc;case isFalse=>cases hc
  rename_i ht;subst ht;obtain⟨hz,raw,G,r2⟩:=hb;split at hc;cases hc;have ex:=A _ (qW.2 rfl);simp only at ex;subst ex;refine⟨hz,raw,by rw[hH];exact G,λi row hi=>?_⟩;obtain⟨u,g1,g2⟩:=r2 i row hi;simp only[List.lookup]at g2 ⊢;exact⟨u,g1,Rb (by rw[hE];rfl) g2⟩;rename_i i v i' v';split at hc;rename_i ns' hv;cases hc;have ex:=A _ (wO);have ei:i=i':=Ob.get A (by simp);simp only at ex;subst ex ei;refine⟨hz,raw,by rw[hH];exact G,λk row hk=>?_⟩;obtain⟨u,g1,g2⟩:=r2 k row hk;refine⟨u,g1,?_⟩;by_cases j:(k==i)=true;simp only[List.lookup,j]at g2 ⊢;exact⟨g2.1,l7 h hN hv (λq hq=>A q (by simp[hq])) g2.2⟩;have j:(k==i)=false:=by simpa using j
  simp only[List.lookup,j]at g2 ⊢;exact Rb (by rw[hE];exact wt (by simpa using j)) g2;cases hc;rename_i i v;unfold LG at hc;split at hc;case h_2=>cases hc
  rename_i f n2;split at hc;case h_2=>cases hc
  rename_i el2 e2 zs hno2 hm2;split at hc;case isFalse=>cases hc
  rename_i hel;subst hel;split at hc;case isFalse=>cases hc
  rename_i ht2;subst ht2;cases hc;have ex:=A _ (wU _ (qW.2 rfl));have elen:zs.length=n2:=A _ wO;simp only at ex;subst ex;refine⟨hz,raw,by rw[hH,Ep,zW];exact G,λk row hk=>?_⟩;have z:(List.set _ i zs)[k]?=some row:=hk;have L:=(qE.1 z).1;rw[zW]at L;obtain⟨u,g1,g2⟩:=r2 k _ (qB L);refine⟨u,g1,?_⟩;simp only[List.lookup];rw[vP]at z;split at z;rename_i eik;subst eik;rw[if_pos L]at z;cases z;simp only[List.lookup,xW]at g2;obtain⟨_,hur⟩:=g2;have hu:=(hur _ hm2).2 elen;obtain⟨raw2,p1,p2⟩:=h.bl f _ hm2;have hu:u=(E f).handle zs.length:=by rw[elen];exact hu
  have hrb:(xN s.mem E nm).rb i=((E f).b,(E f).cap):=by rw[hE];show(if i=i then((E f).b,(E f).cap)else(E nm).rb i)=_;rw[if_pos rfl]
  cases X:(E f).isNil with
  |true=>
   have e3:(E f).handle zs.length=.slice none 0 0:=by unfold Ent.handle;rw[X];rfl
   rw[e3]at p1;rcases p1.2 with⟨_,hz0⟩|⟨g,cap,cur,hq,_⟩;have hz0':zs.length=0:=hz0;exact⟨none,0,[],by rw[hu,e3,hz0'],λ_=>rfl,λhp=>Z⟩;cases hq
  |false=>
   have e3:(E f).handle zs.length=.slice (some ⟨(E f).b,0,none⟩) zs.length (E f).cap:=by unfold Ent.handle;rw[X];rfl
   rw[hz]at p1;refine⟨_,_,raw2,by rw[hu,e3],λh=>by(cases h),λhp=>⟨by rw[hrb],by rw[hu];exact p1,?_⟩⟩;exact bg (C:=OT s w D E) (C':=ctx1 s s' w D E) ⟨bV,λ_ _=>rfl⟩ (λnm h=>by cases h) p2
  rename_i hne;have hb:(k==i)=false:=by simpa using λe=>hne e.symm
  simp only[List.lookup,hb]at g2;rw[qB L]at z;have erow:=wF z;rw[erow]at g2;exact Rb (by rw[hE];exact if_neg (show ¬k=i by simpa using hb)) g2;cases hc
 cases hc
theorem Rn{p:List Ob}(hq:leM s.mem s'.mem s'.mem=some p)(hn:∀q∈p,q){nm i k:Nat}(hp:cz (λx=>s'.mem.lookup x) (xN s.mem E) nm i k):
  cz (λx=>s.mem.lookup x) E nm i k\/∃el eli t xss f n2 blk,s.mem.lookup nm=some (.mat el eli t xss [(i,.buf f n2)])/\s'.mem.lookup f=none/\s.mem.lookup f=some blk/\(blk.len≠0->True)/\0<blk.len/\(∃el2 t2 zs,blk=.buf el2 t2 zs [])/\k=(E f).b:=by
 obtain⟨el,eli,t,xss,ov,row,h1,h2,h3,h4,A⟩:=hp;rcases LD hq h1 hn with⟨b,ps,hm,hc,y⟩|⟨_,_,_,G⟩;rw[HG hm]at A;simp only at A;unfold leB at hc;split at hc;rename_i G;cases G;rename_i G;cases G;rename_i hb G;cases G;split at hc;case isFalse=>cases hc
 unfold Xf at hc;split at hc;case isFalse=>cases hc
 split at hc;case isFalse=>cases hc
 cases hc;have e2:∀r∈_,r=[]:=y _ (wU _ (qW.2 rfl));have:=e2 row (qY h3);subst this;exact absurd h4 (xM _);rename_i el0 eli0 e0 xs0 ov0 el1 eli1 e1 ys1 ov1 G;cases G;split at hc;case isFalse=>cases hc
 split at hc;case isFalse=>cases hc
 rename_i ht;subst ht;split at hc;cases hc;have ex:=y _ (qW.2 rfl);simp only at ex;subst ex;left;replace A:k=((E nm).rb i).1:=A;exact⟨_,_,_,_,_,row,hm,rfl,h3,h4,A⟩;rename_i j v j' v';split at hc;rename_i ns' hv;cases hc;have ex:=y _ (wO);have ei:j=j':=Ob.get y (by simp);simp only at ex;subst ex ei;left;have u:i≠j:=λe=>by subst e;simp[List.lookup]at h2
 rw[wt u]at A;have z:(i==j)=false:=by simpa using u
 exact⟨_,_,_,_,_,row,hm,by simp[List.lookup,z],h3,h4,A⟩;cases hc;rename_i j v;unfold LG at hc;split at hc;case h_2=>cases hc
 rename_i f n2;split at hc;case h_2=>cases hc
 rename_i el2 e2 zs X hm2;split at hc;case isFalse=>cases hc
 split at hc;case isFalse=>cases hc
 rename_i ht2;subst ht2;cases hc;have ex:=y _ (wU _ (qW.2 rfl));simp only at ex;subst ex;have h:(List.set _ j zs)[i]?=some row:=h3;rw[vP]at h;by_cases u:j=i;subst u;rw[if_pos rfl]at h;split at h;cases h;right;refine⟨_,_,_,_,f,n2,_,hm,X,hm2,λ_=>trivial,h4,⟨_,_,_,rfl⟩,?_⟩;rw[A];show(if j=j then((E f).b,(E f).cap)else(E nm).rb j).1=_;rw[if_pos rfl];cases h;rw[if_neg u]at h;left;have L:i≠j:=λe=>u e.symm;rw[wt L]at A;have z:(i==j)=false:=by simpa using L
 exact⟨_,_,_,_,_,row,hm,by simp[List.lookup,z],h,h4,A⟩;cases hc;cases hc;cases G
theorem qu:∀{m:Mem}{nm:Nat}{el j:TypeId}{t:Ty}{xss:List (List t.den)}{p:Nat×AV}{r:List (Nat×AV)},m.lookup nm=some (.mat el j t xss (p::r))->nm∈zy m
 |[],_,_,_,_,_,_,_,h=>by cases h
 |(k,b)::m,nm,el,j,t,xss,p,r,h=>by
  simp only[List.lookup]at h;split at h;rename_i e;have e:nm=k:=by simpa using e
  subst e;cases h;simp[zy];have u:=qu h;unfold zy;split;rename_i f;cases f;rename_i f;cases f;exact wU _ u;rename_i f;cases f;exact u
theorem aAk{l:List Nat}(h:l.length<=1){a b:Nat}(f:a∈l)(hb:b∈l):a=b:=by
 match l,h with
 |[],_=>cases f
 |[x],_=>rw[qW.1 f,qW.1 hb]
def aC(m:Nat->Option Blk)(E:Nat->Ent)(b:Nat):Prop:=bE m E b\/∃nm i,cz m E nm i b
theorem aL.ownAll{S:Base}{σ:Sig}{a:Act}{w:World}{D:Nat->Prop}{E:Nat->Ent}(h:aL S σ a w D E){b:Nat}(hb:aC σ.m E b):(S.w0.heap.size<=b\/S.O b)/\b<w.heap.size/\¬D b:=by
 rcases hb with⟨nm,blk,j,g2,f⟩|⟨nm,i,g⟩;rw[f];exact h.own nm blk j g2;exact h.pv.own nm i b g
theorem IY{ns:List Ob}(h:aL S s.sig a w D E)(hc:Ox s s'=some ns)(hn:∀q∈ns,q):
  ∃D' E',aL S s'.sig a w D' E'/\(∀b,D b->D' b)/\(∀b,D' b->D b\/aC s.sig.m E b)/\∀b,aC s'.sig.m E' b->aC s.sig.m E b:=by
 unfold Ox at hc;split at hc;case isFalse=>cases hc
 rename_i hone;obtain⟨_,hone⟩:=hone;split at hc;case h_2=>cases hc
 rename_i p q r hp hq hsv;cases hc;have hnp:∀z∈p,z:=λz hz=>hn z (qJ.2 (.inl (qJ.2 (.inl hz))));have hnq:∀z∈q,z:=λz hz=>hn z (qJ.2 (.inl (qJ.2 (.inr hz))));have hnr:∀z∈r,z:=λz hz=>hn z (qJ.2 (.inr hz));have hN:=WS hq hnq;have keep:∀nm,(xN s.mem E nm).isNil=false->((xN s.mem E nm).b=(E nm).b/\(E nm).isNil=false)/\∃b,s.mem.lookup nm=some b:=λnm hm=>by
  unfold xN at hm ⊢;split at hm;rename_i b hb;exact⟨⟨rfl,hm⟩,b,hb⟩;cases hm
 have foldIn:∀nm el eli t xss i f n2,s.mem.lookup nm=some (.mat el eli t xss [(i,.buf f n2)])->OJ s.mem f=true:=λnm el eli t xss i f n2 hm=>by
  unfold OJ;rw[xZ];exact⟨_,vf hm,by simp[AV.namesL,AV.names]⟩
 have hpv:eU S.w0.heap.size S.O s'.sig.m (xN s.mem E) w.heap.size (Y9 s.mem s'.mem D E):=by
  have src:=λ{nm i k:Nat} (hk:cz s'.sig.m (xN s.mem E) nm i k)=>Rn (s:=s) (s':=s') (E:=E) hq hnq hk;have aAm:∀{f blk},s.mem.lookup f=some blk->0<blk.len->(∃el2 t2 zs,blk=.buf el2 t2 zs [])->(E f).isNil=false:=by
   rintro f blk hm2 hl ⟨el2,t2,zs,rfl⟩;obtain⟨raw,_,_,r3⟩:=jo h hm2;rcases r3 with⟨_,hx,_⟩|⟨hx,_⟩;subst hx;exact absurd hl (xM _);exact hx
  refine⟨λnm i k hk=>?_,λnm i k hk G b' hb' hi e=>?_,λnm i k G j h1 h2=>?_⟩;have notD:∀(hD:¬D k) (hent:∀u blk,s.mem.lookup u=some blk->(E u).isNil=false->(E u).b=k->OJ s.mem u=true) (hrow:∀u j,s'.mem.lookup u=none->cz s.sig.m E u j k->False),¬Y9 s.mem s'.mem D E k:=by
   rintro hD hent hrow (hd|⟨u,blk,A,k2,k3,X,k5⟩|⟨u,j,A,k2⟩);exact hD hd;rw[hent u blk A X k5.symm]at k3;cases k3;exact hrow u j A k2
  rcases src hk with g|⟨el,eli,t,xss,f,n2,blk,g1,g2,L,_,g4,g5,rfl⟩;obtain⟨q1,q2,q3⟩:=h.pv.own nm i k g;refine⟨q1,q2,notD q3 (λu blk A X k5=>(h.pv.ent nm i k g u blk A X k5).elim) λu j A k2=>?_⟩;obtain⟨e1,_⟩:=h.pv.inj nm i k u j g k2;subst e1;obtain⟨_,_,_,_,_,_,hx,_⟩:=hk;have hx':s'.mem.lookup nm=some _:=hx;rw[A]at hx';cases hx';have hi2:=aAm L g4 g5;obtain⟨q1,q2,q3⟩:=h.own f blk L hi2;refine⟨q1,q2,notD q3 (λu blk3 A X k5=>?_) λu j A k2=>h.pv.ent u j _ k2 f blk L hi2 rfl⟩;have:=h.inj u f blk3 blk A L X hi2 k5;subst this;exact foldIn _ _ _ _ _ _ _ _ g1;obtain⟨⟨e1,e2⟩,c1,A⟩:=keep G hi;rw[e1]at e;rcases src hk with g|⟨el,eli,t,xss,f,n2,blk,g1,g2,L,_,g4,g5,rfl⟩;exact h.pv.ent nm i k g G c1 A e2 e;have:=h.inj G f c1 blk A L e2 (aAm L g4 g5) e;subst this;have hb2:s'.mem.lookup G=some b':=hb';rw[g2]at hb2;cases hb2;rcases src h1 with g|⟨el,eli,t,xss,f,n2,blk,g1,g2,L,_,g4,g5,g6⟩<;>rcases src h2 with q|⟨el',eli',t',xss',nm2',n2',blk',q1,q2,q3,_,q4,q5,q6⟩
  exact h.pv.inj nm i k G j g q;exact(h.pv.ent nm i k g nm2' blk' q3 (aAm q3 q4 q5) q6.symm).elim;exact(h.pv.ent G j k q f blk L (aAm L g4 g5) g6.symm).elim;have:nm=G:=aAk hone (qu g1) (qu q1);subst this;rw[g1]at q1;cases q1;exact⟨rfl,rfl⟩
 refine⟨Y9 s.mem s'.mem D E,xN s.mem E,⟨h.sz,⟨h.df.1,λd hd=>?_⟩,λt=>?_,λnm b' hb'=>?_,λnm b' hb' hi=>?_,λnm G b b' hb hb' hi hi' e=>?_,h.low,λb hb=>?_,λb hb=>.inl (h.dlo b hb),λb hb=>?_,jB.mono (C:=⟨w,D,s.sig.m,E⟩) ⟨λb hb=>.inl hb,λ_ _=>rfl⟩ h.gl,lZ h hN hsv hnr h.svr,hpv⟩,λb hb=>.inl hb,λb hb=>?_,λb hb=>?_⟩;rcases h.df.2 d hd with g|⟨k,g1,g2,L,g4⟩;exact .inl g;exact .inr ⟨k,g1,g2,.inl L,g4⟩;show(s'.tm.getD t .top).rel S.P (ctx1 s s' w D E) (a.tmps.getD t undef);rw[qA];cases ht:s'.tm[t]? with
 |none=>trivial|some y=>
  obtain⟨x,ps,g1,g2,L⟩:=YX hp ht;have hx:(s.tm.getD t .top).rel S.P (OT s w D E) (a.tmps.getD t undef):=h.tm t;rw[qA,g1]at hx;exact l7 h hN g2 (λz hz=>hnp z (L z hz)) hx
 rcases LD hq hb' hnq with⟨b,ps,h1,h2,h3⟩|⟨h1,el,t,rfl⟩;exact aAv h hN h1 h2 h3;have ek:xN s.mem E nm=⟨0,0,true,noR⟩:=by unfold xN;rw[h1]
 rw[ek];exact⟨[],⟨by simp,.inl ⟨rfl,rfl⟩⟩,λi y hy=>by simp at hy⟩;obtain⟨⟨e1,e2⟩,b,hb⟩:=keep nm hi;rw[e1];obtain⟨g1,g2,L⟩:=h.own nm b hb e2;refine⟨g1,g2,λhd=>?_⟩;rcases hd with hd|⟨f,b2,A,k2,_,k3,X⟩|⟨f,i,A,k2⟩;exact L hd;have:nm=f:=h.inj nm f b b2 hb A e2 k3 X;subst this;have hb2:s'.mem.lookup nm=some b':=hb';rw[k2]at hb2;cases hb2;exact h.pv.ent f i _ k2 nm b hb e2 rfl;obtain⟨⟨e1,i1⟩,c1,h1⟩:=keep nm hi;obtain⟨⟨e2,i2⟩,c2,h2⟩:=keep G hi';rw[e1,e2]at e;exact h.inj nm G c1 c2 h1 h2 i1 i2 e;rcases hb with hb|⟨f,b2,A,k2,_,k3,X⟩|⟨f,i,A,k2⟩;exact h.dlt b hb;rw[X];exact(h.own f b2 A k3).2.1;exact(h.pv.own f i b k2).2.1;rcases hb with hb|⟨f,b2,A,k2,_,k3,X⟩|⟨f,i,A,k2⟩;exact h.dhi b hb;rw[X];exact .inr (h.own f b2 A k3).1;exact .inr (h.pv.own f i b k2).1;rcases hb with hb|⟨f,b2,A,k2,_,k3,X⟩|⟨f,i,A,k2⟩;exact .inl hb;exact .inr (.inl ⟨f,b2,A,k3,X⟩);exact .inr (.inr ⟨f,i,k2⟩);rcases hb with⟨nm,blk,g1,g2,L⟩|⟨nm,i,g⟩;obtain⟨⟨e1,e2⟩,c1,h1⟩:=keep nm g2;rw[e1]at L;exact .inl ⟨nm,c1,h1,e2,L⟩;rcases Rn (s:=s) (s':=s') (E:=E) hq hnq g with g|⟨el,eli,t,xss,f,n2,blk,g1,g2,L,_,g4,⟨el2,t2,zs,rfl⟩,g6⟩;exact .inr ⟨nm,i,g⟩;refine .inl ⟨f,_,L,?_,g6⟩;obtain⟨raw,_,_,r3⟩:=jo h L;rcases r3 with⟨_,hx,_⟩|⟨hx,_⟩;subst hx;exact absurd g4 (xM _);exact hx
theorem EJ{ns:List Ob}(h:Sim S s.sig a w)(hc:Ox s s'=some ns)(f:∀q∈ns,q):Sim S s'.sig a w:=by
 obtain⟨D,E,h⟩:=h;obtain⟨D',E',j,_⟩:=IY h hc f;exact⟨D',E',j⟩
end
end Go.Eng
namespace Go.Eng
open Go.RowKit
structure Spec where
 α:Type
 inv:α->Prop
 st:α->St
 μ:α->Nat
 fin:List α:=[]
structure Ann where
 loop:Nat->St->Option Spec
 pre:Nat->St->Option St
 cut:Nat->St->Option Spec
def all:List Ob->Prop->Prop|[],q=>q|p::ps,q=>p.p/\all ps q
theorem cy:∀{l:List Ob}{q:Prop},all l q->(∀p∈l,p)/\q
 |[],_,h=>⟨λ_ h=>absurd h List.not_mem_nil,h⟩|p::ps,q,h=>by
  obtain⟨j,g2⟩:=cy h.2;refine⟨λr f=>?_,g2⟩;rcases wY.1 f with e|e;exact e▸h.1;exact j r e
def leP(s s':St):Prop:=match Ox s s' with|some ns=>all ns True|none=>False
def eG:Code->Option Nat
 |.region id _ _=>some id|.seq a b=>match eG a with|some i=>some i|none=>eG b
 |.cond _ a b=>match eG a with|some i=>some i|none=>eG b
 |.block _ b=>eG b|.loop b=>eG b|.scope b=>eG b|.rangeFunc _ _ a b=>match eG a with|some i=>some i|none=>eG b
 |_=>none
def dstsOf:Code->List Tmp|.region _ ops _=>ops.toList.filterMap (·.dst)|.seq a b=>dstsOf a++dstsOf b|.cond _ a b=>dstsOf a++dstsOf b|.block _ b=>dstsOf b|.loop b=>dstsOf b|.scope b=>dstsOf b|_=>[]
def oJ:List Tmp->List AV->List AV|[],l=>l|t::ts,l=>oJ ts (l.set t .top)
def aBV:AV->AV|.val (.tuple _)=>.top|.grd _ _=>.top|a=>a
def MP(b:Code)(s:St):St:={s with tm:=oJ (dstsOf b) (s.tm.map aBV)}
def aCM(b:Code)(s:St):St:={MP b s with tm:=(MP b s).tm++s.tm}
def aFX(n:Nat)(s:St):St:={s with tm:=s.tm.take n}
def aCN(A:Ann)(id:Nat)(b:Code)(s:St):Option Spec:=match A.loop (id+1000000) (aCM b s)with|some sp=>some {α:=sp.α,inv:=sp.inv,st:=λx=>aFX s.tm.length (sp.st x),μ:=sp.μ}|none=>A.loop id (MP b s)
def XR(b:Bool)(p q:Prop):Prop:=(b=true->p)/\(b=false->q)
def TV:AV->Option (List Ob×Bool)|.dat .bool b=>some ([],b)|.grd g (.dat .bool b)=>some ([g=true],b)|_=>none
def aBA(c:Cfg)(ops:Array Oper)(draw:Bool)(s:St)(Q:St->Prop):Prop:=match aBB c ops draw s with|some (ns,s')=>all ns (Q s')|none=>False
def oD{α:Type}(xs:List α)(k:Nat)(x:α):Prop:=xs[k]?=some x
def setSlot(d:Option Tmp)(v:AV)(s:St):St:={s with tm:=match d with|some d=>s.tm.set d v|none=>s.tm}
def pW(d:Option Tmp)(n:Nat):Bool:=match d with|some d=>decide (d<n)|none=>true
def FY(r:Rec)(s:St):Bool:=match r.new with|some k=>unB k s|none=>true
def valOf:AV->Option Value
 |.dat t x=>match t,x with
  |.int k,x=>some (.int k x)|_,_=>none
 |.val v=>some v|_=>none
def aAD:Op->Bool|.panic _=>true|_=>false
def ve(c:Cfg)(o:Oper):Bool:=match o.op with|.panic _=>true|.call ⟨.value (.func f),_,_⟩=>c.pf f|_=>false
def jE(c:Cfg)(T:Nat->AV)(g:Bool)(args:List Operand):List (AV×List Ob):=args.map λx=>ug g (evT c.G T x)
def yd(c:Cfg)(T:Nat->AV)(m:Nat->Option Blk)(g:Bool)(o:Op):Option (List Ob×DC×List Nat):=match o with
 |.panic x=>match ug g (evT c.G T x)with
  |(.ifc t a,ns)=>match valOf a with
   |some v=>some (ns,⟨True,false,.iface t v⟩,[])|none=>none
  |_=>none
 |.call ⟨.value (.func f),args,_⟩=>if c.pf f&&goes c.P f then
   match c.KP f (yf c.P (kA c.P f) ((jE c T g args.toList).map (·.1))) (dS m (cL m (AV.namesL (yf c.P (kA c.P f) ((jE c T g args.toList).map (·.1))))))with
   |some r=>some ((jE c T g args.toList).flatMap (·.2),r,cL m (AV.namesL (yf c.P (kA c.P f) ((jE c T g args.toList).map (·.1)))))|none=>none
   else none
 |_=>none
def CS(ns:List Nat)(s:St):St:={s with mem:=s.mem.filter λp=>!ns.contains p.1}
def CU(ns:List Nat)(σ:Sig):Sig:=⟨σ.T,λk=>if ns.contains k=true then none else σ.m k,σ.sv⟩
theorem mo(ns:List Nat)(k:Nat):∀m:Mem,(m.filter λp=>!ns.contains p.1).lookup k=if ns.contains k=true then none else m.lookup k
 |[]=>by simp|p::m=>by
  obtain⟨q,b⟩:=p;simp only[yV];by_cases f:ns.contains q=true;simp only[f,kE,wZ,kX];rw[mo ns k m];by_cases e:k=q;subst e;rw[if_pos f,if_pos f];have:(k==q)=false:=by simpa using e
  simp only[List.lookup,this];have h:ns.contains q=false:=by simpa using f
  simp only[h,xG,kJ,List.lookup];by_cases e:k=q;subst e;rw[if_neg f];simp;have:(k==q)=false:=by simpa using e
  simp only[this];exact mo ns k m
theorem HS(ns:List Nat)(s:St):(CS ns s).sig=CU ns s.sig:=by
 have:(CS ns s).sig.m=(CU ns s.sig).m:=funext λk=>mo ns k s.mem;cases y:(CS ns s).sig with
 |mk T m sv=>
  cases u:CU ns s.sig with
  |mk z m' j=>
   have h:(CS ns s).sig.T=(CU ns s.sig).T:=rfl;have f:(CS ns s).sig.sv=(CU ns s.sig).sv:=rfl;rw[y,u]at this h f;simp only at this h f;rw[this,h,f]
theorem aL.dropped{S:Base}{σ:Sig}{a:Act}{w w':World}{D:Nat->Prop}{E:Nat->Ent}(h:aL S σ a w D E){ns:List Nat}(hc:Chg (bE (bG (dS σ.m ns)) E) w w'):aL S (CU ns σ) a w' D E:=by
 have mem:∀k,bG (dS σ.m ns) k=if k∈ns then σ.m k else none:=λk=>dR σ.m k ns;have X:∀b,bE (bG (dS σ.m ns)) E b->∃nm blk,nm∈ns/\σ.m nm=some blk/\(E nm).isNil=false/\b=(E nm).b:=λb ⟨nm,blk,f,g2,j⟩=>by
  rw[mem]at f;split at f;rename_i hin;exact⟨nm,blk,hin,f,g2,j⟩;cases f
 have A:∀nm b,(CU ns σ).m nm=some b->nm∉ns/\σ.m nm=some b:=λnm b hb=>by
  replace hb:(if ns.contains nm=true then none else σ.m nm)=some b:=hb;split at hb;cases hb;rename_i hn;exact⟨by simpa using hn,hb⟩
 refine h.go (m':=(CU ns σ).m) (D':=D) (E':=E) ⟨λ_ g=>g,λb hb=>hc.block b (h.dlt b hb) λg=>?_⟩ (λnm=>.inl λL z=>⟨L,(A nm L z).2,rfl,qN _,λ_=>rfl⟩)
  (λnm b hm=>?_) (λnm b hm hi=>?_) (λnm G b L hb z hi hi' e=>h.inj nm G b L (A nm b hb).2 (A G L z).2 hi hi' e)
  (h.low.step hc.os hc.tape hc.output hc.size λk hk hno=>hc.block k (qI hk h.low.size) λg=>?_) (λb hb=>qI (h.dlt b hb) hc.size) (λb hb=>.inl hb)
  (h.pv.step (λnm i b g=>?_) hc.size (λb hb=>.inl hb) λnm blk hm hi=>.inr ⟨nm,blk,(A nm blk hm).2,hi,rfl⟩)
 obtain⟨nm,blk,_,g2,j,u⟩:=X b g;exact(h.own nm blk g2 j).2.2 (u▸hb);obtain⟨k1,k2⟩:=A nm b hm;refine .inl ⟨k2,rfl,λhi=>hc.block _ (h.own nm b k2 hi).2.1 λg=>?_,λi k hr=>hc.block k (h.pv.lt k2 hr) λg=>?_⟩;obtain⟨y,blk,f,g2,j,u⟩:=X _ g;exact k1 (h.inj nm y b blk k2 g2 hi j u▸f);obtain⟨y,blk,f,g2,j,u⟩:=X _ g;exact h.pv.ent nm i k (aH.2 ⟨b,k2,hr⟩) y blk g2 j u.symm;obtain⟨k1,k2⟩:=A nm b hm;obtain⟨f,g2,j⟩:=h.own nm b k2 hi;exact⟨f,qI g2 hc.size,j⟩;obtain⟨nm,blk,f,g2,j,u⟩:=X _ g;rcases(h.own nm blk g2 j).1 with q|q;rw[<- u]at q;omega;rw[<- u]at q;exact hno q;obtain⟨bb,f,g2⟩:=aH.1 g;exact aH.2 ⟨bb,(A nm bb f).2,g2⟩
def YE(c:Cfg)(ops:Array Oper):List Oper->St->(Exit->St->Prop)->Prop
 |[],s,Q=>Q .normal s|o::os,s,Q=>match PI s.sig.T ops o.guard with
  |some g=>match yd c s.sig.T s.sig.m g o.op with
   |some (ns,r,nms)=>(g=true->all ns (r.pre/\(r.ok=false->Q (.panic (chainOf r.pan)) (CS nms s))))/\
     (if aAD o.op=true then(if o.guard.isNone=true then True else pW o.dst s.tm.length=true/\(g=false->YE c ops os (setSlot o.dst (.grd g .top) s) Q))
      else match iM c.P c.G c.K (c.mt o) ops s.nx s.sig o with
      |some q=>if jM q s.tm.length=true/\FY q s=true then(g=true->r.ok=true)->all q.need (YE c ops os (dc q s) Q)else False|none=>False)
   |none=>match iM c.P c.G c.K (c.mt o) ops s.nx s.sig o with
    |some q=>if jM q s.tm.length=true/\FY q s=true then all q.need (YE c ops os (dc q s) Q)else False|none=>False
  |none=>False
def Ry(tbl:List Nat)(q:Nat)(rs:List Rec):Bool:=(List.range rs.length).all λj=>j==q||(tbl.getD j 0).testBit q||((rs.getD j dflt).upd.isEmpty&&(rs.getD j dflt).new.isNone)
def Gx(tbl:List Nat)(q:Nat)(rs:List Rec):List Ob:=(List.range rs.length).flatMap λj=>if(j==q||(tbl.getD j 0).testBit q)=true then[]else(rs.getD j dflt).need
def ZI(ops:Array Oper)(s:St):St:={s with tm:=oJ (ops.toList.filterMap (·.dst)) s.tm}
def aAV(c:Cfg)(ops:Array Oper)(s:St)(Q:Exit->St->Prop):Prop:=match td c ops ops.toList s,ops[ops.toList.findIdx (ve c)]? with
 |some rs,some o=>if BI true (qg [] ops.toList) s rs=true/\rR (qg [] ops.toList) ops.toList rs=true/\Ry (qg [] ops.toList) (ops.toList.findIdx (ve c)) rs=true/\o.guard.isNone=true then
   match yd c (qk rs s (ops.toList.findIdx (ve c))).sig.T s.sig.m true o.op with
   |some (ns,r,nms)=>all (Gx (qg [] ops.toList) (ops.toList.findIdx (ve c)) rs) (all ns (r.pre/\(r.ok=true->all (rs.flatMap (·.need)) (Q .normal (qk rs s rs.length)))/\(r.ok=false->Q (.panic (chainOf r.pan)) (ZI ops (CS nms s)))))|none=>False
  else False
 |_,_=>False
def aD1(c:Cfg)(ops:Array Oper)(draw:Bool)(s:St)(Q:Exit->St->Prop):Prop:=
 if ops.toList.any (ve c)=true then(if draw=true then aAV c ops s Q else YE c ops ops.toList s Q)else aBA c ops draw s (Q .normal)
def uq(p:Tmp)(t:Ty)(y:t.den)(s:St):St:={s with tm:=s.tm.set p (.dat t y),sv:=s.tm}
def aD7:Ty->Bool|.pair _ _=>true|_=>false
def rQ(t:Ty)(x:t.den):AV:=if aD7 t then .agg (cellsOf t x)else .dat t x
def Jd:(t:Ty)->t.den->List AV|.pair a b,x=>[rQ a x.1,rQ b x.2]|t,x=>[.dat t x]
def Io:List Tmp->List AV->List AV->List AV|p::ps,v::vs,tm=>Io ps vs (tm.set p v)|_,_,tm=>tm
def E0(ps:List Tmp)(t:Ty)(y:t.den)(s:St):St:={s with tm:=Io ps (Jd t y) s.tm,sv:=s.tm++s.sv}
def nO(s:St):St:={s with tm:=s.sv.take s.tm.length,sv:=s.sv.drop s.tm.length}
def t7(s:St):St:={s with tm:=s.sv,sv:=[]}
def one1(t:Ty):Bool:=!aD7 t&&decide (t.sz=1)
def Ru(t:Ty)(n:Nat):Bool:=match t with|.pair _ _=>n==2|t=>n==1&&decide (t.sz=1)
def yi:Nat:=1000000
def yk:Ty->Bool|.int _=>true|.bool=>true|_=>false
def Xd(m:Mem):AV->AV
 |.ptr nm 1 0 0=>match m.lookup nm with
  |some (.var cs)=>.ips (sX cs)|_=>.top
 |.ipv a=>.ipv (Xd m a)|a=>jX a
def BV(m:Mem)(l:List AV):List AV:=l.map (Xd m)
def Aj(G:List (Nat×AV))(g:Operand)(gf:FuncId)(s:St):Option (List AV):=match evT G s.sig.T g with|.fn gf' caps=>if gf'=gf then some (BV s.mem caps)else none|_=>none
def aCX(c:Cfg)(m:Mem)(gf:FuncId)(caps:List AV):Option iJ:=if(AV.namesL caps).isEmpty=true then c.KI gf caps else c.KI (gf+yi) (BV m caps)
def GG(G:List (Nat×AV))(g:Operand)(gf:FuncId)(caps:List AV)(m:Mem){α:Type}(inv:α->Prop)(st:α->St)(t:Ty)(X:Prop):Prop:=
 if(AV.namesL caps).isEmpty=true then X else yk t=true/\(∀x,inv x->Aj G g gf (st x)=some (BV m caps))/\X
def S9(P:Program)(f:FuncId):Bool:=goes P f&&decide (f<yi)
def aFR{α:Type}(R:α->Prop):List α->Prop|[]=>True|x::l=>R x/\aFR R l
def aGx{α:Type}(inv R:α->Prop):List α->Prop|[]=>∀x,inv x->R x|x::l=>(∀y,inv y->y∈x::l)/\aFR (λy=>inv y->R y) (x::l)
theorem TA{α:Type}{R:α->Prop}:∀{l:List α},aFR R l->∀x∈l,R x
 |y::l,h,x,f=>by
  rcases wY.1 f with rfl|g;exact h.1;exact TA h.2 x g
theorem Yh{α:Type}{inv R:α->Prop}{l:List α}(h:aGx inv R l):∀x,inv x->R x:=by
 cases l with
 |nil=>exact h|cons y l=>exact λx f=>TA h.2 x (h.1 x f) f
def aDZ(c:Cfg)(EA EB:St->(Exit->St->Prop)->Prop)(le:St->St->Prop)(g:Operand)(ps:List Tmp)(s:St)(gf:FuncId)(caps:List AV)(it:iJ)(sp:Spec)(Q:Exit->St->Prop):Prop:=
 if S9 c.P gf&&decide (s.sv.length<s.tm.length)&&c.rng&&Ru it.t ps.length&&ps.all (λp=>decide (p<s.tm.length))then
  GG c.G g gf caps s.mem sp.inv sp.st it.t (it.pre/\(∃x,sp.inv x/\sp.μ x=0/\le s (sp.st x))/\
  (∀x y,sp.inv x->oD it.L (sp.μ x) y->EA (E0 ps it.t y (sp.st x)) (λe s1=>match e with
   |.normal=>EB s1 (λe s2=>match e with
    |.normal=>∃z,sp.inv z/\sp.μ z=sp.μ x+1/\le (nO s2) (sp.st z)|.ret=>Q .ret (nO s2)|.exit i=>Q (.exit i) (nO s2)|.panic ch=>Q (.panic ch) (nO s2)|_=>False)
   |_=>False))/\
  (∀x,sp.inv x->sp.μ x=it.L.length->Q .normal (sp.st x)))
 else False
def evO(c:Cfg)(A:Ann):Code->St->(Exit->St->Prop)->Prop
 |.skip,s,Q=>Q .normal s|.region id ops draw,s,Q=>match A.pre id s with
  |none=>aD1 c ops draw s Q|some s1=>match Ox s s1 with
   |some ms=>all ms (aD1 c ops draw s1 Q)|none=>False
 |.seq a b,s,Q=>match eG b with
  |some id=>match A.cut id s with
   |some sp=>evO c A a s (λe s'=>match e with|.normal=>∃y,sp.inv y/\leP s' (sp.st y)|e=>Q e s')/\∀x,sp.inv x->evO c A b (sp.st x) Q
   |none=>evO c A a s (λe s'=>match e with|.normal=>evO c A b s' Q|e=>Q e s')
  |none=>evO c A a s (λe s'=>match e with|.normal=>evO c A b s' Q|e=>Q e s')
 |.cond t a b,s,Q=>match TV (evT c.G s.sig.T t)with
  |some (ns,x)=>all ns (XR x (evO c A a s Q) (evO c A b s Q))|none=>False
 |.block id b,s,Q=>evO c A b s (λe s'=>match e with|.exit id'=>if id'=id then Q .normal s' else Q (.exit id') s'|e=>Q e s')
 |.exit id,s,Q=>Q (.exit id) s|.scope b,s,Q=>evO c A b s (λe s'=>match e with|.goto _=>False|e=>Q e s')
 |.label _,s,Q=>Q .normal s|.ret,s,Q=>Q .ret s|.loop b,s,Q=>match eG b with
  |some id=>match aCN A id b s with
   |some sp=>(∃x,sp.inv x/\leP s (sp.st x))/\aGx sp.inv (λx=>evO c A b (sp.st x) (λe s'=>match e with|.normal=>∃y,sp.inv y/\leP s' (sp.st y)/\sp.μ y<sp.μ x|e=>Q e s')) sp.fin
   |none=>False
  |none=>False
 |.rangeFunc g ps as b,s,Q=>match evT c.G s.sig.T g,eG (.seq as b)with
  |.fn gf caps,some id=>match aCX c s.mem gf caps,A.loop id s with
   |some it,some sp=>aDZ c (λs Q=>evO c A as s Q) (λs Q=>evO c A b s Q) leP g ps.toList s gf caps it sp Q|_,_=>False
  |_,_=>False
 |_,_,_=>False
def Jh(ns:List Ob):Bool:=ns.all (·.b)
theorem jN{ns:List Ob}(h:Jh ns=true):∀p∈ns,p:=λp f=>p.h (qU.1 h p f)
mutual
def AV.same:AV->AV->Bool|.top,.top=>true|.dat t x,.dat t' y=>if h:t'=t then t.eqb x (h▸y)else false|.ip t x,.ip t' y=>if h:t'=t then t.eqb x (h▸y)else false|.ips a,.ips b=>AV.sameL a b|.agg a,.agg b=>AV.sameL a b|.tup a,.tup b=>AV.sameL a b|.ipv a,.ipv b=>AV.same a b|_,_=>false
def AV.sameL:List AV->List AV->Bool|[],[]=>true|a::as,b::bs=>AV.same a b&&AV.sameL as bs|_,_=>false
end
mutual
def aFP(m:Mem)(nms:List Nat):AV->AV
 |.ptr nm g i c=>if nms.contains nm then match m.lookup nm with
  |some (.var [.dat t x])=>.ip t x|some (.var [v])=>if v.names.isEmpty then .ipv v else .top|some (.buf _ t xs [])=>.ia t xs|_=>.top
  else .ptr nm g i c
 |.buf nm n=>if nms.contains nm then match m.lookup nm with
  |some (.buf _ t xs [])=>.dat (.sl t) xs|some (.mat _ _ e xss [])=>.dat (.sl (.sl e)) xss|some (.buf _ (.sl e) xs [(i,.buf nm2 _)])=>match m.lookup nm2 with
   |some (.buf _ e' zs [])=>if h:e'=e then .dat (.sl (.sl e)) (Ep (α:=List e.den) xs i (h▸zs))else .top|_=>.top
  |_=>.top
  else .buf nm n
 |.agg cs=>.agg (aEa m nms cs)|.tup cs=>.tup (aEa m nms cs)|a=>if a.names.any nms.contains then .top else a
def aEa(m:Mem)(nms:List Nat):List AV->List AV|[]=>[]|a::as=>aFP m nms a::aEa m nms as
end
def aG2(m:Mem)(nms:List Nat):Blk->Blk|.var cs=>.var (aEa m nms cs)|b=>b
def frz(nms:List Nat)(s:St):St:={s with tm:=s.tm.map (λa=>aFP s.mem nms (aBV a)),mem:=(s.mem.filter λp=>!nms.contains p.1).map λp=>(p.1,aG2 s.mem nms p.2)}
def aGY:Blk->List Nat|.buf _ _ _ [(_,.buf nm _)]=>[nm]|.mat _ _ _ _ [(_,.buf nm _)]=>[nm]|_=>[]
def aC7(m:Mem):Blk->Blk
 |.buf el (.sl e) xs [(i,.buf nm n)]=>match m.lookup nm with
  |some (.buf _ e' zs [])=>if h:e'=e then .buf el (.sl e) (Ep (α:=List e.den) xs i (h▸zs)) []else .buf el (.sl e) xs [(i,.buf nm n)]|_=>.buf el (.sl e) xs [(i,.buf nm n)]
 |.mat el eli e xs [(i,.buf nm n)]=>match m.lookup nm with
  |some (.buf _ e' zs [])=>if h:e'=e then .mat el eli e (Ep (α:=List e.den) xs i (h▸zs)) []else .mat el eli e xs [(i,.buf nm n)]|_=>.mat el eli e xs [(i,.buf nm n)]
 |b=>b
def aFQ(s:St):St:=match s.mem.flatMap λp=>aGY p.2 with|[]=>frz (s.mem.map (·.1)) s|l=>{s with tm:=s.tm.map (λa=>if a.names.any l.contains then .top else a),mem:=(s.mem.filter λp=>!l.contains p.1).map λp=>(p.1,aC7 s.mem p.2)}
def DG(c:Cfg)(ops:Array Oper)(draw:Bool)(s:St):Option (Exit×St):=if ops.toList.any (ve c)=true then none else match aBB c ops draw s with|some (ns,s')=>if Jh ns=true then some (.normal,s')else none|none=>none
def ES(c:Cfg)(ops:Array Oper)(draw:Bool)(s s1:St):Option (Exit×St):=match Ox s s1 with|some ms=>if Jh ms=true then DG c ops draw s1 else none|none=>none
def VX(f:St->Option (Exit×St)):Nat->St->Option (Exit×St)
 |0,_=>none|n+1,s=>match f s with
  |some (.normal,s')=>VX f n s'|r=>r
def UQ(fa fb:St->Option (Exit×St))(chk:St->Bool)(ps:List Tmp)(t:Ty):List t.den->St->Option (Exit×St)
 |[],s=>if chk s=true then some (.normal,s)else none|y::L,s=>if chk s=true then match fa (E0 ps t y s)with
  |some (.normal,s1)=>match fb s1 with
   |some (.normal,s2)=>UQ fa fb chk ps t L (nO s2)|some (.ret,s2)=>some (.ret,nO s2)|some (.exit i,s2)=>some (.exit i,nO s2)|_=>none
  |_=>none else none
def Jw(G:List (Nat×AV))(g:Operand)(gf:FuncId)(caps:List AV)(m:Mem)(s:St):Bool:=(AV.namesL caps).isEmpty||match Aj G g gf s with|some l=>AV.sameL l (BV m caps)|none=>false
def run(c:Cfg)(A:Ann)(n:Nat):Code->St->Option (Exit×St)
 |.skip,s=>some (.normal,s)|.region id ops draw,s=>match A.pre id s with
  |none=>match DG c ops draw s with
   |some r=>some r|none=>ES c ops draw s (aFQ s)
  |some s1=>ES c ops draw s s1
 |.seq a b,s=>match run c A n a s with
  |some (.normal,s')=>run c A n b s'|r=>r
 |.cond t a b,s=>match TV (evT c.G s.sig.T t)with
  |some (ns,x)=>if Jh ns=true then(match x with|true=>run c A n a s|false=>run c A n b s)else none
  |none=>none
 |.block id b,s=>match run c A n b s with
  |some (.exit id',s')=>if id'=id then some (.normal,s')else some (.exit id',s')|r=>r
 |.exit id,s=>some (.exit id,s)|.scope b,s=>match run c A n b s with
  |some (.goto _,_)=>none|r=>r
 |.label _,s=>some (.normal,s)|.ret,s=>some (.ret,s)|.loop b,s=>VX (λs=>run c A n b s) n s|.rangeFunc g ps as b,s=>match evT c.G s.sig.T g with
  |.fn gf caps=>match aCX c s.mem gf caps with
   |some it=>if S9 c.P gf&&decide (s.sv.length<s.tm.length)&&c.rng&&Ru it.t ps.toList.length&&ps.toList.all (λp=>decide (p<s.tm.length))&&(((AV.namesL caps).isEmpty||yk it.t)&&it.pre.b)then
     UQ (λs=>run c A n as s) (λs=>run c A n b s) (Jw c.G g gf caps s.mem) ps.toList it.t it.L s
    else none
   |none=>none
  |_=>none
 |_,_=>none
def aG9:Nat:=1000000
def PL(pre:Nat->St->Option St):Ann:=⟨λ_ _=>none,pre,λ_ s=>some ⟨Unit,λ_=>True,λ_=>s,λ_=>0,[]⟩⟩
def ev(c:Cfg)(A:Ann)(x:Code)(s:St)(Q:Exit->St->Prop):Prop:=match A.cut aG9 s with
 |none=>evO c A x s Q|some _=>match run c A 1000 x s with
  |some (e,s')=>Q e s'|none=>False
theorem mN{s s':St}{ns:List Ob}(h:Ox s s'=some ns):s.tm.length=s'.tm.length:=by
 unfold Ox at h;split at h;rename_i f;exact f.1;cases h
theorem vk{s s':St}(h:leP s s'):s.tm.length=s'.tm.length:=by
 unfold leP at h;split at h;rename_i ns f;exact mN f;exact h.elim
theorem BX{S:Base}{s s':St}{a:Act}{w:World}(f:leP s s')(h:Sim S s.sig a w):Sim S s'.sig a w:=by
 unfold leP at f;split at f;rename_i ns j;exact EJ h j (cy f).1;exact f.elim
abbrev noV:Nat->Prop:=λ_=>False
def lI(P:Program)(G:List (Nat×AV))(gf:FuncId)(caps:List AV)(it:iJ):Prop:=
 it.pre->∀(l:Nat) (J:Nat->World->(Nat->Prop)->(Nat->Prop)->Prop) (JX:World->(Nat->Prop)->(Nat->Prop)->Prop) (JP:List PanicEntry->World->(Nat->Prop)->(Nat->Prop)->Prop) (w:World) (D:Nat->Prop) (us:Lv),
  (∀b,D b->b<w.heap.size)->jB P ⟨w,D,noM,noE⟩ G->AV.relL P ⟨w,D,noM,noE⟩ caps us->
  (∀k w1 w2 D1 V,J k w1 D1 V->Below w1.heap.size w1 w2->∀X:Nat->Prop,J k w2 (λb=>D1 b\/(gi w1 w2 b/\¬X b)) (λb=>V b\/(gi w1 w2 b/\X b)))->
  (∀k w1 (D1 D2 V V2:Nat->Prop),J k w1 D1 V->(∀b,D2 b->D1 b)->(∀b,V2 b->V b)->J k w1 D2 V2)->
  (∀k w1 w2 D1 V,J k w1 D1 V->Chg V w1 w2->w2.heap.size=w1.heap.size->J k w2 D1 V)->
  (∀w1 w2 D1 V,JX w1 D1 V->Below w1.heap.size w1 w2->∀X:Nat->Prop,JX w2 (λb=>D1 b\/(gi w1 w2 b/\¬X b)) (λb=>V b\/(gi w1 w2 b/\X b)))->
  (∀w1 (D1 D2 V V2:Nat->Prop),JX w1 D1 V->(∀b,D2 b->D1 b)->(∀b,V2 b->V b)->JX w1 D2 V2)->
  (∀w1 w2 D1 V,JX w1 D1 V->Chg V w1 w2->w2.heap.size=w1.heap.size->JX w2 D1 V)->
  (∀ch w1 w2 D1 V,JP ch w1 D1 V->Chg V w1 w2->w2.heap.size=w1.heap.size->JP ch w2 D1 V)->
  (∀k y W D1 V vs,it.L[k]?=some y->J k W D1 V->(∀b,D1 b->b<W.heap.size)->AV.relL P ⟨W,D1,noM,noE⟩ (Jd it.t y) vs->YieldAt Fence.wide 0 P l vs.toArray W λe W' =>
   W.heap.size<=W'.heap.size/\(∀b,D1 b\/V b->W'.heap[b]?=W.heap[b]?)/\((e=.returned (.bool true)/\J (k+1) W' D1 V)\/(e=.returned (.bool false)/\JX W' D1 V)\/∃ch,e=.panicked ch/\JP ch W' D1 V))->
  J 0 w D noV->
  CallsIn Fence.wide 0 P gf (#[.func (.yield l) #[] #[]]++us.toArray) w λe W'=>((∃v,e=.returned v)/\((∃D2,J it.L.length W' D2 noV)\/∃D2,JX W' D2 noV))\/∃ch,e=.panicked ch/\∃D2 V2,JP ch W' D2 V2
def IB(P:Program)(G:List (Nat×AV))(gf:FuncId)(caps:List AV)(it:iJ):Prop:=
 it.pre->∀(l:Nat) (J:Nat->World->Prop) (JX:World->Prop) (JP:List PanicEntry->World->Prop) (w:World) (us:Lv),
  (∀k w1,J k w1->∃D:Nat->Prop,(∀b,D b->b<w1.heap.size)/\jB P ⟨w1,D,noM,noE⟩ G/\AV.relL P ⟨w1,D,noM,noE⟩ caps us)->
  (∀w1,JX w1->∃D:Nat->Prop,(∀b,D b->b<w1.heap.size)/\jB P ⟨w1,D,noM,noE⟩ G)->
  (∀k w1 w2,J k w1->Below w1.heap.size w1 w2->J k w2)->
  (∀w1 w2,JX w1->Below w1.heap.size w1 w2->JX w2)->
  (∀k y W u,it.L[k]?=some y->J k W->af W noV it.t y [u]->YieldAt Fence.wide 0 P l #[u] W λe W' =>
   W.heap.size<=W'.heap.size/\((e=.returned (.bool true)/\J (k+1) W')\/(e=.returned (.bool false)/\JX W')\/∃ch,e=.panicked ch/\JP ch W'))->
  J 0 w->
  CallsIn Fence.wide 0 P gf (#[.func (.yield l) #[] #[]]++us.toArray) w λe W'=>((∃v,e=.returned v)/\(J it.L.length W'\/JX W'))\/∃ch,e=.panicked ch/\JP ch W'
def aR(P:Program)(G:List (Nat×AV))(KI:FuncId->List AV->Option iJ):Prop:=∀gf caps it,KI gf caps=some it->if gf<yi then lI P G gf caps it else IB P G (gf-yi) caps it
theorem aR.at{P:Program}{G:List (Nat×AV)}{KI:FuncId->List AV->Option iJ}(h:aR P G KI){gf:FuncId}{caps:List AV}{it:iJ}(j:gf<yi)(f:KI gf caps=some it):lI P G gf caps it:=by
 have:=h gf caps it f;rwa [if_pos j]at this
theorem aAC{q:Nat->Prop}{p:Prop}{g N:Nat}(h:if g+N<N then p else q (g+N-N)):q g:=by
 rw[if_neg Z,qCf]at h;exact h
theorem aR.lent{P:Program}{G:List (Nat×AV)}{KI:FuncId->List AV->Option iJ}(h:aR P G KI){gf:FuncId}{caps:List AV}{it:iJ}(f:KI (gf+yi) caps=some it):IB P G gf caps it:=by
 unfold aR at h;generalize yi=N at h f;exact aAC (q:=λg=>IB P G g caps it) (h _ caps it f)
section
variable {S:Base}{c:Cfg}
theorem Sim.draw{σ:Sig}{a:Act}{w:World}(h:Sim S σ a w):Sim S σ a {w with drawn:=w.drawn+1}:=by
 obtain⟨D,E,h⟩:=h;exact⟨D,E,h.world (D':=D) (by constructor<;>first|rfl|exact qN _|exact λ_ _=>rfl|exact Nat.le_succ _) (λb=>⟨.inl,λg=>g.elim id (·.2)⟩) h.dlt⟩
theorem I9{ops:Array Oper}{draw:Bool}{s s':St}{ns:List Ob}(h:aBB c ops draw s=some (ns,s')):s'.tm.length=s.tm.length:=by
 unfold aBB at h;split at h;rename_i rs _;dsimp only at h;generalize (if draw=true then qg [] ops.toList else[])=f at h;by_cases j:BI draw f s rs=true/\(draw=true->rR f ops.toList rs=true);rw[if_pos j]at h;cases h;exact oS _ _ _;rw[if_neg j]at h;cases h;cases h
theorem Ri(hP:c.P=S.P)(hG:c.G=S.G)(X:ay S.P S.G c.K)(hm:S.P.follows .mixedOrders=true){id:Nat}{ops:Array Oper}{draw:Bool}{s s':St}{ns:List Ob}(h:aBB c ops draw s=some (ns,s'))(hn:∀q∈ns,q)
  (hl:s.tm.length=S.N) {a:Act}{w:World} (hs:Sim S s.sig a w) {Q:Exit->Act->World->Prop} (hQ:∀a' w',Sim S s'.sig a' w'->Q .normal a' w'):(Code.region id ops draw).wpIn S.F 0 S.P Q a w:=by
 unfold aBB at h;split at h;case h_2=>cases h
 rename_i rs z;dsimp only at h;generalize (if draw=true then qg [] ops.toList else[])=u at h;by_cases f:BI draw u s rs=true/\(draw=true->rR u ops.toList rs=true);case neg=>rw[if_neg f]at h;cases h
 rw[if_pos f]at h;cases h;obtain⟨P,G,K,mb,KI,rng,KP,pf⟩:=c;simp only at hP hG X;subst hP hG;obtain⟨y,L⟩:=I2 z;have H:Iy S K mb ops s rs:=⟨by simpa using y,λj o r ho A=>L j o r (by simpa using ho) A,hl,λj r A q hq=>hn q (yU.2 ⟨r,qY A,hq⟩)⟩;cases draw with
 |false=>exact FG X H f.1 hs hQ|true=>exact uz X hm H f.1 (f.2 rfl) hs.draw hQ
theorem aL.putL{σ:Sig}{a:Act}{w:World}{D:Nat->Prop}{E:Nat->Ent}(h:aL S σ a w D E){l:Nat}(o:Obj)(G:S.w0.heap.size<=l)(z:¬D l)(u:¬aC σ.m E l):aL S σ a (w.putObj l o) D E:=by
 have same:∀k,k≠l->(w.putObj l o).heap[k]?=w.heap[k]?:=λk j=>World.putObj_heap_other j;exact h.go (m':=σ.m) ⟨λ_ g=>g,λb hb=>same b λe=>z (e▸hb)⟩ (λk=>.inl λA f=>⟨A,f,rfl,qN _,λ_=>rfl⟩)
  (λnm b hm=>.inl ⟨hm,rfl,λhi=>same _ λe=>u (.inl ⟨nm,b,hm,hi,e.symm⟩),λi k y=>same k λe=>u (.inr ⟨nm,i,aH.2 ⟨b,hm,e▸y⟩⟩)⟩) (λnm b hm hi=>by simpa using h.own nm b hm hi) h.inj
  (h.low.step rfl rfl rfl (by simp) λk j _=>same k Z) (λb hb=>by simpa using h.dlt b hb) (λb hb=>.inl hb)
  (h.pv.step (λ_ _ _ g=>g) (by simp) (λ_ g=>.inl g) λnm b hm hi=>.inr ⟨nm,b,hm,hi,rfl⟩)
theorem aL.lay{σ:Sig}{a:Act}{w w':World}{D:Nat->Prop}{E:Nat->Ent}(h:aL S σ a w D E){V:Nat->Prop}(hc:Chg V w w')(j:w'.heap.size=w.heap.size)(f:∀b,V b->S.w0.heap.size<=b/\¬D b/\¬aC σ.m E b):aL S σ a w' D E:=by
 have lt:∀nm b,σ.m nm=some b->(E nm).isNil=false->(E nm).b<w.heap.size:=λnm b hm hi=>(h.own nm b hm hi).2.1;exact h.go (m':=σ.m) ⟨λ_ g=>g,λb hb=>hc.block b (h.dlt b hb) λg=>(f b g).2.1 hb⟩ (λk=>.inl λA u=>⟨A,u,rfl,qN _,λ_=>rfl⟩)
  (λnm b hm=>.inl ⟨hm,rfl,λhi=>hc.block _ (lt nm b hm hi) λg=>(f _ g).2.2 (.inl ⟨nm,b,hm,hi,rfl⟩),λi k y=>hc.block k (h.pv.lt hm y) λg=>(f _ g).2.2 (.inr ⟨nm,i,aH.2 ⟨b,hm,y⟩⟩)⟩)
  (λnm b hm hi=>by rw[j];exact h.own nm b hm hi) h.inj
  (h.low.step hc.os hc.tape hc.output hc.size λk z _=>hc.block k (qI z h.low.size) λg=>by have:=(f k g).1;omega) (λb hb=>by rw[j];exact h.dlt b hb) (λb hb=>.inl hb)
  (h.pv.step (λ_ _ _ g=>g) (yI j.symm) (λ_ g=>.inl g) λnm b hm hi=>.inr ⟨nm,b,hm,hi,rfl⟩)
theorem aL.enter{σ:Sig}{a:Act}{w:World}{D:Nat->Prop}{E:Nat->Ent}(h:aL S σ a w D E)(l:Nat){tm:Nat->AV}{tmps:Array Value}(j:tmps.size=S.N)
  (f:∀t,(tm t).rel S.P ⟨w,D,σ.m,E⟩ (tmps.getD t undef)) {sv:List AV}{vs:Lv} (u:AV.relL S.P ⟨w,D,σ.m,E⟩ sv vs):
  aL {P:=S.P,w0:=w,D0:=D,N:=S.N,O:=aC σ.m E,G:=S.G,sv:=vs,rd:=some l,nod:=true} ⟨tm,σ.m,sv⟩ {tmps:=tmps,defers:=[]} w D E:=
 ⟨j,⟨⟨λ_=>rfl,⟨[],rfl⟩,xA⟩,λd hd=>by cases hd⟩,f,h.bl,λnm b hm hi=>⟨.inr (.inl ⟨nm,b,hm,hi,rfl⟩),(h.own nm b hm hi).2⟩,h.inj,Chg.refl _ _,h.dlt,λ_ g=>g,λ_ g=>.inl g,h.gl,u,
  ⟨λnm i b g=>⟨.inr (.inr ⟨nm,i,g⟩),(h.pv.own nm i b g).2⟩,h.pv.ent,h.pv.inj⟩⟩
theorem aL.again{σ:Sig}{a:Act}{w:World}{D:Nat->Prop}{E:Nat->Ent}(h:aL S σ a w D E){l:Nat}(o:Obj)(j:S.gd=[])(f:a.defers=[])(G:¬D l)(y:¬aC σ.m E l):
  aL {S with w0:=w.putObj l o,D0:=D,O:=aC σ.m E} σ a (w.putObj l o) D E:=by
 have same:∀k,k≠l->(w.putObj l o).heap[k]?=w.heap[k]?:=λk A=>World.putObj_heap_other A;have L:Later ⟨w,D,σ.m,E⟩ ⟨w.putObj l o,D,σ.m,E⟩:=⟨λ_ g=>g,λb hb=>same b λe=>G (e▸hb)⟩;have nm:∀k,mH ⟨w,D,σ.m,E⟩ ⟨w.putObj l o,D,σ.m,E⟩ k:=λk X u=>⟨X,u,rfl,qN _,λ_=>rfl⟩;refine⟨h.sz,⟨⟨λ_=>f.trans j.symm,⟨[],f.trans j.symm⟩,by rw[f];exact xA⟩,λd hd=>by rw[f]at hd;cases hd⟩,λt=>AV.rel_mono L (λk _=>nm k) (h.tm t),λk b hm=>?_,λk b hm hi=>⟨.inr (.inl ⟨k,b,hm,hi,rfl⟩),by simpa using(h.own k b hm hi).2⟩,h.inj,Chg.refl _ _,
  λb hb=>by simpa using h.dlt b hb,λ_ g=>g,λ_ g=>.inl g,h.gl.mono L,AV.relL_mono L (λk _=>nm k) h.svr,
  ⟨λnm i b g=>⟨.inr (.inr ⟨nm,i,g⟩),by simpa using(h.pv.own nm i b g).2⟩,h.pv.ent,h.pv.inj⟩⟩
 exact dG.mono L (λk _=>nm k) (λhi=>same _ λe=>y (.inl ⟨k,b,hm,hi,e.symm⟩)) (λi r z=>same r λe=>y (.inr ⟨k,i,aH.2 ⟨b,hm,e▸z⟩⟩)) (h.bl k b hm)
theorem aL.leave{f:Base}{σ:Sig}{a a0:Act}{w:World}{D:Nat->Prop}{E:Nat->Ent}(h:aL f σ a w D E)(hP:f.P=S.P)(hG:f.G=S.G)(hv:f.sv=a0.tmps.toList)(y:a0.tmps.size=S.N)
  (hO:∀b,f.w0.heap.size<=b\/f.O b->S.w0.heap.size<=b\/S.O b) (j:Chg S.O S.w0 w) (X:∀b,S.D0 b->D b) (A:∀b,D b->S.D0 b\/S.w0.heap.size<=b\/S.O b) (L:Marks S.nod S.w0.heap.size D w S.gd a0.defers)
  (z:S.sv=[]):aL S ⟨λt=>σ.sv.getD t .top,σ.m,[]⟩ a0 w D E:=by
 refine⟨y,L,λt=>?_,λnm b hm=>hP▸h.bl nm b hm,λnm b hm hi=>⟨hO _ (h.own nm b hm hi).1,(h.own nm b hm hi).2⟩,h.inj,j,h.dlt,X,A,?_,?_,⟨λnm i b g=>⟨hO _ (h.pv.own nm i b g).1,(h.pv.own nm i b g).2⟩,h.pv.ent,h.pv.inj⟩⟩;have hl:=h.svr;rw[hv,hP]at hl;show(σ.sv.getD t .top).rel S.P ⟨w,D,σ.m,E⟩ _;rw[qA];cases hx:σ.sv[t]? with
 |none=>trivial|some x=>
  obtain⟨u,g1,g2⟩:=AV.relL_get hl hx;have:a0.tmps.getD t undef=u:=by
   rw[vG];simp only[yA]at g1;rw[g1];rfl
  rw[this];exact g2
 have:=h.gl;rw[hP,hG]at this;exact this;rw[z];rfl
theorem aL.leaveN{j:Base}{σ:Sig}{a a0:Act}{w:World}{D:Nat->Prop}{E:Nat->Ent}(h:aL j σ a w D E)(hP:j.P=S.P)(hG:j.G=S.G)(hv:j.sv=a0.tmps.toList++S.sv)(y:a0.tmps.size=S.N)
  (hO:∀b,j.w0.heap.size<=b\/j.O b->S.w0.heap.size<=b\/S.O b) (z:Chg S.O S.w0 w) (hd0:∀b,S.D0 b->D b) (L:∀b,D b->S.D0 b\/S.w0.heap.size<=b\/S.O b) (X:Marks S.nod S.w0.heap.size D w S.gd a0.defers):
  aL S ⟨λt=>(σ.sv.take S.N).getD t .top,σ.m,σ.sv.drop S.N⟩ a0 w D E:=by
 have A:=h.svr;rw[hv,hP]at A;have f:a0.tmps.toList.length=S.N:=by rw[vH];exact y
 have h1:=AV.relL_take A S.N;have h2:=AV.relL_drop A S.N;have e1:(a0.tmps.toList++S.sv).take S.N=a0.tmps.toList:=by rw[<- f];exact List.take_left
 have e2:(a0.tmps.toList++S.sv).drop S.N=S.sv:=by rw[<- f];exact qBf
 rw[e1]at h1;rw[e2]at h2;refine⟨y,X,λt=>?_,λnm b hm=>hP▸h.bl nm b hm,λnm b hm hi=>⟨hO _ (h.own nm b hm hi).1,(h.own nm b hm hi).2⟩,h.inj,z,h.dlt,hd0,L,?_,h2,⟨λnm i b g=>⟨hO _ (h.pv.own nm i b g).1,(h.pv.own nm i b g).2⟩,h.pv.ent,h.pv.inj⟩⟩;show((σ.sv.take S.N).getD t .top).rel S.P ⟨w,D,σ.m,E⟩ _;rw[qA];cases hx:(σ.sv.take S.N)[t]? with
 |none=>trivial|some x=>
  obtain⟨u,g1,g2⟩:=AV.relL_get h1 hx;have:a0.tmps.getD t undef=u:=by
   rw[vG];simp only[yA]at g1;rw[g1];rfl
  rw[this];exact g2
 have:=h.gl;rw[hP,hG]at this;exact this
end
end Go.Eng
namespace Go.Eng
open Go.RowKit
structure OkS(c:Cfg)(S:Base):Prop where
 P:c.P=S.P
 G:c.G=S.G
 K:ay S.P S.G c.K
 I:aR S.P S.G c.KI
 m:S.P.follows .mixedOrders=true
 rd:S.rd≠none->S.N<=S.sv.length
 nod:S.rd=none->S.nod=!c.rng
 KP:bI S.P S.G c.KP
theorem aL.mark{S:Base}{σ:Sig}{a:Act}{w:World}{D:Nat->Prop}{E:Nat->Ent}(h:aL S σ a w D E)(j:S.nod=false){k:Nat}(u:S.w0.heap.size<=k)(y:D k)(hw:w.heap[k]?=some (.deferred (some [])))(f:∀d∈a.defers,d.target≠.collected k):
  aL S σ {a with defers:={target:=.collected k,args:=#[]}::a.defers} w D E:=
 ⟨h.sz,⟨⟨λe=>(by rw[j]at e;cases e),⟨_::h.df.1.2.1.choose,zX (_::·) h.df.1.2.1.choose_spec⟩,List.Pairwise.cons (λd hd=>(f d hd).symm) h.df.1.2.2⟩,λd hd=>by
  rcases wY.1 hd with e|e;exact .inr ⟨k,e,u,y,hw⟩;exact h.df.2 d e⟩,h.tm,h.bl,h.own,h.inj,h.low,h.dlt,h.dlo,h.dhi,h.gl,h.svr,h.pv⟩
variable {S:Base}{a:Act}{R:Exit->Act->World->Prop}{w:World}
theorem Pn{x:Code}(h:x.wpIn S.F 0 S.P R a w):At S.P S.rd x R a w:=Uo S.F_round S.F_fn S.F_depth h
def Ok(c:Cfg)(x:Code)(s:St)(Q:Exit->St->Prop):Prop:=∀(S:Base) (R:Exit->Act->World->Prop),OkS c S->s.tm.length=S.N->(∀e s',Q e s'->s'.tm.length=S.N->∀a w,Sim S s'.sig a w->R e a w)->∀a w,Sim S s.sig a w->At S.P S.rd x R a w
variable {D:Nat->Prop}{E:Nat->Ent}
theorem Sl{s s':St}(f:s=s'\/leP s s')(h:aL S s.sig a w D E):
  ∃D' E',aL S s'.sig a w D' E'/\s.tm.length=s'.tm.length/\(∀b,D b->D' b)/\(∀b,D' b->D b\/aC s.sig.m E b)/\∀b,aC s'.sig.m E' b->aC s.sig.m E b:=by
 rcases f with rfl|f;exact⟨D,E,h,rfl,λ_ g=>g,λ_ g=>.inl g,λ_ g=>g⟩;unfold leP at f;split at f;rename_i ns j;obtain⟨D',E',z,g2,y,u⟩:=IY h j (cy f).1;exact⟨D',E',z,mN j,g2,y,u⟩;exact f.elim
variable {s:St}
mutual
theorem GI(h:aL S s.sig a w D E):∀{x:AV}{v:Value},x.rel S.P ⟨w,D,s.sig.m,E⟩ v->(Xd s.mem x).rel S.P ⟨w,Ou s.sig.m E D,noM,noE⟩ v:=λ{x v} G=>by
 have L:Later ⟨w,D,s.sig.m,E⟩ ⟨w,Ou s.sig.m E D,noM,noE⟩:=⟨λ_ g=>.inl g,λ_ _=>rfl⟩;have z:∀{y:AV}{u:Value},y.rel S.P ⟨w,D,s.sig.m,E⟩ u->(jX y).rel S.P ⟨w,Ou s.sig.m E D,noM,noE⟩ u:=λ{y u} hy=>
  AV.rel_mono L (λnm f=>by rw[fE]at f;cases f) (AV.rel_forg hy)
 unfold Xd;split;rename_i nm;split;rename_i cs hm;obtain⟨_,q⟩:=G _ hm;obtain⟨_,q2,q3⟩:=q rfl;obtain⟨_,us,el,X,r2⟩:=h.bl nm _ hm;refine⟨(E nm).b,0,us.toList,?_,.inr ⟨nm,_,hm,q2,rfl⟩,λj u hj=>?_,?_⟩;rw[q3];show Value.pointer (some ⟨(E nm).b,0*_+0,none⟩)=_;rw[xB];have A:w.heap[(E nm).b]?=some (.cells us el (0,0)):=X;show w.cell? ⟨(E nm).b,0+j,none⟩=some u;rw[qCz w _ _ us el (0,0) A,zU];simpa using hj;exact AV.relL_mono L (λnm f=>by rw[dU]at f;cases f) (AV.relL_forg r2);trivial;rename_i y;obtain⟨b,off,u,h1,h2,h3,h5⟩:=G;exact⟨b,off,u,h1,.inl h2,h3,GI h h5⟩;exact z G
end
theorem GH(h:aL S s.sig a w D E):∀{xs:List AV}{vs:Lv},AV.relL S.P ⟨w,D,s.sig.m,E⟩ xs vs->AV.relL S.P ⟨w,Ou s.sig.m E D,noM,noE⟩ (BV s.mem xs) vs|[],_,f=>f|_::_,_,⟨u,us,e,y,j⟩=>⟨u,us,e,GI h y,GH h j⟩
variable {G:List (Nat×AV)}{g:Operand}{gf:FuncId}
theorem Ov{l:List AV}(h:Aj G g gf s=some l):∃caps,evT G s.sig.T g=.fn gf caps/\BV s.mem caps=l:=by
 unfold Aj at h;split at h;rename_i f caps e;split at h;rename_i j;subst j;cases h;exact⟨caps,e,rfl⟩;cases h;cases h
variable {t:Ty}{caps:List AV}
theorem Ot{m:Mem}{α:Type}{inv:α->Prop}{st:α->St}{X:Prop}(h:GG G g gf caps m inv st t X):
  X/\(AV.namesL caps≠[]->yk t=true/\∀x,inv x->Aj G g gf (st x)=some (BV m caps)):=by
 unfold GG at h;split at h;rename_i e;exact⟨h,λg=>(g (wX.1 e)).elim⟩;exact⟨h.2.2,λ_=>⟨h.1,h.2.1⟩⟩
variable {P:Program}
theorem Rw{y:t.den}{u:Value}(h:yk t=true)(f:af w D t y [u]):AV.relL P ⟨w,D,noM,noE⟩ (Jd t y) [u]:=by
 cases t with
 |pair a b=>cases h
 |_=>exact⟨u,[],rfl,f,rfl⟩
theorem Wu{y:t.den}{n:Nat}(h:Ru t n=true):(Jd t y).length=n:=by
 cases t with
 |pair a b=>simp only[Ru,yJ]at h;subst h;rfl|_=>simp only[Ru,qC,yJ]at h;rw[h.1];rfl
theorem zx(t:Ty)(y:t.den):AV.namesL (Jd t y)=[]:=by
 have one:∀(t:Ty) (x:t.den),(rQ t x).names=[]:=λt x=>by
  unfold rQ;split;exact iI t x;rfl
 cases t with
 |pair a b=>show(rQ a y.1).names++((rQ b y.2).names++[])=[];rw[one,one];rfl|_=>rfl
theorem Im:∀(ps:List Tmp) (vs tm:List AV),(Io ps vs tm).length=tm.length
 |[],_,_=>by unfold Io;rfl|_::_,[],_=>rfl|p::ps,v::vs,tm=>by
  show(Io ps vs (tm.set p v)).length=_;rw[Im ps vs,zW]
variable {C:Ctx}
theorem Il:∀{ps:List Tmp}{vs tm:List AV}{us:Lv}{tmps:Array Value},ps.length=vs.length->AV.relL P C vs us->tm.length=tmps.size->(∀p∈ps,p<tm.length)->(∀t,(tm.getD t .top).rel P C (tmps.getD t undef))->
  ∀t,((Io ps vs tm).getD t .top).rel P C (((ps.zip us).foldl (λt (p,v)=>t.setIfInBounds p v) tmps).getD t undef)
 |[],[],_,_,_,_,z,_,_,h=>by
  cases z;exact h
 |p::ps,v::vs,tm,us,tmps,j,z,L,X,h=>by
  obtain⟨u,y,rfl,h1,h2⟩:=z;show ∀t,((Io ps vs (tm.set p v)).getD t .top).rel P C (((ps.zip y).foldl (λt (p,v)=>t.setIfInBounds p v) (tmps.setIfInBounds p u)).getD t undef);have f:=X p (by simp);refine Il (by simpa using j) h2 (by simpa using L) (λq hq=>by rw[zW];exact X q (by simp[hq])) λt=>?_;by_cases e:t=p;subst e;have G:(tm.set t v).getD t .top=v:=by rw[qA,zQ f];rfl
  have A:(tmps.setIfInBounds t u).getD t undef=u:=by simp[Array.getD,<- L,f]
  rw[G,A];exact h1;have G:(tm.set p v).getD t .top=tm.getD t .top:=by
   simp only[qA];rw[zT (λh=>e h.symm)]
  have A:(tmps.setIfInBounds p u).getD t undef=tmps.getD t undef:=by
   simp only[vG,xH];rw[if_neg (λh=>e h.symm)]
  rw[G,A];exact h t
 |[],_::_,_,_,_,j,_,_,_,_=>by cases j
 |_::_,[],_,_,_,j,_,_,_,_=>by cases j
variable {c:Cfg}
theorem Xj(hI:aR P G c.KI){m:Mem}{it:iJ}(hgf:gf<yi)(hki:aCX c m gf caps=some it)
  (hpre:it.pre) (l:Nat) (J:Nat->World->(Nat->Prop)->(Nat->Prop)->Prop) (JX:World->(Nat->Prop)->(Nat->Prop)->Prop) (JP:List PanicEntry->World->(Nat->Prop)->(Nat->Prop)->Prop) (w:World) (D:Nat->Prop) (us:Lv)
  (hD:∀b,D b->b<w.heap.size) (hG:jB P ⟨w,D,noM,noE⟩ G) (hcaps:AV.namesL caps=[]->AV.relL P ⟨w,D,noM,noE⟩ caps us)
  (hlent:AV.namesL caps≠[]->(∀k f j V,J k f j V->∃D:Nat->Prop,(∀b,D b->b<f.heap.size)/\jB P ⟨f,D,noM,noE⟩ G/\AV.relL P ⟨f,D,noM,noE⟩ (BV m caps) us)/\yk it.t=true/\∀f j V,JX f j V->∃D:Nat->Prop,(∀b,D b->b<f.heap.size)/\jB P ⟨f,D,noM,noE⟩ G)
  (c1:∀k f z j V,J k f j V->Below f.heap.size f z->∀X:Nat->Prop,J k z (λb=>j b\/(gi f z b/\¬X b)) (λb=>V b\/(gi f z b/\X b)))
  (c2:∀k f (j D2 V V2:Nat->Prop),J k f j V->(∀b,D2 b->j b)->(∀b,V2 b->V b)->J k f D2 V2)
  (c3:∀k f z j V,J k f j V->Chg V f z->z.heap.size=f.heap.size->J k z j V)
  (x1:∀f z j V,JX f j V->Below f.heap.size f z->∀X:Nat->Prop,JX z (λb=>j b\/(gi f z b/\¬X b)) (λb=>V b\/(gi f z b/\X b)))
  (x2:∀f (j D2 V V2:Nat->Prop),JX f j V->(∀b,D2 b->j b)->(∀b,V2 b->V b)->JX f D2 V2)
  (x3:∀f z j V,JX f j V->Chg V f z->z.heap.size=f.heap.size->JX z j V)
  (p3:∀A f z j V,JP A f j V->Chg V f z->z.heap.size=f.heap.size->JP A z j V)
  (hy:∀k y W j V vs,it.L[k]?=some y->J k W j V->(∀b,j b->b<W.heap.size)->AV.relL P ⟨W,j,noM,noE⟩ (Jd it.t y) vs->YieldAt Fence.wide 0 P l vs.toArray W λe W' =>
   W.heap.size<=W'.heap.size/\(∀b,j b\/V b->W'.heap[b]?=W.heap[b]?)/\((e=.returned (.bool true)/\J (k+1) W' j V)\/(e=.returned (.bool false)/\JX W' j V)\/∃A,e=.panicked A/\JP A W' j V))
  (h0:J 0 w D noV):
  CallsIn Fence.wide 0 P gf (#[.func (.yield l) #[] #[]]++us.toArray) w λe W'=>((∃v,e=.returned v)/\((∃D2,J it.L.length W' D2 noV)\/∃D2,JX W' D2 noV))\/∃A,e=.panicked A/\∃D2 V2,JP A W' D2 V2:=by
 unfold aCX at hki;split at hki;rename_i e;exact hI.at hgf hki hpre l J JX JP w D us hD hG (hcaps (wX.1 e)) c1 c2 c3 x1 x2 x3 p3 hy h0;rename_i e;obtain⟨l1,lf,l2⟩:=hlent λg=>e (wX.2 g);refine(hI.lent hki hpre l (λk W=>J k W noV noV) (λW=>JX W noV noV) (λA W=>JP A W noV noV) w us (λk f h=>l1 k f _ _ h) (λf h=>l2 f _ _ h)
  (λk f z h hb=>c2 _ _ _ _ _ _ (c1 k f z _ _ h hb noV) (λ_ g=>g.elim) λ_ g=>g.elim) (λf z h hb=>x2 _ _ _ _ _ (x1 f z _ _ h hb noV) (λ_ g=>g.elim) λ_ g=>g.elim)
  (λk y W u h1 h2 h3=>?_) (c2 _ _ _ _ _ _ h0 (λ_ g=>g.elim) λ_ g=>g)).mono ?_
 obtain⟨fn,tmps,as,body,g1,g2⟩:=hy k y W noV noV [u] h1 h2 (λ_ g=>g.elim) (Rw lf h3);exact⟨fn,tmps,as,body,g1,g2.mono λe W' g=>⟨g.1,g.2.2⟩⟩;rintro e W' (⟨g1,g2⟩|⟨A,g1,g2⟩);exact .inl ⟨g1,g2.imp (λg=>⟨_,g⟩) λg=>⟨_,g⟩⟩;exact .inr ⟨A,g1,_,_,g2⟩
variable {Q:Exit->St->Prop}
theorem YK{EA EB:St->(Exit->St->Prop)->Prop}{le:St->St->Prop}{ps:Array Tmp}{as b:Code}(iha:∀s Q,EA s Q->Ok c as s Q)(ihb:∀s Q,EB s Q->Ok c b s Q)(hle:∀s s',le s s'->s=s'\/leP s s'){it:iJ}{sp:Spec}(hev:evT c.G s.sig.T g=.fn gf caps)(hki:aCX c s.mem gf caps=some it)(h:aDZ c EA EB le g ps.toList s gf caps it sp Q):Ok c (.rangeFunc g ps as b) s Q:=by
 intro S R H hl hR a w hs;obtain⟨pl,hps⟩:∃pl,ps.toList=pl:=⟨_,rfl⟩;rw[hps]at h;unfold aDZ at h;split at h;case isFalse=>exact h.elim
 rename_i hc;obtain⟨⟨hpre,⟨x0,i1,i2,i3⟩,hround,hdone⟩,hlo⟩:=Ot h;simp only[S9,qC,qF]at hc;obtain⟨⟨⟨⟨⟨hgoes,hgf⟩,hsv⟩,hrng⟩,hone⟩,hp⟩:=hc;have hp:∀p∈pl,p<s.tm.length:=λp g=>vJ (qU.1 hp p g);obtain⟨D,E,hd⟩:=hs;have hrd:S.rd=none:=by
  cases hr:S.rd with
  |none=>rfl|some l=>
   have h1:=H.rd (by rw[hr];simp);have h2:=AV.relL_length hd.svr;have e:s.sig.sv=s.sv:=rfl;rw[e]at h2;omega
 have hnod:S.nod=false:=by rw[H.nod hrd,hrng];rfl
 have hgv:=dV hd g;rw[<- H.G,hev]at hgv;obtain⟨cs,hga,hcaps⟩:=hgv;obtain⟨D1,E1,hd1,hlen0,up1,dn1,bl1⟩:=Sl (hle _ _ i3) hd;obtain⟨dk,hdk⟩:∃dk,dk=w.heap.size:=⟨_,rfl⟩;rw[hrd];refine at_range λfn hfn=>?_;obtain⟨rec,hrec⟩:∃rec:LoopState->Option Code->Loop,rec=λst pe=>{state:=st,pending:=pe,fn,tmps:=a.tmps,params:=ps,assign:=as,body:=b,defers:=w.heap.size}:=⟨_,rfl⟩;obtain⟨W1,hW1⟩:∃W1,(w.alloc (.deferred (some []))).alloc (.loop (rec .ready none))=W1:=⟨_,rfl⟩;have hsz1:W1.heap.size=w.heap.size+2:=by rw[<- hW1];simp
 have hL1:W1.heap[w.heap.size+1]?=some (.loop (rec .ready none)):=by
  rw[<- hW1];have:=World.alloc_heap_new (w.alloc (.deferred (some []))) (.loop (rec .ready none));rwa [qH]at this
 have hK1:W1.heap[w.heap.size]?=some (.deferred (some [])):=by
  rw[<- hW1];exact(Below.heap_alloc _ _ _ (by simp)).trans (World.alloc_heap_new w _)
 have hb1:Below w.heap.size w W1:=by
  rw[<- hW1];exact((Below.refl _ w).alloc (qN _) _).alloc (by simp) _
 have hbase:S.w0.heap.size<=w.heap.size:=hd1.low.size;have hne1:∀d∈a.defers,d.target≠.collected w.heap.size:=λd hd e=>by
  rcases hd1.df.2 d hd with⟨_,g⟩|⟨k,g1,_,g3,_⟩;exact g _ e;rw[g1]at e;injection e with e
  have:=hd1.dlt k g3;omega
 have hd2:aL S (sp.st x0).sig {a with defers:={target:=.collected w.heap.size,args:=#[]}::a.defers} W1 (λb=>D1 b\/b=w.heap.size) E1:=by
  refine(hd1.world (D':=λb=>D1 b\/b=w.heap.size) hb1 (λb=>⟨λg=>?_,λg=>?_⟩) (λb g=>?_)).mark hnod hbase (.inr rfl) hK1 hne1;rcases g with g|g;exact .inl g;exact .inr ⟨⟨Z,Z⟩,.inr g⟩;rcases g with g|⟨_,g⟩;exact .inl g;exact g;rcases g with g|g;have:=hd1.dlt b g;omega;omega
 refine⟨w.heap.size+1,[{target:=.collected w.heap.size,args:=#[]}],W1,{target:=.fn (.func gf) cs.toArray,args:=#[.func (.yield (w.heap.size+1)) #[] #[]]},W1,gf,
  #[.func (.yield (w.heap.size+1)) #[] #[]]++cs.toArray,W1,?_,?_,?_,?_⟩
 rw[<- hW1,hrec];exact run_enterLoop_outer _ _ _ _ _;simp only[resolve,hga];simp[go_sem];have:=mh (P:=S.P) (by rw[<- H.P];exact hgoes) W1 (#[.func (.yield (w.heap.size+1)) #[] #[]]++cs.toArray);simp only[invoke];exact this;have hcaps1:AV.namesL caps=[]->AV.relL S.P ⟨W1,(λb=>D1 b\/b=w.heap.size),noM,noE⟩ caps cs:=λhnm=>
  AV.relL_mono (C:=⟨w,D,s.sig.m,E⟩) (C':=⟨W1,(λb=>D1 b\/b=w.heap.size),noM,noE⟩) ⟨λb g=>.inl (up1 b g),λb g=>hb1.block b (hd.dlt b g)⟩ (λk hk=>by rw[hnm]at hk;cases hk) hcaps
 have hl2:∀b,D1 b\/b=w.heap.size->b≠w.heap.size+1:=λb g e=>by
  rcases g with g|g;have:=hd1.dlt b g;omega;omega
 have he2:¬aC (sp.st x0).sig.m E1 (w.heap.size+1):=λg0=>by
  have:=(hd1.ownAll g0).2.1;omega
 have hsz0:a.tmps.size=S.N:=hd.sz;obtain⟨J,hJ⟩:∃J:Nat->World->(Nat->Prop)->(Nat->Prop)->Prop,J=λk W Dit V=>∃x D E,sp.inv x/\sp.μ x=k/\
   aL S (sp.st x).sig {a with defers:={target:=.collected w.heap.size,args:=#[]}::a.defers} W D E/\(∀b,Dit b->D b)/\
   W.heap[w.heap.size+1]?=some (.loop (rec .ready none))/\¬D (w.heap.size+1)/\¬aC (sp.st x).sig.m E (w.heap.size+1)/\(sp.st x).tm.length=S.N/\(∀b,V b->w.heap.size+1<b/\b<W.heap.size/\¬D b/\¬aC (sp.st x).sig.m E b):=⟨_,rfl⟩
 obtain⟨JX,hJX⟩:∃JX:World->(Nat->Prop)->(Nat->Prop)->Prop,JX=λW Dit V=>∃cc s2 D E,((cc=Code.ret/\Q .ret s2)\/∃i,cc=Code.exit i/\Q (.exit i) s2)/\s2.tm.length=S.N/\
   aL S s2.sig {a with defers:={target:=.collected w.heap.size,args:=#[]}::a.defers} W D E/\(∀b,Dit b->D b)/\
   W.heap[w.heap.size+1]?=some (.loop (rec .done (some cc)))/\¬D (w.heap.size+1)/\¬aC s2.sig.m E (w.heap.size+1)/\(∀b,V b->w.heap.size+1<b/\b<W.heap.size/\¬D b/\¬aC s2.sig.m E b):=⟨_,rfl⟩
 obtain⟨JP,hJP⟩:∃JP:List PanicEntry->World->(Nat->Prop)->(Nat->Prop)->Prop,JP=λch W _ V=>∃s2 D E,Q (.panic ch) s2/\s2.tm.length=S.N/\
   aL S s2.sig {a with defers:={target:=.collected w.heap.size,args:=#[]}::a.defers} W D E/\(∀b,V b->w.heap.size+1<b/\b<W.heap.size/\¬D b/\¬aC s2.sig.m E b):=⟨_,rfl⟩
 have grow:∀{W W2:World}{σ:Sig}{D:Nat->Prop}{E:Nat->Ent},aL S σ {a with defers:={target:=.collected w.heap.size,args:=#[]}::a.defers} W D E->Below W.heap.size W W2->∀X:Nat->Prop,
   aL S σ {a with defers:={target:=.collected w.heap.size,args:=#[]}::a.defers} W2 (λb=>D b\/(gi W W2 b/\¬X b)) E:=λ{W W2 σ D E} h hb X=>
  h.world (D':=λb=>D b\/(gi W W2 b/\¬X b)) hb (λb=>⟨λg=>g.imp id λg=>⟨g.1,.inr g⟩,λg=>g.elim .inl (·.2)⟩) λb g=>by
   rcases g with g|g;exact qI (h.dlt b g) hb.size;exact g.1.2
 have notAll:∀{W:World}{σ:Sig}{D:Nat->Prop}{E:Nat->Ent},aL S σ {a with defers:={target:=.collected w.heap.size,args:=#[]}::a.defers} W D E->∀b,W.heap.size<=b->¬aC σ.m E b:=λh b hb g=>by
  have:=(h.ownAll g).2.1;omega
 have hbase0:S.w0.heap.size<=w.heap.size:=hbase;refine(Xj H.I hgf hki hpre (w.heap.size+1) J JX JP W1 (λb=>D1 b\/b=w.heap.size) cs (λb g=>?_) ?_ hcaps1 (λhnm=>⟨?_,(hlo hnm).1,?_⟩) ?_ ?_ ?_ ?_ ?_ ?_ ?_ ?_ ?_).mono ?_;rcases g with g|g;have:=hd1.dlt b g;omega;omega;exact jB.mono (C:=⟨w,D,s.sig.m,E⟩) (C':=⟨W1,(λb=>D1 b\/b=w.heap.size),noM,noE⟩) ⟨λb g=>.inl (up1 b g),λb g=>hb1.block b (hd.dlt b g)⟩ hd.gl;subst hJ;rintro k W Dit V ⟨x,D',E',j1,j2,L,_⟩;obtain⟨capx,q1,q2⟩:=Ov ((hlo hnm).2 x j1);have hv:=dV L g;rw[<- H.G,q1]at hv;obtain⟨cs',g1,g2⟩:=hv;have g1':a.eval g=.func (.func gf) #[] cs'.toArray:=g1;rw[hga]at g1';have e:cs=cs':=by
  have:=(Value.func.injEq ..▸g1':_/\_/\_).2.2;simpa using zX Array.toList this
 subst e;refine⟨Ou (sp.st x).sig.m E' D',λb hb=>?_,jB.mono (C:=⟨W,D',(sp.st x).sig.m,E'⟩) (C':=⟨W,Ou (sp.st x).sig.m E' D',noM,noE⟩) ⟨λ_ g=>.inl g,λ_ _=>rfl⟩ L.gl,q2▸GH L g2⟩;rcases hb with hb|⟨nm,blk,b1,b2,rfl⟩;exact L.dlt b hb;exact(L.own nm blk b1 b2).2.1;subst hJX;rintro W Dit V ⟨cc,s2,D',E',j1,j2,L,_⟩;exact⟨D',L.dlt,jB.mono (C:=⟨W,D',s2.sig.m,E'⟩) (C':=⟨W,D',noM,noE⟩) ⟨λ_ g=>g,λ_ _=>rfl⟩ L.gl⟩;subst hJ;rintro k W W2 Dit V ⟨x,D',E',j1,j2,L,j4,j5,j6,j7,j8,j9⟩ hb X;have hlt:w.heap.size+1<W.heap.size:=(qK.1 j5).1;refine⟨x,_,E',j1,j2,grow L hb X,λb g=>g.imp (j4 b) (λg=>g),(hb.block _ hlt).trans j5,λg=>?_,j7,j8,λb g=>?_⟩;rcases g with g|g;exact j6 g;have:=g.1.1;omega;rcases g with g|⟨g,gx⟩;obtain⟨v1,v2,v3,v4⟩:=j9 b g;refine⟨v1,qI v2 hb.size,λg2=>?_,v4⟩;rcases g2 with g2|g2;exact v3 g2;have:=g2.1.1;omega;refine⟨qI hlt g.1,g.2,λg2=>?_,notAll L b g.1⟩;rcases g2 with g2|g2;have:=L.dlt b g2;have:=g.1;omega;exact g2.2 gx;subst hJ;rintro k W Dit Dit2 V V2 ⟨x,D',E',j1,j2,L,j4,j5,j6,j7,j8,j9⟩ hsub hsubV;exact⟨x,D',E',j1,j2,L,λb g=>j4 b (hsub b g),j5,j6,j7,j8,λb g=>j9 b (hsubV b g)⟩;subst hJ;rintro k W W2 Dit V ⟨x,D',E',j1,j2,L,j4,j5,j6,j7,j8,j9⟩ hc hsz;have hlt:w.heap.size+1<W.heap.size:=(qK.1 j5).1;refine⟨x,D',E',j1,j2,L.lay hc hsz λb g=>?_,j4,(hc.block _ hlt λg=>?_).trans j5,j6,j7,j8,λb g=>?_⟩;obtain⟨v1,v2,v3,v4⟩:=j9 b g;exact⟨Z,v3,v4⟩;have:=(j9 _ g).1;omega;rw[hsz];exact j9 b g
 subst hJX;rintro W W2 Dit V ⟨cc,s2,D',E',j1,j2,L,j4,j5,j6,j7,j9⟩ hb X;have hlt:w.heap.size+1<W.heap.size:=(qK.1 j5).1;refine⟨cc,s2,_,E',j1,j2,grow L hb X,λb g=>g.imp (j4 b) (λg=>g),(hb.block _ hlt).trans j5,λg=>?_,j7,λb g=>?_⟩;rcases g with g|g;exact j6 g;have:=g.1.1;omega;rcases g with g|⟨g,gx⟩;obtain⟨v1,v2,v3,v4⟩:=j9 b g;refine⟨v1,qI v2 hb.size,λg2=>?_,v4⟩;rcases g2 with g2|g2;exact v3 g2;have:=g2.1.1;omega;refine⟨qI hlt g.1,g.2,λg2=>?_,notAll L b g.1⟩;rcases g2 with g2|g2;have:=L.dlt b g2;have:=g.1;omega;exact g2.2 gx;subst hJX;rintro W Dit Dit2 V V2 ⟨cc,s2,D',E',j1,j2,L,j4,j5,j6,j7,j9⟩ hsub hsubV;exact⟨cc,s2,D',E',j1,j2,L,λb g=>j4 b (hsub b g),j5,j6,j7,λb g=>j9 b (hsubV b g)⟩;subst hJX;rintro W W2 Dit V ⟨cc,s2,D',E',j1,j2,L,j4,j5,j6,j7,j9⟩ hc hsz;have hlt:w.heap.size+1<W.heap.size:=(qK.1 j5).1;refine⟨cc,s2,D',E',j1,j2,L.lay hc hsz λb g=>?_,j4,(hc.block _ hlt λg=>?_).trans j5,j6,j7,λb g=>?_⟩;obtain⟨v1,v2,v3,v4⟩:=j9 b g;exact⟨Z,v3,v4⟩;have:=(j9 _ g).1;omega;rw[hsz];exact j9 b g;subst hJP;rintro ch W W2 Dit V ⟨s2,D',E',j1,j2,L,j9⟩ hc hsz;refine⟨s2,D',E',j1,j2,L.lay hc hsz λb g=>?_,λb g=>?_⟩;obtain⟨v1,v2,v3,v4⟩:=j9 b g;exact⟨Z,v3,v4⟩;rw[hsz];exact j9 b g
 ·
  intro k y W Dit V vs hy hj hltd hu;rw[hJ]at hj;obtain⟨x,D',E',j1,j2,L,j4,j5,j6,j7,j8,j9⟩:=hj;have hlt:w.heap.size+1<W.heap.size:=(qK.1 j5).1;have hpl:pl.length=(Jd it.t y).length:=(Wu hone).symm;have hvl:vs.length=pl.length:=by rw[hpl];exact(AV.relL_length hu).symm
  have hpsz:ps.size=vs.toArray.size:=by
   have e:ps.size=pl.length:=by rw[<- hps,vH]
   rw[e,yY,hvl]
  have hyl:=run_yield (P:=S.P) (args:=vs.toArray) j5 (by rw[hrec];simpa using hpsz.symm);rw[hrec]at hyl;obtain⟨tq,htq⟩:∃tq:Array Value,tq=(pl.zip vs).foldl (λt (p,v)=>t.setIfInBounds p v) a.tmps:=⟨_,rfl⟩;have htm:(ps.zip vs.toArray).foldl (λt (p,v)=>t.setIfInBounds p v) a.tmps=tq:=by
   have e:ps=pl.toArray:=by apply yP;rw[hps]
   rw[e,htq,List.zip_toArray,List.foldl_toArray]
  refine⟨fn,_,as,b,hyl,?_⟩;rw[htm];refine KW hfn ?_;have hu':AV.relL S.P ⟨W,D',(sp.st x).sig.m,E'⟩ (Jd it.t y) vs:=AV.relL_mono (C:=⟨W,Dit,noM,noE⟩) (C':=⟨W,D',(sp.st x).sig.m,E'⟩) ⟨j4,λ_ _=>rfl⟩ (λnm g=>by rw[zx]at g;cases g) hu;have tqs:tq.size=a.tmps.size:=by
   rw[htq];generalize a.tmps=t0;induction pl.zip vs generalizing t0 with
   |nil=>rfl|cons q r ih=>rw[kS,ih];simp
  have tms:∀t,((E0 pl it.t y (sp.st x)).sig.T t).rel S.P ⟨W,D',(sp.st x).sig.m,E'⟩ (tq.getD t undef):=by
   rw[htq];exact Il hpl hu' (by rw[j8,hsz0]) (λp g=>by rw[j8,<- hl];exact hp p g) L.tm
  have svs:AV.relL S.P ⟨W,D',(sp.st x).sig.m,E'⟩ (sp.st x).tm a.tmps.toList:=by
   refine AV.relL_mk (by rw[j8,vH,hsz0]) λi av v hi hv=>?_;have:=L.tm i;have e1:(sp.st x).sig.T i=av:=by show(sp.st x).tm.getD i .top=av;rw[qA,hi];rfl
   have e2:a.tmps.getD i undef=v:=by
    rw[vG];simp only[yA]at hv;rw[hv];rfl
   rw[e1]at this;simpa only[e2]using this
  have hent:=L.enter (w.heap.size+1) (tm:=(E0 pl it.t y (sp.st x)).sig.T) (tmps:=tq) (by rw[tqs];exact hsz0) tms (AV.relL_append svs L.svr);obtain⟨Sr,f⟩:∃Sr:Base,Sr={P:=S.P,w0:=W,D0:=D',N:=S.N,O:=aC (sp.st x).sig.m E',G:=S.G,sv:=a.tmps.toList++S.sv,rd:=some (w.heap.size+1),nod:=true}:=⟨_,rfl⟩;rw[<- f]at hent;have hNpos:S.N<=(a.tmps.toList++S.sv).length:=by
   rw[qG,vH,hsz0];omega
  have HOr:OkS c Sr:=by
   subst f;exact⟨H.P,H.G,H.K,H.I,H.m,λ_=>hNpos,λh=>(by cases h),H.KP⟩
  have hrr:Sr.rd=some (w.heap.size+1):=by rw[f]
  have hrx:=hround x y j1 (by rw[j2];exact hy);have hlr:(E0 pl it.t y (sp.st x)).tm.length=Sr.N:=by
   subst f;show(Io pl (Jd it.t y) (sp.st x).tm).length=S.N;rw[Im];exact j8
  rw[<- hrr];have hPr:Sr.P=S.P:=by rw[f]
  rw[<- hPr];refine iha _ _ hrx Sr _ HOr hlr (λe s1 hq hl1 a1 w1 hs1=>?_) _ W ⟨D',E',hent⟩;cases e<;>first
   |exact hq.elim
   |skip
  obtain⟨D3,E3,h3⟩:=hs1;have nl3:¬D3 (w.heap.size+1):=λg=>by
   have:=h3.dhi _ g;rw[f]at this;rcases this with g1|g1|g1;exact j6 g1;simp only at g1;omega;exact j7 g1
  have ne3:¬aC s1.sig.m E3 (w.heap.size+1):=λg0=>by
   have:=(h3.ownAll g0).1;rw[f]at this;rcases this with g4|g4;simp only at g4;omega;exact j7 g4
  have hl3:w1.heap[w.heap.size+1]?=some (.loop (rec .ready none)):=by
   have:=h3.low.block (w.heap.size+1) (by rw[f];exact hlt) (by rw[f];exact j7);rw[this,f];exact j5
  have out3:∀q,q<W.heap.size->¬D' q->¬aC (sp.st x).sig.m E' q->¬D3 q/\¬aC s1.sig.m E3 q/\w1.heap[q]?=W.heap[q]?:=λq q1 q2 q3=>by
   refine⟨λg=>?_,λg=>?_,?_⟩;have:=h3.dhi _ g;rw[f]at this;rcases this with g1|g1|g1;exact q2 g1;simp only at g1;omega;exact q3 g1;have:=(h3.ownAll g).1;rw[f]at this;rcases this with g4|g4;simp only at g4;omega;exact q3 g4;have:=h3.low.block q (by rw[f];exact q1) (by rw[f];exact q3);rw[this,f]
  have hdef3:a1.defers=[]:=(h3.df.1.1 (by rw[f])).trans (by rw[f]);have hlt3:w.heap.size+1<w1.heap.size:=(qK.1 hl3).1;have hbr:=run_beginRound (P:=S.P) hl3 (by rw[hrec]);refine⟨_,hPr▸hbr,?_⟩;have h4:=h3.again (.loop {rec .ready none with state:=.busy}) (by rw[f]) hdef3 nl3 ne3;obtain⟨Sq,u⟩:∃Sq:Base,Sq={Sr with w0:=w1.putObj (w.heap.size+1) (.loop {rec .ready none with state:=.busy}),D0:=D3,O:=aC s1.sig.m E3}:=⟨_,rfl⟩;rw[<- u]at h4;have HOq:OkS c Sq:=by
   rw[u];exact⟨HOr.P,HOr.G,HOr.K,HOr.I,HOr.m,HOr.rd,HOr.nod,HOr.KP⟩
  have hrq:Sq.rd=Sr.rd:=by rw[u]
  have hPq:Sq.P=Sr.P:=by rw[u]
  rw[<- hrq,<- hPq];have hlq:s1.tm.length=Sq.N:=by rw[u];exact hl1
  refine ihb _ _ hq Sq _ HOq hlq (λe s2 hq2 hl2 a2 w2 hs2=>?_) _ _ ⟨D3,E3,h4⟩;obtain⟨D5,E5,h5⟩:=hs2;have nl5:¬D5 (w.heap.size+1):=λg=>by
   have:=h5.dhi _ g;rw[u]at this;rcases this with g1|g1|g1;exact nl3 g1;simp only[World.putObj_size]at g1;omega;exact ne3 g1
  have ne5:¬aC s2.sig.m E5 (w.heap.size+1):=λg0=>by
   have:=(h5.ownAll g0).1;rw[u]at this;rcases this with g4|g4;simp only[World.putObj_size]at g4;omega;exact ne3 g4
  have hl5:w2.heap[w.heap.size+1]?=some (.loop {rec .ready none with state:=.busy}):=by
   have:=h5.low.block (w.heap.size+1) (by rw[u];simpa using hlt3) (by rw[u];exact ne3);rw[this,u];exact World.putObj_heap_same hlt3
  have out5:∀q,q<W.heap.size->¬D' q->¬aC (sp.st x).sig.m E' q->q≠w.heap.size+1->¬D5 q/\¬aC s2.sig.m E5 q/\w2.heap[q]?=W.heap[q]?:=λq q1 q2 q3 q4=>by
   obtain⟨o1,o2,o3⟩:=out3 q q1 q2 q3;have sz1:W.heap.size<=w1.heap.size:=by have:=h3.low.size;rw[f]at this;exact this
   refine⟨λg=>?_,λg=>?_,?_⟩;have:=h5.dhi _ g;rw[u]at this;rcases this with g1|g1|g1;exact o1 g1;simp only[World.putObj_size]at g1;omega;exact o2 g1;have:=(h5.ownAll g).1;rw[u]at this;rcases this with g4|g4;simp only[World.putObj_size]at g4;omega;exact o2 g4;have:=h5.low.block q (by rw[u];simpa using qI q1 sz1) (by rw[u];exact o2);rw[this,u,<- o3];exact World.putObj_heap_other q4
  have outV:∀q,V q->w.heap.size+1<q/\q<W.heap.size/\¬D5 q/\¬aC s2.sig.m E5 q/\w2.heap[q]?=W.heap[q]?:=λq g=>by
   obtain⟨v1,v2,v3,v4⟩:=j9 q g;exact⟨v1,v2,out5 q v2 v3 v4 Z⟩
  have keepD:∀j,D' j->w2.heap[j]?=W.heap[j]?:=λj A=>by
   have hbl:j<W.heap.size:=L.dlt j A;have no1:¬aC (sp.st x).sig.m E' j:=λg0=>(L.ownAll g0).2.2 A;have e1:w1.heap[j]?=W.heap[j]?:=by
    have:=h3.low.block j (by rw[f];exact hbl) (by rw[f];exact no1);rw[this,f]
   have hd3:D3 j:=h3.dlo j (by rw[f];exact A);have no3:¬aC s1.sig.m E3 j:=λg0=>(h3.ownAll g0).2.2 hd3;have hb3:j<w1.heap.size:=h3.dlt j hd3;have e2:w2.heap[j]?=(w1.putObj (w.heap.size+1) (.loop {rec .ready none with state:=.busy})).heap[j]?:=by
    have:=h5.low.block j (by rw[u];simpa using hb3) (by rw[u];exact no3);rw[this,u]
   rw[e2,World.putObj_heap_other (λe=>j6 (by rw[<- e];exact A)),e1]
  have subD:∀j,D' j->D5 j:=λj A=>h5.dlo j (by rw[u];exact h3.dlo j (by rw[f];exact A));have own1:∀j,aC (sp.st x).sig.m E' j->S.w0.heap.size<=j\/S.O j:=λj g0=>(L.ownAll g0).1;have hbW:S.w0.heap.size<=W.heap.size:=L.low.size;have own3:∀j,aC s1.sig.m E3 j->S.w0.heap.size<=j\/S.O j:=λj g0=>by
   have:=(h3.ownAll g0).1;rw[f]at this;rcases this with g4|g4;simp only at g4;exact .inl Z;exact own1 j g4
  have sz31:W.heap.size<=w1.heap.size:=by have:=h3.low.size;rw[f]at this;exact this
  have sz52:w1.heap.size<=w2.heap.size:=by have:=h5.low.size;rw[u]at this;simpa using this
  have low1:Chg S.O S.w0 w1:=L.low.step (by have:=h3.low.os;rw[f]at this;exact this) (by have:=h3.low.tape;rw[f]at this;exact this) (by have:=h3.low.output;rw[f]at this;exact this) sz31 λq hq hno=>by
   have:=h3.low.block q (by rw[f];exact qI hq hbW) (by
    rw[f];intro g;rcases own1 q g with g|g;omega;exact hno g)
   rw[this,f]
  have low2:Chg S.O S.w0 w2:=low1.step (by have:=h5.low.os;rw[u]at this;exact this) (by have:=h5.low.tape;rw[u]at this;exact this) (by have:=h5.low.output;rw[u]at this;exact this) sz52 λq hq hno=>by
   have:=h5.low.block q (by rw[u];simpa using(by omega:q<w1.heap.size)) (by
    rw[u];intro g;rcases own3 q g with g|g;omega;exact hno g)
   rw[this,u];exact World.putObj_heap_other Z
  have dh:∀j,D5 j->S.D0 j\/S.w0.heap.size<=j\/S.O j:=λj A=>by
   have h6:=h5.dhi j A;rw[u]at h6;rcases h6 with g|g|g;have h7:=h3.dhi j g;rw[f]at h7;rcases h7 with g|g|g;exact L.dhi j g;simp only at g;exact .inr (.inl Z);exact(own1 j g).elim (λg=>.inr (.inl g)) (λg=>.inr (.inr g));simp only[World.putObj_size]at g;exact .inr (.inl Z);exact(own3 j g).elim (λg=>.inr (.inl g)) (λg=>.inr (.inr g))
  have hmarks:Marks S.nod S.w0.heap.size D5 w2 S.gd ({target:=.collected w.heap.size,args:=#[]}::a.defers):=
   ⟨L.df.1,λd hd=>by
    rcases L.df.2 d hd with g|⟨q,q1,q2,q3,q4⟩;exact .inl g;refine .inr ?_;exact⟨q,q1,q2,subD q q3,(keepD q q3).trans q4⟩⟩
  have hNS:s2.tm.length=S.N:=by rw[hl2,u,f]
  have hout:aL S (nO s2).sig {a with defers:={target:=.collected w.heap.size,args:=#[]}::a.defers} w2 D5 E5:=
   by
   have h9:=h5.leaveN (S:=S) (a0:={a with defers:={target:=.collected w.heap.size,args:=#[]}::a.defers}) (by rw[u,f]) (by rw[u,f]) (by rw[u,f]) hsz0 (λj g=>by
    rw[u]at g;rcases g with g|g;simp only[World.putObj_size]at g;exact .inl Z;exact own3 j g) low2 (λj g=>subD j (L.dlo j g)) dh hmarks
   unfold nO;rw[hNS];exact h9
  have hlun:(nO s2).tm.length=S.N:=by
   have:=AV.relL_length h5.svr;show(s2.sv.take s2.tm.length).length=S.N;have e:s2.sig.sv=s2.sv:=rfl;rw[e]at this;rw[qM,this,hNS,u,f,qG,vH,hsz0];omega
  have hbase2:S.w0.heap.size<=w.heap.size+1:=Z;have hput:=λ(o:Obj)=>hout.putL (l:=w.heap.size+1) o hbase2 nl5 ne5;have hlt5:w.heap.size+1<w2.heap.size:=(qK.1 hl5).1;have sameD:∀(o:Obj) (j:Nat),D' j->(w2.putObj (w.heap.size+1) o).heap[j]?=W.heap[j]?:=λo j A=>by
   rw[World.putObj_heap_other (λe=>j6 (by rw[<- e];exact A))];exact keepD j A
  have szo:∀o:Obj,W.heap.size<=(w2.putObj (w.heap.size+1) o).heap.size:=λo=>by simp;omega
  have sameV:∀(o:Obj) (j:Nat),Dit j\/V j->(w2.putObj (w.heap.size+1) o).heap[j]?=W.heap[j]?:=λo j A=>by
   rcases A with A|A;exact sameD o j (j4 j A);obtain⟨v1,_,_,_,v5⟩:=outV j A;rw[World.putObj_heap_other Z];exact v5
  have fin:∀(jump:Option Code),(Instr.endRound (w.heap.size+1) jump).run S.P w2=.ok (.bool jump.isNone) (w2.putObj (w.heap.size+1) (.loop (rec (if jump.isNone then .ready else .done) jump))):=λjump=>by
   have:=run_endRound (P:=S.P) jump hl5;rw[hrec]at this ⊢;exact this
  have stop:∀cc,((cc=Code.ret/\Q .ret (nO s2))\/∃i,cc=Code.exit i/\Q (.exit i) (nO s2))->
    ∃v w',(Instr.endRound (w.heap.size+1) (some cc)).run S.P w2=.ok v w'/\(W.heap.size<=w'.heap.size/\(∀b,Dit b\/V b->w'.heap[b]?=W.heap[b]?)/\
     ((Ending.returned v=.returned (.bool true)/\J (k+1) w' Dit V)\/(Ending.returned v=.returned (.bool false)/\JX w' Dit V)\/∃ch,Ending.returned v=.panicked ch/\JP ch w' Dit V)):=λcc hcc=>by
   refine⟨_,_,fin (some cc),szo _,sameV _,.inr (.inl ⟨rfl,?_⟩)⟩;rw[hJX];exact⟨cc,nO s2,D5,E5,hcc,hlun,hput _,λj A=>subD j (j4 j A),World.putObj_heap_same hlt5,nl5,ne5,λb g=>by
    obtain⟨v1,v2,v3,v4,_⟩:=outV b g;exact⟨v1,qI v2 (szo _),v3,v4⟩⟩
  have hPP:Sq.P=S.P:=by rw[hPq,hPr]
  rw[hPP];cases e with
  |normal=>
   obtain⟨z,z1,z2,z3⟩:=hq2;obtain⟨D6,E6,h6,hlz,u6,n6,b6⟩:=Sl (hle _ _ z3) (hput (.loop (rec .ready none)));refine⟨_,_,fin none,szo _,sameV _,.inl ⟨rfl,?_⟩⟩;rw[hJ];refine⟨z,D6,E6,z1,Z,h6,λj A=>u6 j (subD j (j4 j A)),World.putObj_heap_same hlt5,λg=>?_,λg=>ne5 (b6 _ g),?_,λb g=>?_⟩;rcases n6 _ g with g|g;exact nl5 g;exact ne5 g;rw[<- hlz];exact hlun;obtain⟨v1,v2,v3,v4,_⟩:=outV b g;refine⟨v1,qI v2 (szo _),λg2=>?_,λg2=>v4 (b6 _ g2)⟩;rcases n6 _ g2 with g2|g2;exact v3 g2;exact v4 g2
  |ret=>exact stop .ret (.inl ⟨rfl,hq2⟩)|exit i=>exact stop (.exit i) (.inr ⟨i,rfl,hq2⟩)|goto t=>exact hq2.elim|panic ch=>
   refine⟨(h5.df.1.1 (by rw[u,f])).trans (by rw[u,f]),vS sz31 sz52,λj A=>A.elim (λg=>keepD j (j4 j g)) λg=>(outV j g).2.2.2.2,.inr (.inr ⟨ch,rfl,?_⟩)⟩;rw[hJP];exact⟨nO s2,D5,E5,hq2,hlun,hout,λb g=>by
    obtain⟨v1,v2,v3,v4,_⟩:=outV b g;exact⟨v1,qI v2 (vS sz31 sz52),v3,v4⟩⟩
  |outgrown=>exact hq2.elim
 rw[hJ];exact⟨x0,_,E1,i1,i2,hd2,λ_ g=>g,hL1,λg=>hl2 _ g rfl,he2,by rw[<- hlen0];exact hl,λ_ g=>g.elim⟩
 ·
  rintro e W2 (⟨⟨v,rfl⟩,hj⟩|⟨ch,rfl,D2,V2,hj⟩);case inr=>
   rw[hJP]at hj;obtain⟨s2,D',E',q1,q2,q3,_⟩:=hj;exact hR (.panic ch) s2 q1 q2 _ _ ⟨D',E',q3⟩
  rcases hj with⟨D2,hj⟩|⟨D2,hj⟩;rw[hJ]at hj;obtain⟨x,D',E',j1,j2,L,j4,j5,j6,j7,j8,_⟩:=hj;have hel:=run_endLoop (P:=S.P) j5 (by rw[hrec];simp);refine⟨none,_,(by rw[hrec]at hel;exact hel),?_⟩;exact hR .normal (sp.st x) (hdone x j1 j2) j8 _ _ ⟨D',E',L.putL _ Z j6 j7⟩;rw[hJX]at hj;obtain⟨cc,s2,D',E',j1,j2,L,j4,j5,j6,j7,_⟩:=hj;have hel:=run_endLoop (P:=S.P) j5 (by rw[hrec];simp);refine⟨some cc,_,(by rw[hrec]at hel;exact hel),?_⟩;rcases j1 with⟨rfl,hq⟩|⟨i,rfl,hq⟩;exact Uo (F:=Fence.wide) (n:=0) rfl (λ_=>trivial) rfl (wpIn_ret (hR .ret s2 hq j2 _ _ ⟨D',E',L.putL _ Z j6 j7⟩));exact Uo (F:=Fence.wide) (n:=0) rfl (λ_=>trivial) rfl (wpIn_exit (hR (.exit i) s2 hq j2 _ _ ⟨D',E',L.putL _ Z j6 j7⟩))
theorem aL.slot{S:Base}{s:St}{a:Act}{w:World}{D:Nat->Prop}{E:Nat->Ent}(h:aL S s.sig a w D E){d:Option Tmp}{v:Value}{x:AV}(u:s.tm.length=S.N)(hd:pW d s.tm.length=true)
  (y:x.rel S.P ⟨w,D,s.sig.m,E⟩ v):aL S (setSlot d x s).sig (a.put d v) w D E:=by
 have f:∀t,d=some t->t<S.N:=λt e=>by subst e;unfold pW at hd;rw[<- u];simpa using hd
 have z:=h.put (d:=d) (v:=v) (x:=x) f y;have e:(setSlot d x s).sig=⟨upT s.sig.T d x,s.sig.m,s.sig.sv⟩:=by
  unfold St.sig setSlot;congr 1;funext t;cases d with
  |none=>simp[upT]|some d=>
   unfold upT;have j:d<s.tm.length:=by rw[u];exact f d rfl
   by_cases e:t=d;subst e;simp[qA,j];have:¬d=t:=λg=>e g.symm;simp[qA,vP,this,e]
 rw[e];exact z
variable {ns:List Ob}{m:Nat->Option Blk}
theorem N8{T:Nat->AV}{g:Bool}{o:Op}{r:DC}{f:List Nat}(h:yd c T m g o=some (ns,r,f)):∀d,o≠.defer d:=λd e=>by rw[e]at h;cases h
theorem Je{T j:Nat->AV}{g:Bool}{o:Op}(h:∀x∈o.operands.toList,evT c.G j x=evT c.G T x):yd c j m g o=yd c T m g o:=by
 unfold yd;split;rename_i x;rw[h x (by simp[Op.operands])];rename_i f args _;have e:jE c j g args.toList=jE c T g args.toList:=by
  unfold jE;apply zS;intro x u;rw[h x (by simp[Op.operands,Call.operands];exact .inr (by simpa using u))]
 rw[e];rfl
variable {σ:Sig}
theorem zb(y:c.G=S.G)(h:aL S σ a w D E):∀{args:List Operand},(∀q:Ob,q∈(jE c σ.T true args).flatMap (·.2)->q)->
  AV.relL S.P ⟨w,D,σ.m,E⟩ ((jE c σ.T true args).map (·.1)) (args.map a.eval)
 |[],_=>rfl|x::args,u=>by
  have j:=dV h x;rw[<- y]at j;refine⟨_,_,rfl,ny (g:=true) rfl (λq f=>u q ?_) j,zb y h λq f=>u q ?_⟩;simp only[jE,wR,yZ,qJ];exact .inl f;simp only[jE,wR,yZ,qJ];exact .inr f
theorem Va{a:AV}{v u:Value}(h:valOf a=some v)(f:a.rel P C u):u=v:=by
 unfold valOf at h;split at h;split at h;cases h;simpa only[AV.rel,af,vF,wB]using f;cases h;cases h;exact f;cases h
theorem Rx(H:OkS c S)(hd:aL S σ a w D E){o:Oper}{r:DC}{nms:List Nat}(y:yd c σ.T σ.m true o.op=some (ns,r,nms))(hns:∀q∈ns,q)(hpre:r.pre)
  (hrk:r.ok=false) {K:Act->World->Prop} (hR:∀w',Sim S (CU nms σ) a w'->R (.panic (chainOf r.pan)) a w'):o.wpIn S.F 0 S.P a w K R:=by
 unfold Oper.wpIn;refine⟨λf _=>S.F_fn f,?_⟩;rw[Oper.semAt_eq _ _ _ (N8 y)];unfold yd at y;split at y;rename_i x A;split at y;case h_2=>cases y
 rename_i t av ns' hx;split at y;case h_2=>cases y
 rename_i v hv;cases y;have hrel:=dV hd x;rw[<- H.G]at hrel;have hrel:=ny (g:=true) rfl (λq hq=>hns q (by rw[hx]at hq;exact hq)) hrel;rw[hx]at hrel;obtain⟨u,hu,X⟩:=hrel;have X:=Va hv X;subst X;have j:(execOp a.eval o).run S.P w=.halt (.panic (.iface t u)) w:=by
  obtain⟨dst,op,ty,pos,after,guard⟩:=o;simp only at A;subst A;simp only[execOp,hu];rfl
 rw[j];refine hR w ⟨D,E,?_⟩;exact hd.dropped (ns:=[]) ⟨rfl,rfl,rfl,qN _,λ_ _ _=>rfl⟩;rename_i f args at_ A;split at y;case isFalse=>cases y
 rename_i hc;simp only[qC,wX]at hc;obtain⟨_,hgo⟩:=hc;split at y;case h_2=>cases y
 rename_i r' hkp;cases y;have L:=uP (ts:=kA c.P f) (zb H.G hd hns);rw[<- H.P]at L;have z:=zr (cL σ.m (AV.namesL (yf c.P (kA c.P f) ((jE c σ.T true args.toList).map (·.1))))) L;have hG0:jB S.P ⟨w,D,bG (dS σ.m (cL σ.m (AV.namesL (yf c.P (kA c.P f) ((jE c σ.T true args.toList).map (·.1)))))),E⟩ S.G:=jB.mono (C:=⟨w,D,σ.m,E⟩) ⟨λ_ g=>g,λ_ _=>rfl⟩ hd.gl;rw[H.P]at z;have hcall:=H.KP _ _ _ _ (by rw[H.P]at hkp;exact hkp) hpre hrk w D E (args.toList.map a.eval) hd.dlt (by rw[H.P]at hG0;exact hG0) z (hd.heldOf _);have j:(execOp a.eval o).run S.P w=.ok (.enter f (args.toList.map a.eval).toArray) w:=by
  obtain⟨dst,op,ty,pos,after,guard⟩:=o;simp only at A;subst A;have hg2:=mh (P:=S.P) (by rw[<- H.P];exact hgo) w (args.map a.eval);have e1:(args.toList.map a.eval).toArray=args.map a.eval:=by rw[toList_map]
  rw[e1];simp only[execOp,resolve,Act.eval,Deferred.ofValue,wS,yN,wK,invoke,Array.append_empty,qAh];simpa using hg2
 rw[j,Oper.uponIn_enter];refine⟨λh=>(by rw[S.F_depth]at h;cases h),Base.callsIn (hcall.mono λe2 w2 he=>?_)⟩;obtain⟨rfl,hb⟩:=he;refine hR w2 ⟨D,E,?_⟩;rw[H.P];exact hd.dropped hb;cases y
variable {ops:Array Oper}
theorem IZ(H:OkS c S)(hR:∀e s',Q e s'->s'.tm.length=S.N->∀a w,Sim S s'.sig a w->R e a w):
  ∀(os:List Oper) (j:Nat) (s:St),(∀i o,os[i]?=some o->ops[j+i]?=some o)->YE c ops os s Q->s.tm.length=S.N->∀a w,Sim S s.sig a w->wpOpsIn S.F 0 S.P ops R (List.range' j os.length) a w
 |[],j,s,_,h,hl,a,w,hs=>by
  simp only[yR,qBp,wpOpsIn];simp only[YE]at h;exact hR _ s h hl a w hs
 |o::os,j,s,hops,h,hl,a,w,hs=>by
  have ho:ops[j]?=some o:=by simpa using hops 0 o rfl
  have hos:∀i o',os[i]?=some o'->ops[j+1+i]?=some o':=λi o' hi=>by
   have:=hops (i+1) o' (by simpa using hi);rw[show j+1+i=j+(i+1) by omega];exact this
  obtain⟨D,E,hd⟩:=hs;simp only[YE]at h;split at h;case h_2=>exact h.elim
  rename_i g hge;have L:=CP (o:=o) hd hge;rw[wH,qAr,wpOpsIn_cons];have step:∀{q:Rec},iM c.P c.G c.K (c.mt o) ops s.nx s.sig o=some q->jM q s.tm.length=true/\FY q s=true->all q.need (YE c ops os (dc q s) Q)->wpOpIn S.F 0 S.P ops R j (wpOpsIn S.F 0 S.P ops R (List.range' (j+1) os.length)) a w:=by
   intro q y z hall;obtain⟨hns,u⟩:=cy hall;have hdst:∀d,o.dst=some d->d<S.N:=by
    intro d hdd;have e:q.dst=o.dst:=by
     unfold iM at y;split at y;split at y;unfold Jo at y;split at y;cases y;rfl;split at y;cases y;rfl;cases y;cases y;cases y
    have A:=z.1;unfold jM at A;simp only[qC]at A;have:=A.1;rw[e,hdd]at this;rw[<- hl];simpa using this
   have hq':iM S.P S.G c.K (c.mt o) ops s.nx s.sig o=some q:=by rw[<- H.P,<- H.G];exact y
   have:=oQ (Q:=R) H.K ho ⟨D,E,hd⟩ hdst hq' hns (λk hk=>by
    have:=z.2;unfold FY at this;rw[hk]at this;exact Kr this)
   refine wpOpIn_mono (λa' w' h'=>IZ H hR os (j+1) _ hos u (by rw[iU];exact hl) a' w' ?_) this;show Sim S (dc q s).sig a' w';rw[gm z.1];exact h'
  split at h
  ·
   rename_i ns r nms X;obtain⟨h1,A⟩:=h;by_cases hpan:g=true/\r.ok=false;obtain⟨rfl,hrk⟩:=hpan;obtain⟨hns,hpre,u⟩:=cy (h1 rfl);have u:=u hrk;unfold wpOpIn;rw[ho];simp only;rw[L];simp only[kJ];exact Rx H hd X hns hpre hrk λw' hs'=>hR _ (CS nms s) u hl a w' (by rw[HS];exact hs');have hgo:g=true->r.ok=true:=λe=>by
    cases hk:r.ok with
    |true=>rfl|false=>exact(hpan ⟨e,hk⟩).elim
   split at A
   ·
    rename_i hisp;have hg:g=false:=by
     cases hg:g with
     |false=>rfl|true=>
      have:=hgo hg;unfold yd at X;split at X;split at X;split at X;cases X;cases this;cases X;cases X;rename_i hop;rw[hop]at hisp;cases hisp;cases X
    split at A;rename_i hnone;have:o.guard=none:=by simpa using hnone
    rw[this]at hge;simp only[PI,vV]at hge;rw[<- hge]at hg;cases hg;obtain⟨hdo,u⟩:=A;unfold wpOpIn;rw[ho];simp only;rw[L,hg];simp only[wZ,kX];refine⟨λf _=>S.F_fn f,IZ H hR os (j+1) _ hos (u hg) (by simp[setSlot];split<;>simp[hl]) _ _ ⟨D,E,?_⟩⟩;exact hd.slot hl hdo ⟨λe=>(by rw[hg]at e;cases e),λ_=>rfl⟩
   split at A;case h_2=>exact A.elim
   rename_i q y;split at A;case isFalse=>exact A.elim
   rename_i z;exact step y z (A hgo)
  split at h;case h_2=>exact h.elim
  rename_i q y;split at h;case isFalse=>exact h.elim
  rename_i z;exact step y z h
theorem DW(t:Nat):∀(ts:List Tmp) (l:List AV),(oJ ts l).getD t .top=if t∈ts then .top else l.getD t .top
 |[],l=>by simp[oJ]|d::ts,l=>by
  simp only[oJ];rw[DW t ts];by_cases f:t∈ts;rw[if_pos f,if_pos (wU _ f)];rw[if_neg f];by_cases u:t=d;subst u;rw[if_pos wO,qA,vP];split;split<;>rfl;rename_i j;exact(j rfl).elim;rw[if_neg (λh=>(wY.1 h).elim u f),qA,qA,zT (λe=>u e.symm)]
theorem gM(h:Sim S σ a w)(hm:σ.m=s.sig.m)(f:σ.sv=s.sig.sv)(j:∀t,σ.T t=s.sig.T t\/t∈ops.toList.filterMap (·.dst)):Sim S (ZI ops s).sig a w:=by
 obtain⟨D,E,hd⟩:=h;obtain⟨T,m,sv⟩:=σ;simp only at hm f j;subst hm f;refine⟨D,E,hd.sz,hd.df,λt=>?_,hd.bl,hd.own,hd.inj,hd.low,hd.dlt,hd.dlo,hd.dhi,hd.gl,hd.svr,hd.pv⟩;show((oJ (ops.toList.filterMap (·.dst)) s.tm).getD t .top).rel S.P _ _;rw[DW];split;trivial;rename_i u;rcases j t with e|e;have y:=hd.tm t;show(s.sig.T t).rel S.P ⟨w,D,s.sig.m,E⟩ _;rw[<- e];exact y;exact(u e).elim
theorem oR{K:Kt}{mt:Bool}{nx:Nat}{o:Oper}{r:Rec}(h:iM P G K mt ops nx σ o=some r):r.dst=o.dst/\∀x∈o.op.operands.toList,∀t,x=.tmp t->t∈r.reads:=by
 have this:r.dst=o.dst/\r.reads=o.op.operands.toList.flatMap Qa++tI ops o.guard:=by
  unfold iM at h;split at h;split at h;unfold Jo at h;split at h;cases h;exact⟨rfl,rfl⟩;split at h;cases h;exact⟨rfl,rfl⟩;cases h;cases h;cases h
 refine⟨this.1,λx f t e=>?_⟩;rw[this.2,qJ,yU];exact .inl ⟨x,f,by rw[e];simp[Qa]⟩
theorem zm{rs:List Rec}{done:Nat->Bool}{dsts:List Tmp}{s:Sig}:∀n,(∀j r,j<n->done j=true->rs[j]?=some r->r.upd=[]/\∀d,r.dst=some d->d∈dsts)->
  (iZ (gk rs) done n s).m=s.m/\(iZ (gk rs) done n s).sv=s.sv/\∀t,(iZ (gk rs) done n s).T t=s.T t\/t∈dsts
 |0,_=>⟨rfl,rfl,λ_=>.inl rfl⟩|n+1,h=>by
  obtain⟨u,i2,f⟩:=zm n λj r G=>h j r Z;simp only[iZ];split;rename_i hd;unfold gk;cases y:rs[n]? with
  |none=>exact⟨u,i2,f⟩|some r=>
   obtain⟨A,z⟩:=h n r Z hd y;simp only[dY];refine⟨?_,i2,λt=>?_⟩;rw[A];exact u;unfold upT;split;rename_i e;exact .inr (z t e.symm);exact f t
  exact⟨u,i2,f⟩
theorem XK(H:OkS c S)(hR:∀e s',Q e s'->s'.tm.length=S.N->∀a w,Sim S s'.sig a w->R e a w)
  (h:aAV c ops s Q) (hl:s.tm.length=S.N) (hs:Sim S s.sig a w) {id:Nat}:(Code.region id ops true).wpIn S.F 0 S.P R a w:=by
 unfold aAV at h;split at h;case h_2=>exact h.elim
 rename_i rs o hrs L;obtain⟨q,hq⟩:∃q,q=ops.toList.findIdx (ve c):=⟨_,rfl⟩;obtain⟨A,htbl⟩:∃A,A=qg [] ops.toList:=⟨_,rfl⟩;rw[<- hq]at L;rw[<- hq,<- htbl]at h;split at h;case isFalse=>exact h.elim
 rename_i hc;obtain⟨k1,k2,k3,k4⟩:=hc;split at h;case h_2=>exact h.elim
 rename_i ns r X hp;obtain⟨hlive,h⟩:=cy h;obtain⟨hns,hpre,hyes,hno⟩:=cy h;obtain⟨f,hat⟩:=I2 hrs;have f:rs.length=ops.size:=by simpa using f
 have u:∀(j:Nat) o r,ops[j]?=some o->rs[j]?=some r->iM S.P S.G c.K (aD5 c.mb o) ops (qk rs s j).nx (qk rs s j).sig o=some r/\jM r s.tm.length=true:=λj o r L y=>by
  have:=hat j o r (by simpa using L) y;rw[H.P,H.G]at this;exact this
 have hok:∀(j:Nat) (r:Rec),rs[j]?=some r->jM r s.tm.length=true:=λj r y=>by
  have hj:j<ops.size:=by rw[<- f];exact(qE.1 y).1
  exact(u j _ r (zV hj) y).2
 have hqs:q<ops.size:=(qK.1 L).1;have hdst:∀(j:Nat) o r,ops[j]?=some o->rs[j]?=some r->∀d,o.dst=some d->d<S.N:=λj o r L y d hd=>by
  obtain⟨h1,h2⟩:=u j o r L y;unfold jM at h2;simp only[qC]at h2;have h3:=h2.1;rw[(oR h1).1,hd]at h3;rw[<- hl];simpa using h3
 cases hk:r.ok with
 |true=>
  obtain⟨g1,g2⟩:=cy (hyes hk);have HR:Iy S c.K c.mb ops s rs:=⟨f,u,hl,λj r y p hp=>g1 p (yU.2 ⟨r,qY y,hp⟩)⟩;exact uz H.K H.m HR k1 k2 hs.draw λa' w' hs'=>hR _ _ g2 ((oS _ _ _).trans hl) a' w' hs'
 |false=>
  have z:∀j (r:Rec),rs[j]?=some r->j≠q->(A.getD j 0).testBit q=false->(∀p∈r.need,p)/\r.upd=[]:=λj r y hjq hb=>by
   have hj:=(qE.1 y).1;have e:rs.getD j dflt=r:=wj y;refine⟨λp hp=>hlive p ?_,?_⟩;unfold Gx;rw[yU];refine⟨j,by simpa using hj,?_⟩;rw[if_neg (by simp[hjq];rw[<- qCv]at hb;simpa using hb),e];exact hp;unfold Ry at k3;rw[qU]at k3;have:=k3 j (by simpa using hj);rw[e]at this;simp only[yO,yJ,hjq,false_or,hb,wZ,qC,wX]at this;exact this.1
  refine M8 (mb:=c.mb) (q:=q) H.K H.m f (λj o r L y hlv=>⟨(u j o r L y).1,hdst j o r L y,(z j r y hlv.1 hlv.2).1⟩) hok k1 k2 (λh=>absurd hqs Z)
   (λ_ n listed a1 w1 hqf hdesc hrok hsim=>?_) hs.draw
  .obtain⟨rq,hrq⟩:∃rq,rs[q]?=some rq:=⟨_,qB (by rw[f];exact hqs)⟩;have g1:=hrok rq hrq;have hgd:o.guard=none:=by simpa using k4
   obtain⟨D,E,hd⟩:=(show Sim _ _ _ _ from hsim);unfold wpOpIn;rw[L];simp only;rw[show Region.wanted o (yielded ops a1.tmps)=true by unfold Region.wanted;rw[hgd]];simp only[kJ];have hqt:=zm (rs:=rs) (done:=λi=>listed.getD i false) (dsts:=ops.toList.filterMap (·.dst)) (s:=s.sig) ops.size λj r hj hdn y=>by
    have hoj:=zV hj;have hjq:j≠q:=λe=>by subst e;rw[hqf]at hdn;cases hdn
    have hb:(A.getD j 0).testBit q=false:=by
     cases hb:(A.getD j 0).testBit q with
     |false=>rfl|true=>have:=hdesc j hb hj;rw[this]at hdn;cases hdn
    refine⟨(z j r y hjq hb).2,λd hd=>?_⟩;rw[(oR (u j _ r hoj y).1).1]at hd;rw[List.mem_filterMap];exact⟨ops[j],by simp,hd⟩
   have hp':yd c (iZ (gk rs) (λi=>listed.getD i false) ops.size s.sig).T (iZ (gk rs) (λi=>listed.getD i false) ops.size s.sig).m true o.op=some (ns,r,X):=by
    rw[<- hp,hqt.1];refine Je λx hx=>?_;cases x with
    |tmp t=>exact zX IU (g1 t ((oR (u q o rq L hrq).1).2 _ hx t rfl))|_=>rfl
   refine Rx H hd hp' hns hpre hk λw' hs'=>hR _ (ZI ops (CS X s)) (hno hk) ?_ a1 w' (gM hs' ?_ ?_ ?_);have:∀(ts:List Tmp) (l:List AV),(oJ ts l).length=l.length:=by
    intro ts;induction ts with
    |nil=>intro l;rfl
    |cons d ts ih=>intro l;simp[oJ,ih]
   exact(this _ _).trans hl;rw[HS];show(λk=>if X.contains k=true then none else _)=(λk=>if X.contains k=true then none else _);rw[hqt.1];exact hqt.2.1;exact hqt.2.2
theorem wN{v:AV}{u:Value}{b:Bool}(hc:TV v=some (ns,b))(f:∀p∈ns,p)(hrel:v.rel P C u):u=.bool b:=by
 unfold TV at hc;split at hc;cases hc;simpa only[AV.rel,af,vF,wB]using hrel;rename_i g j;cases hc;have h:g=true:=Ob.get f (by simp);simpa only[AV.rel,af,vF,wB]using hrel.1 h;cases hc
variable {A:Ann}
theorem lD: ∀(x:Code) (S:Base) (s:St) (Q:Exit->St->Prop) (R:Exit->Act->World->Prop),OkS c S->
  evO c A x s Q->s.tm.length=S.N->(∀e s',Q e s'->s'.tm.length=S.N->∀a w,Sim S s'.sig a w->R e a w)->∀a w,Sim S s.sig a w->At S.P S.rd x R a w
 | .skip,S,s,Q,R,H,h,hl,j,a,w,u=>Pn (wpIn_skip (j _ s h hl a w u))
 | .region id ops draw,S,s,Q,R,H,h,hl,j,a,w,u=>by
  have key:∀s1:St,s1.tm.length=S.N->Sim S s1.sig a w->aD1 c ops draw s1 Q->At S.P S.rd (Code.region id ops draw) R a w:=by
   intro s1 hl1 hs1 L;unfold aD1 at L;split at L
   .split at L
    .rename_i hdr;subst hdr;exact Pn (XK H j L hl1 hs1)
    .rename_i hdr;have hdr:draw=false:=by simpa using hdr
     subst hdr;refine Pn (wpIn_region ?_);have:=IZ H j ops.toList 0 s1 (λi o ho=>by simpa using ho) L hl1 a w hs1;rw[qAq];simpa using this
   unfold aBA at L;split at L
   .rename_i ns s' he;obtain⟨g1,g2⟩:=cy L;exact Pn (Ri H.P H.G H.K H.m he g1 hl1 hs1 λa' w' f=>j _ s' g2 ((I9 he).trans hl1) a' w' f)
   .exact L.elim
  unfold evO at h;split at h
  .exact key s hl u h
  .rename_i s1 _;split at h
   .rename_i ms hms;obtain⟨g1,g2⟩:=cy h;exact key s1 ((mN hms).symm.trans hl) (EJ u hms g1) g2
   .exact h.elim
 | .seq x y,S,s,Q,R,H,h,hl,j,a,w,u=>by
  have key:evO c A x s (λe s'=>match e with | .normal=>evO c A y s' Q | e=>Q e s')->At S.P S.rd (Code.seq x y) R a w:=by
   intro h;refine xm (lD x S s _ _ H h hl (λe s' hq X a' w' f=>?_) a w u);cases e<;>first
    | exact lD y S s' Q R H hq X j a' w' f
    | exact j _ s' hq X a' w' f
  unfold evO at h;split at h
  .split at h
   .rename_i sp _;obtain⟨h1,h2⟩:=h;refine xm (lD x S s _ _ H h1 hl (λe s' hq X a' w' f=>?_) a w u);cases e<;>first
     | (obtain⟨y',g1,g2⟩:=hq;exact lD y S _ Q R H (h2 y' g1) ((vk g2).symm.trans X) j a' w' (BX g2 f))
     | exact j _ s' hq X a' w' f
   .exact key h
  .exact key h
 | .cond t x y,S,s,Q,R,H,h,hl,j,a,w,u=>by
  unfold evO at h;split at h
  case h_2=>exact h.elim
  rename_i ns b hc;obtain⟨g1,g2,g3⟩:=cy h;obtain⟨D,E,hs0⟩:=id u;have hrel:=dV hs0 t;rw[<- H.G]at hrel;have hb:a.eval t=.bool b:=wN hc g1 hrel;exact Us hb (λe=>lD x S s Q R H (g2 e) hl j a w u) (λe=>lD y S s Q R H (g3 e) hl j a w u)
 | .block id x,S,s,Q,R,H,h,hl,j,a,w,u=>by
  unfold evO at h;refine tW (lD x S s _ _ H h hl (λe s' hq X a' w' f=>?_) a w u);cases e<;>first
   | exact j _ s' hq X a' w' f
   | (rename_i id'
      simp only[Exit.inBlock];simp only at hq;split at hq
      .rename_i e;rw[if_pos e];exact j _ s' hq X a' w' f
      .rename_i e;rw[if_neg e];exact j _ s' hq X a' w' f)
 | .exit id,S,s,Q,R,H,h,hl,j,a,w,u=>Pn (wpIn_exit (j _ s h hl a w u))
 | .ret,S,s,Q,R,H,h,hl,j,a,w,u=>Pn (wpIn_ret (j _ s h hl a w u))
 | .loop x,S,s,Q,R,H,h,hl,j,a,w,u=>by
  unfold evO at h;split at h
  case h_2=>exact h.elim
  split at h
  case h_2=>exact h.elim
  rename_i sp _;obtain⟨⟨x0,i1,i2⟩,h2⟩:=h;refine at_loop (λn a w=>∃y,sp.inv y/\sp.μ y=n/\(sp.st y).tm.length=S.N/\Sim S (sp.st y).sig a w) (sp.μ x0) ⟨x0,i1,rfl,(vk i2).symm.trans hl,BX i2 u⟩ ?_;rintro n a w ⟨y,j1,rfl,j2,j3⟩;refine lD x S (sp.st y) _ _ H (Yh h2 y j1) j2 (λe s' hq X a' w' f=>?_) a w j3;cases e<;>first
   | (obtain⟨z,k1,k2,k3⟩:=hq;exact⟨sp.μ z,k3,z,k1,rfl,(vk k2).symm.trans X,BX k2 f⟩)
   | exact j _ s' hq X a' w' f
 | .rangeFunc g ps x y,S,s,Q,R,H,h,hl,j,a,w,u=>by
  unfold evO at h;split at h
  case h_2=>exact h.elim
  rename_i gf caps rid hev hid;split at h
  case h_2=>exact h.elim
  rename_i it sp hki hsp;exact YK (λs Q h S R H hl j a w u=>lD x S s Q R H h hl j a w u) (λs Q h S R H hl j a w u=>lD y S s Q R H h hl j a w u) (λ_ _ g=>.inr g) hev hki h S R H hl j a w u
 | .scope x,S,s,Q,R,H,h,hl,j,a,w,u=>by
  unfold evO at h;refine Nw (lD x S s _ _ H h hl (λe s' hq X a' w' f=>?_) a w u);cases e<;>first
   | exact hq.elim
   | exact j _ s' hq X a' w' f
 | .label _,S,s,Q,R,H,h,hl,j,a,w,u=>by
  unfold evO at h;exact Pn (wpIn_label (j _ s h hl a w u))
 | .goto _,S,s,Q,R,_,h,_,_,_,_,_=>by unfold evO at h;exact h.elim
 | .refuse _,S,s,Q,R,_,h,_,_,_,_,_=>by unfold evO at h;exact h.elim
mutual
theorem AV.same_eq:∀{a b:AV},AV.same a b=true->a=b
 |.dat t x,.dat f y,h=>by
  simp only[AV.same]at h;split at h;rename_i e;subst e;rw[(Ty.eqb_iff _ _ _).1 h];cases h
 |.ip t x,.ip f y,h=>by
  simp only[AV.same]at h;split at h;rename_i e;subst e;rw[(Ty.eqb_iff _ _ _).1 h];cases h
 |.ips _,.ips _,h=>zX AV.ips (AV.sameL_eq h)|.agg _,.agg _,h=>zX AV.agg (AV.sameL_eq h)|.tup _,.tup _,h=>zX AV.tup (AV.sameL_eq h)|.ipv _,.ipv _,h=>zX AV.ipv (AV.same_eq h)|.top,.top,_=>rfl
theorem AV.sameL_eq:∀{a b:List AV},AV.sameL a b=true->a=b
 |[],[],_=>rfl|_::_,_::_,h=>by
  simp only[AV.sameL,qC]at h;rw[AV.same_eq h.1,AV.sameL_eq h.2]
end
theorem Si{m:Mem}(h:Jw G g gf caps m s=true)(f:(AV.namesL caps).isEmpty=false):Aj G g gf s=some (BV m caps):=by
 unfold Jw at h;rw[f,xO]at h;split at h;rename_i l e;rw[e,AV.sameL_eq h];cases h
theorem VW{u j:St->Option (Exit×St)}{f:St->Bool}{ps:List Tmp}{L:List t.den}{r:Exit×St}(h:UQ u j f ps t L s=some r):f s=true:=by
 cases L<;>(simp only[UQ]at h;split at h<;>first|assumption|cases h)
theorem gC{n:Nat}:∀(x:Code) {s:St}{e:Exit}{s':St},run c A n x s=some (e,s')->∀{Q:Exit->St->Prop},Q e s'->Ok c x s Q
 |.skip,s,e,s',h,Q,u=>λS R H hl hR a w hs=>by
  cases h;exact Pn (wpIn_skip (hR _ _ u hl a w hs))
 |.region id ops draw,s,e,s',h,Q,u=>by
  have key:∀s1:St,DG c ops draw s1=some (e,s')->Ok c (.region id ops draw) s1 Q:=by
   intro s1 h S R H hl hR a w hs;unfold DG at h;split at h;cases h;split at h;rename_i ns s2 he;split at h;rename_i hk;cases h;exact Pn (Ri H.P H.G H.K H.m he (jN hk) hl hs λa' w' f=>hR _ _ u ((I9 he).trans hl) a' w' f);cases h;cases h
  have key2:∀s1:St,ES c ops draw s s1=some (e,s')->Ok c (.region id ops draw) s Q:=by
   intro s1 h;unfold ES at h;split at h;rename_i ms hms;split at h;rename_i hk;exact λS R H hl hR a w hs=>key s1 h S R H ((mN hms).symm.trans hl) hR a w (EJ hs hms (jN hk));cases h;cases h
  unfold run at h;split at h;split at h;rename_i hr;cases h;exact key s hr;exact key2 _ h;exact key2 _ h
 |.seq x y,s,e,s',h,Q,u=>λS R H hl hR a w hs=>by
  unfold run at h;split at h;rename_i s1 h1;refine xm (gC x h1 (Q:=λe t=>e=.normal/\t=s1) ⟨rfl,rfl⟩ S _ H hl (λe' t g j a' w' f=>?_) a w hs);obtain⟨rfl,rfl⟩:=g;exact gC y h u S R H j hR a' w' f;rename_i hne;refine xm (gC x h (Q:=λe' t=>e'=e/\t=s') ⟨rfl,rfl⟩ S _ H hl (λe' t g j a' w' f=>?_) a w hs);obtain⟨rfl,rfl⟩:=g;cases e'<;>first
   |exact(hne _ h).elim
   |exact hR _ _ u j a' w' f
 |.cond t x y,s,e,s',h,Q,u=>λS R H hl hR a w hs=>by
  unfold run at h;split at h;case h_2=>cases h
  rename_i ns b hc;split at h;case isFalse=>cases h
  rename_i hk;obtain⟨D,E,hs0⟩:=id hs;have hrel:=dV hs0 t;rw[<- H.G]at hrel;refine Us (wN hc (jN hk) hrel) (λe=>?_) λe=>?_;subst e;exact gC x h u S R H hl hR a w hs;subst e;exact gC y h u S R H hl hR a w hs
 |.block id x,s,e,s',h,Q,u=>λS R H hl hR a w hs=>by
  unfold run at h;split at h;rename_i id' s1 h1;refine tW (gC x h1 (Q:=λe t=>e=.exit id'/\t=s1) ⟨rfl,rfl⟩ S _ H hl (λe' t g j a' w' f=>?_) a w hs);obtain⟨rfl,rfl⟩:=g;simp only[Exit.inBlock];split at h;rename_i e;cases h;rw[if_pos e];exact hR _ _ u j a' w' f;rename_i e;cases h;rw[if_neg e];exact hR _ _ u j a' w' f;rename_i hne;refine tW (gC x h (Q:=λe' t=>e'=e/\t=s') ⟨rfl,rfl⟩ S _ H hl (λe' t g j a' w' f=>?_) a w hs);obtain⟨rfl,rfl⟩:=g;cases e'<;>first
   |exact(hne _ _ h).elim
   |exact hR _ _ u j a' w' f
 |.exit id,s,e,s',h,Q,u=>λS R H hl hR a w hs=>by cases h;exact Pn (wpIn_exit (hR _ _ u hl a w hs))
 |.ret,s,e,s',h,Q,u=>λS R H hl hR a w hs=>by cases h;exact Pn (wpIn_ret (hR _ _ u hl a w hs))
 |.label _,s,e,s',h,Q,u=>λS R H hl hR a w hs=>by cases h;exact Pn (wpIn_label (hR _ _ u hl a w hs))
 |.scope x,s,e,s',h,Q,u=>λS R H hl hR a w hs=>by
  unfold run at h;split at h;cases h;rename_i hne;refine Nw (gC x h (Q:=λe' t=>e'=e/\t=s') ⟨rfl,rfl⟩ S _ H hl (λe' t g j a' w' f=>?_) a w hs);obtain⟨rfl,rfl⟩:=g;cases e'<;>first
   |exact(hne _ _ h).elim
   |exact hR _ _ u j a' w' f
 |.loop x,s,e,s',h,Q,u=>λS R H hl hR a w hs=>by
  unfold run at h;refine at_loop (λk a w=>∃z,VX (λs=>run c A n x s) k z=some (e,s')/\z.tm.length=S.N/\Sim S z.sig a w) n ⟨s,h,hl,hs⟩ ?_;rintro k a w ⟨z,j1,j2,j3⟩;cases k with
  |zero=>cases j1
  |succ k=>
   unfold VX at j1;split at j1;rename_i s1 h1;refine gC x h1 (Q:=λe t=>e=.normal/\t=s1) ⟨rfl,rfl⟩ S _ H j2 (λe' t g j a' w' f=>?_) a w j3;obtain⟨rfl,rfl⟩:=g;exact⟨k,Nat.lt_succ_self k,_,j1,j,f⟩;rename_i hne;refine gC x j1 (Q:=λe' t=>e'=e/\t=s') ⟨rfl,rfl⟩ S _ H j2 (λe' t g j a' w' f=>?_) a w j3;obtain⟨rfl,rfl⟩:=g;cases e'<;>first
    |exact(hne _ j1).elim
    |exact hR _ _ u j a' w' f
 |.rangeFunc g ps x y,s,e,s',h,Q,u=>by
  unfold run at h;split at h;case h_2=>cases h
  rename_i gf caps hev;split at h;case h_2=>cases h
  rename_i it hki;split at h;case isFalse=>cases h
  rename_i hc;rw[qC]at hc;obtain⟨hc,hfp⟩:=hc;rw[qC]at hfp;obtain⟨hfl,hpre⟩:=hfp;refine YK (EA:=λs1 Q1=>∃e1 t1,run c A n x s1=some (e1,t1)/\Q1 e1 t1) (EB:=λs1 Q1=>∃e1 t1,run c A n y s1=some (e1,t1)/\Q1 e1 t1) (le:=Eq)
   (sp:=⟨Nat×St,λz=>UQ (λs=>run c A n x s) (λs=>run c A n y s) (Jw c.G g gf caps s.mem) ps.toList it.t (it.L.drop z.1) z.2=some (e,s'),(·.2),(·.1),[]⟩)
   (λs1 Q1 ⟨_,_,h1,h2⟩=>gC x h1 h2) (λs1 Q1 ⟨_,_,h1,h2⟩=>gC y h1 h2) (λ_ _ g=>.inl g) hev hki ?_
  unfold aDZ;rw[if_pos hc];have X:∀{p:Prop},p->GG c.G g gf caps s.mem (λz:Nat×St=>UQ (λs=>run c A n x s) (λs=>run c A n y s) (Jw c.G g gf caps s.mem) ps.toList it.t (it.L.drop z.1) z.2=some (e,s')) (·.2) it.t p:=λhp=>by
   unfold GG;split;exact hp;rename_i hnm;have hnm:(AV.namesL caps).isEmpty=false:=by simpa using hnm
   rw[hnm,xO]at hfl;exact⟨hfl,λz hz=>Si (VW hz) hnm,hp⟩
  refine X ⟨it.pre.h hpre,⟨(0,s),h,rfl,rfl⟩,?_,?_⟩;rintro⟨k,z⟩ v hz hk;have hk:it.L[k]?=some v:=hk;have hz:UQ (λs=>run c A n x s) (λs=>run c A n y s) (Jw c.G g gf caps s.mem) ps.toList it.t (it.L.drop k) z=some (e,s'):=hz;obtain⟨hlt,rfl⟩:=qE.1 hk;rw[List.drop_eq_getElem_cons hlt]at hz;unfold UQ at hz;split at hz;case isFalse=>cases hz
  split at hz;case h_2=>cases hz
  rename_i s1 h1;refine⟨_,_,h1,?_⟩;split at hz;rename_i s2 h2;exact⟨_,_,h2,(k+1,nO s2),hz,rfl,rfl⟩;rename_i s2 h2;cases hz;exact⟨_,_,h2,u⟩;rename_i i s2 h2;cases hz;exact⟨_,_,h2,u⟩;cases hz;rintro⟨k,z⟩ hz hk;have hk:k=it.L.length:=hk;have hz:UQ (λs=>run c A n x s) (λs=>run c A n y s) (Jw c.G g gf caps s.mem) ps.toList it.t (it.L.drop k) z=some (e,s'):=hz;rw[hk,List.drop_length]at hz;unfold UQ at hz;split at hz;cases hz;exact u;cases hz
 |.goto _,_,_,_,h,_,_=>by cases h
 |.refuse _,_,_,_,h,_,_=>by cases h
theorem OM(x:Code)(S:Base)(s:St)(Q:Exit->St->Prop)(R:Exit->Act->World->Prop)(H:OkS c S)
  (h:ev c A x s Q) (j:s.tm.length=S.N) (u:∀e s',Q e s'->s'.tm.length=S.N->∀a w,Sim S s'.sig a w->R e a w) (a:Act) (w:World) (f:Sim S s.sig a w):At S.P S.rd x R a w:=by
 unfold ev at h;split at h;exact lD x S s Q R H h j u a w f;split at h;rename_i y;exact gC x y h S R H j u a w f;exact h.elim
end Go.Eng
