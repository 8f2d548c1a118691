/- PeH9 PeH10 PeH10b PeH11 PeH12 PeH12b PeH13 PeH14 PeH15 PeH15b -/
import Derived.Test.YtdeeijhmpjbfcaaGreatDoorECMatC
import Derived.Sort.LoopGhostIn
import Derived.RangeFuncLeaves
import Derived.RangeFuncSeq
import Derived.OrdersIn
import Derived.RangeFuncCalls
import Derived.RangeFuncFrom
set_option linter.all false
namespace Go.Eng
open Go.RowKit
abbrev Mem:=List (Nat×Blk)
structure jY where
 pre:Prop
 ret:AV
 upd:Mem:=[]
abbrev Kt:=FuncId->List AV->Mem->Option jY
def noM:Nat->Option Blk:=λ_=>none
def noE:Nat->Ent:=λ_=>⟨0,0,true,noR⟩
def bN(m:Mem):Nat->Option Blk:=λnm=>m.lookup nm
structure Held(P:Program)(w:World)(D:Nat->Prop)(m:Nat->Option Blk)(E:Nat->Ent):Prop where
 bl:∀nm b,m nm=some b->fe P 0 ⟨w,D,m,E⟩ (E nm) b
 own:∀nm b,m nm=some b->(E nm).isNil=false->(E nm).b<w.heap.size/\¬D (E nm).b
 inj:∀nm nm' b b',m nm=some b->m nm'=some b'->(E nm).isNil=false->(E nm').isNil=false->(E nm).b=(E nm').b->nm=nm'
 pv:fU 0 (λ_=>True) m E w.heap.size D
def fU.nil{lo n:Nat}{O D:Nat->Prop}{m:Nat->Option Blk}{E:Nat->Ent}(h:∀e i b,cB m E e i b->False):fU lo O m E n D:=
 ⟨λe i b g=>(h e i b g).elim,λe i b g=>(h e i b g).elim,λe i b _ _ g=>(h e i b g).elim⟩
variable {E:Nat->Ent}
def mf{e i b:Nat}(h:cB (λ_=>none) E e i b):False:=by
 obtain⟨_,_,_,_,_,_,h,_⟩:=h;cases h
def zC9(P:Program)(w:World)(D:Nat->Prop)(E:Nat->Ent):Held P w D (bN []) E:=
 ⟨λ_ _ h=>(by cases h),λ_ _ h=>(by cases h),λ_ _ _ _ h=>(by cases h),fU.nil λ_ _ _ h=>mf h⟩
def bA(m:Nat->Option Blk)(E:Nat->Ent):Nat->Prop:=λb=>∃nm blk,m nm=some blk/\(E nm).isNil=false/\b=(E nm).b
structure Left(P:Program)(m:Nat->Option Blk)(upd:Mem)(w:World)(D:Nat->Prop)(E:Nat->Ent)(w':World)(D':Nat->Prop)(E':Nat->Ent):Prop where
 chg:Chg (bA m E) w w'
 dlo:∀b,D b->D' b
 dhi:∀b,D' b->D b\/w.heap.size<=b\/bA m E b
 dlt:∀b,D' b->b<w'.heap.size
 held:Held P w' D' (upM m upd) E'
 agree:∀nm b b',m nm=some b->upM m upd nm=some b'->b'.len=b.len->E' nm=E nm
 moved:∀nm b b',m nm=some b->upM m upd nm=some b'->(E' nm).isNil=false->bA m E (E' nm).b\/w.heap.size<=(E' nm).b
 fresh:∀nm b,m nm=none->upM m upd nm=some b->(E' nm).isNil=false->w.heap.size<=(E' nm).b
 priv:∀nm i b,cB (upM m upd) E' nm i b->cB m E nm i b\/w.heap.size<=b
def ah(P:Program)(G:List (Nat×AV))(f:FuncId)(args:List AV)(m:Mem)(c:jY):Prop:=
 c.pre->∀(w:World) (D:Nat->Prop) (E:Nat->Ent) (us:Lv),(∀b,D b->b<w.heap.size)->me P ⟨w,D,bN m,E⟩ G->zA1 P ⟨w,D,bN m,E⟩ args us->Held P w D (bN m) E->
  Calls P f us.toArray w λe w'=>∃v D' E',e=.returned v/\Left P (bN m) c.upd w D E w' D' E'/\c.ret.rel P ⟨w',D',upM (bN m) c.upd,E'⟩ v
def ai(P:Program)(G:List (Nat×AV))(K:Kt):Prop:=∀f args m c,K f args m=some c->ah P G f args m c
structure AH where
 pre:Prop
 ok:Bool
 pan:Value
abbrev KPt:=FuncId->List AV->Mem->Option AH
def chainOf(v:Value):List PanicEntry:=[{v:=v,recovered:=false}]
def dA(P:Program)(G:List (Nat×AV))(f:FuncId)(args:List AV)(m:Mem)(r:AH):Prop:=
 r.pre->r.ok=false->∀(w:World) (D:Nat->Prop) (E:Nat->Ent) (us:Lv),(∀b,D b->b<w.heap.size)->me P ⟨w,D,bN m,E⟩ G->zA1 P ⟨w,D,bN m,E⟩ args us->Held P w D (bN m) E->
  Calls P f us.toArray w λe w'=>e=.panicked (chainOf r.pan)/\Chg (bA (bN m) E) w w'
def bJ(P:Program)(G:List (Nat×AV))(KP:KPt):Prop:=∀f args m r,KP f args m=some r->dA P G f args m r
def YF(P:Program)(t:TypeId)(a:AV):AV:=match a with
 |.val (.slice none 0 0)=>match P4 P t with
  |some (.sl e)=>.dat (.sl e) []|_=>a
 |.agg cs=>match P4 P t with
  |some ty=>match cU ty cs with
   |some (x,[])=>.agg (cellsOf ty x)|_=>a
  |none=>a
 |_=>a
def AX(P:Program):List TypeId->List AV->List AV|t::ts,a::aa=>YF P t a::AX P ts aa|_,aa=>aa
variable {C:Ctx}{P:Program}{v:Value}
def UE{t:TypeId}{a:AV}(h:a.rel P C v):(YF P t a).rel P C v:=by
 unfold YF;split;split;simp only[AV.rel]at h;subst h;exact bw _ _ _;exact h;split;split;rename_i x j;obtain⟨us,e,g⟩:=h;obtain⟨i,f,r,g1,g2⟩:=cH j g;have b:f=[]:=g2;subst b r;exact⟨i++[],e,by rw[wB];exact cy g1⟩;exact h;exact h;exact h
def xp:∀{ts:List TypeId}{aa:List AV}{us:Lv},zA1 P C aa us->zA1 P C (AX P ts aa) us
 |[],_,_,h=>h|_::_,[],_,h=>h|t::ts,a::aa,us,h=>by
  obtain⟨u,b,e,g1,g2⟩:=h;exact⟨u,b,e,UE g1,xp g2⟩
def mh(P:Program)(f:FuncId):List TypeId:=match P.funcs[f]? with|some fn=>fn.params.toList|none=>[]
def aFB:AV->Bool|.val (.slice none 0 0)=>true|_=>false
def iu(P:Program)(K:Kt)(f:FuncId)(args caps:List AV):List AV:=
 if(args.any aFB&&(K f (args++caps) []).isSome)=true then args else AX P (mh P f) args
variable {f:FuncId}{aa:List AV}{caps:List AV}{us:Lv}{K:Kt}
def Iw(h:zA1 P C aa us):zA1 P C (iu P K f aa caps) us:=by
 unfold iu;split;exact h;exact xp h
def nameless(a:AV):Bool:=a.names.isEmpty
def fq(m:Nat->Option Blk):List Nat->Mem
 |[]=>[]|nm::r=>match m nm with
  |some b=>(nm,b)::fq m r|none=>fq m r
def fm(m:Nat->Option Blk)(k:Nat):∀l:List Nat,(fq m l).lookup k=if k∈l then m k else none
 |[]=>rfl|nm::r=>by
  simp only[fq];split;rename_i b hb;simp only[List.lookup];by_cases e:k=nm;subst e;simp[hb];have:(k==nm)=false:=by simpa using e
  simp only[this,fm m k r,zH,e,false_or];rename_i hb;rw[fm m k r];by_cases e:k=nm;subst e;simp[hb];simp[e]
def ni(ns:List Nat)(b:Blk):Bool:=b.names.all λk=>ns.contains k
def Zb(n:Nat)(b:Blk):Prop:=match b with|.buf _ _ _ _=>Dy n b.len|_=>n=b.len
def O3{n:Nat}{b:Blk}(h:Zb n b):n<=b.len:=by
 unfold Zb at h;split at h;exact h;exact xO h
def grow(b0 b:Blk):Prop:=Zb b0.len b
def aCW{e b:Blk}(h:grow e b):e.len<=b.len:=O3 h
def Xb(m:Nat->Option Blk)(ns:List Nat):Mem->Option (List Prop)
 |[]=>some []|(k,b)::r=>match m k,Xb m ns r with
  |some b0,some q=>if ns.contains k&&ni ns b&&decide (b0.es=b.es)then some (grow b0 b::q)else none|_,_=>none
def Vp:Mem->Mem->Option (Nat×Blk)|[],[(k,b)]=>if b.names.isEmpty then some (k,b)else none|_,_=>none
def cQ(m:Nat->Option Blk)(l:List Nat):List Nat:=l++l.flatMap λk=>match m k with|some b=>b.names|none=>[]
variable {k:Nat}{l:List Nat}{m:Nat->Option Blk}
def dZ(h:k∈l):k∈cQ m l:=qJ.2 (.inl h)
def rS(h:k∈cQ m l):k∈l\/∃j∈l,∃b,m j=some b/\k∈b.names:=by
 rcases qJ.1 h with h|h;exact .inl h;obtain⟨j,f,e⟩:=xH.1 h;split at e;rename_i b hb;exact .inr ⟨j,f,b,hb,e⟩;cases e
def vr{j k:Nat}{b:Blk}(f:j∈l)(hb:m j=some b)(e:k∈b.names):k∈cQ m l:=
 qJ.2 (.inr (xH.2 ⟨j,f,by rw[hb];exact e⟩))
def rR{l f:List Nat}(h:∀k∈l,k∈f)(i:k∈cQ m l):k∈cQ m f:=by
 rcases rS i with g|⟨j,r,b,hb,e⟩;exact dZ (h k g);exact vr (h j r) hb e
def Ai{m m':Nat->Option Blk}(h:∀k∈l,m' k=m k):cQ m' l=cQ m l:=by
 unfold cQ;congr 1;simp only[List.flatMap_def];congr 1;exact zK λk b=>by rw[h k b]
def A8(P:Program)(K:Kt)(nx:Nat)(m:Nat->Option Blk)(callee:AV)(args:List AV):Option Core:=
 match callee,args with
 |.fn f caps,args=>if goes P f then
   if(cQ m (zA2 (iu P K f args caps++caps))).all (λk=>match m k with|some b=>ni (cQ m (zA2 (iu P K f args caps++caps))) b|none=>true)then
   match K f (iu P K f args caps++caps) (fq m (cQ m (zA2 (iu P K f args caps++caps))))with
   |some c=>match Vp (fq m (cQ m (zA2 (iu P K f args caps++caps)))) c.upd with
    |some (k0,b0)=>if c.ret.names.all (λk=>k==k0)then some {need:=[c.pre],val:=aCp nx c.ret,upd:=[(nx,b0)],new:=some nx} else none|none=>match Xb m (cQ m (zA2 (iu P K f args caps++caps))) c.upd with
     |some q=>if c.ret.names.all (λk=>(cQ m (zA2 (iu P K f args caps++caps))).contains k)then some {need:=c.pre::q,val:=c.ret,upd:=c.upd} else none|none=>none
   |none=>none
   else none
  else none
 |.clo1 a r pre g,[x]=>match x.aa a with
  |some x=>some {need:=[pre x],val:=.dat r (g x)}|none=>none
 |.clo2 a b r pre g,[x,y]=>match x.aa a,y.aa b with
  |some x,some y=>some {need:=[pre x y],val:=.dat r (g x y)}|_,_=>none
 |_,_=>none
theorem lQ {P : Program} {f : FuncId} (h : goes P f = true) (w : World) (args : Array Value) : (callFunc f args).run P w = .ok (.enter f args) w := by
  unfold goes at h
  split at h
  · rename_i fn hf
    simp only [qC, qDf, ne_eq] at h
    have h1 : fn.body.isNone = false := by cases hb : fn.body <;> simp_all
    have h2 : (fn.name == "runtime.NumGoroutine") = false := by simpa using h.2
    simp only [callFunc, wV, run_program, vZ, hf, h2, h1]
    rfl
  · cases h
def tI{C C':Ctx}{a:AV}(e:nameless a=true)(L:Later C C')(h:a.rel P C v):a.rel P C' v:=
 zA5 L (λf b=>by
  unfold nameless at e;rw[zB]at e;rw[e]at b;cases b) h
def dV(m:Nat->Option Blk)(u:Mem)(k:Nat):upM m u k=match u.lookup k with|some b=>some b|none=>m k:=rfl
variable {ns:List Nat}
def sf:∀{u:Mem}{q:List Prop},Xb m ns u=some q->(∀p∈q,p)->∀(k:Nat) (b:Blk),u.lookup k=some b->
  ∃g,m k=some g/\k∈ns/\g.es=b.es/\g.len<=b.len/\∀x∈b.names,x∈ns
 |[],_,_,_,k,b,f=>by simp at f|(k',G)::r,q,h,j,k,b,f=>by
  simp only[Xb]at h;split at h;case h_2=>cases h
  rename_i g A hm y;split at h;case isFalse=>cases h
  rename_i i;cases h;simp only[qC,qE]at i;simp only[List.lookup]at f;split at f;rename_i e;cases f;have e:k=k':=by simpa using e
  subst e;refine⟨g,hm,by simpa using i.1.1,i.2,aCW (j _ (by simp)),λx v=>?_⟩;have:=i.1.2;unfold ni at this;rw[qQ]at this;simpa using this x v;exact sf y (λp z=>j p (by simp[z])) k b f
def aQ.called{S:Base}{σ:Sig}{a:Act}{w w':World}{D D':Nat->Prop}{E E':Nat->Ent}(h:aQ S σ a w D E){ns:List Nat}{upd:Mem}{q:List Prop}
  (hns:∀k∈ns,∀b,σ.m k=some b->∀x∈b.names,x∈ns) (hu:Xb σ.m ns upd=some q) (hq:∀p∈q,p) (X:Left S.P (bN (fq σ.m ns)) upd w D E w' D' E'):
  aQ S ⟨σ.T,upM σ.m upd,σ.sv⟩ a w' D' (λk=>if k∈ns then E' k else E k)/\Later ⟨w,D,σ.m,E⟩ ⟨w',D',upM σ.m upd,λk=>if k∈ns then E' k else E k⟩:=by
 obtain⟨E2,hE2⟩:∃E2:Nat->Ent,E2=λk=>if k∈ns then E' k else E k:=⟨_,rfl⟩;have e2i:∀k,k∈ns->E2 k=E' k:=λk V=>by rw[hE2];exact if_pos V
 have e2o:∀k,k∉ns->E2 k=E k:=λk V=>by rw[hE2];exact if_neg V
 rw[<- hE2];have mem:∀k,bN (fq σ.m ns) k=if k∈ns then σ.m k else none:=λk=>fm σ.m k ns;have up:∀k b,upM σ.m upd k=some b->(∃b0,σ.m k=some b0/\b0.es=b.es/\b0.len<=b.len):=λk b V=>by
  rw[dV]at V;split at V;rename_i b1 h1;cases V;obtain⟨b0,g1,_,g2,g3,_⟩:=sf hu hq k _ h1;exact⟨b0,g1,g2,g3⟩;exact⟨b,V,rfl,qM _⟩
 have same:∀k,k∈ns->upM (bN (fq σ.m ns)) upd k=upM σ.m upd k:=λk V=>by
  rw[dV,dV];split;rfl;rw[mem,if_pos V]
 have names:∀k b,k∈ns->upM σ.m upd k=some b->∀x∈b.names,x∈ns:=λk b V hb=>by
  rw[dV]at hb;split at hb;rename_i b1 h1;cases hb;obtain⟨_,_,_,_,_,g⟩:=sf hu hq k _ h1;exact g;exact hns k V b hb
 have keep:∀k,k<w.heap.size->¬bA (bN (fq σ.m ns)) E k->w'.heap[k]?=w.heap[k]?:=λk V hno=>X.chg.block k V hno;have blk:∀k,bA (bN (fq σ.m ns)) E k->∃f b,σ.m f=some b/\f∈ns/\(E f).isNil=false/\k=(E f).b:=by
  rintro k ⟨f,b,g1,g2,g3⟩;rw[mem]at g1;split at g1;rename_i z;exact⟨f,b,g1,z,g2,g3⟩;cases g1
 have L:Later ⟨w,D,σ.m,E⟩ ⟨w',D',upM σ.m upd,E2⟩:=⟨X.dlo,λb hb=>keep b (h.dlt b hb) λhx=>by
  obtain⟨f,bb,g1,_,g2,g3⟩:=blk b hx;exact(h.own f bb g1 g2).2.2 (g3▸hb)⟩
 have rowKeep:∀f b i k,σ.m f=some b->rowsOf (E f) b i k->w'.heap[k]?=w.heap[k]?:=λf b i k hm hr=>keep k (h.pv.lt hm hr) λhx=>by
  obtain⟨v,b2,g1,_,g3,g4⟩:=blk _ hx;exact h.pv.ent f i k (aR.2 ⟨b,hm,hr⟩) v b2 g1 g3 g4.symm
 have hml:∀f b,f∈ns->σ.m f=some b->bN (fq σ.m ns) f=some b:=λf b z hb=>by rw[mem,if_pos z];exact hb
 have mov:∀f b,f∈ns->upM σ.m upd f=some b->(E' f).isNil=false->(∃v b2,σ.m v=some b2/\v∈ns/\(E v).isNil=false/\(E' f).b=(E v).b)\/w.heap.size<=(E' f).b:=λf b z hb hi=>by
  obtain⟨b0,g0,_⟩:=up f b hb;rcases X.moved f b0 b (hml f b0 z g0) (by rw[same f z];exact hb) hi with g|g;exact .inl (blk _ g);exact .inr g
 have prv:∀f i k,cB (upM σ.m upd) E2 f i k->cB σ.m E f i k\/(f∈ns/\w.heap.size<=k/\cB (upM (bN (fq σ.m ns)) upd) E' f i k):=λf i k V=>by
  obtain⟨bb,g1,g2⟩:=aR.1 V;by_cases z:f∈ns;rw[e2i f z]at g2;have hp:cB (upM (bN (fq σ.m ns)) upd) E' f i k:=aR.2 ⟨bb,by rw[same f z];exact g1,g2⟩;rcases X.priv f i k hp with g|g;left;obtain⟨b2,q1,q2⟩:=aR.1 g;rw[mem,if_pos z]at q1;exact aR.2 ⟨b2,q1,q2⟩;exact .inr ⟨z,g,hp⟩;rw[e2o f z]at g2;left;have hlk:upd.lookup f=none:=by
   cases hx:upd.lookup f with
   |none=>rfl|some b1=>
    obtain⟨_,_,g,_⟩:=sf hu hq f b1 hx;exact(z g).elim
  rw[dV,hlk]at g1;exact aR.2 ⟨bb,g1,g2⟩
 have pvNew:fU S.w0.heap.size S.O (upM σ.m upd) E2 w'.heap.size D':=by
  refine⟨λf i k V=>?_,λf i k V u b' G hi e=>?_,λf i k u j h1 h2=>?_⟩;rcases prv f i k V with g|⟨_,g1,g2⟩;obtain⟨q1,q2,q3⟩:=h.pv.own f i k g;refine⟨q1,qZ q2 X.chg.size,λhd=>?_⟩;rcases X.dhi _ hd with r|r|r;exact q3 r;omega;obtain⟨v,b2,r1,_,r3,r4⟩:=blk _ r;exact h.pv.ent f i k g v b2 r1 r3 r4.symm;obtain⟨_,q2,q3⟩:=X.held.pv.own f i k g2;exact⟨.inl (wJ h.low.size g1),q2,q3⟩;obtain⟨b0,g0,_⟩:=up u b' G;by_cases A:u∈ns;rw[e2i u A]at hi e;rcases prv f i k V with g|⟨_,g1,g2⟩;rcases mov u b' A G hi with⟨v,b2,q1,_,q3,q4⟩|q;exact h.pv.ent f i k g v b2 q1 q3 (q4.symm.trans e);have:=(h.pv.own f i k g).2.1;omega;exact X.held.pv.ent f i k g2 u b' (by rw[same u A];exact G) hi e;rw[e2o u A]at hi e;have hlt:=(h.own u b0 g0 hi).2.1;rcases prv f i k V with g|⟨_,g1,_⟩;exact h.pv.ent f i k g u b0 g0 hi e;omega;rcases prv f i k h1 with g|⟨_,g1,g2⟩<;>rcases prv u j k h2 with q|⟨_,q1,q2⟩
  exact h.pv.inj f i k u j g q;have:=(h.pv.own f i k g).2.1;omega;have:=(h.pv.own u j k q).2.1;omega;exact X.held.pv.inj f i k u j g2 q2
 refine⟨h.go (m':=upM σ.m upd) L (λk=>.inl λb' G=>?_) (λf b hm=>?_) (λf b hm hi=>?_) (λf u b b' hb G hi hi' e=>?_)
  (h.low.step X.chg.os X.chg.tape X.chg.output X.chg.size λk V hno=>keep k (qZ V h.low.size) λhx=>?_) X.dlt (λb hb=>?_) pvNew,L⟩
 obtain⟨b0,g1,g2,g3⟩:=up k b' G;refine⟨b0,g1,g2,g3,λhe=>?_⟩;show E2 k=E k;by_cases z:k∈ns;rw[e2i k z];exact X.agree k b0 b' (hml k b0 z g1) (by rw[same k z];exact G) he.symm;exact e2o k z;by_cases z:f∈ns;right;have:=X.held.bl f b (by rw[same f z];exact hm);rw[e2i f z];refine fe.mono (C:=⟨w',D',upM (bN (fq σ.m ns)) upd,E'⟩) (C':=⟨w',D',upM σ.m upd,E2⟩) ⟨λ_ g=>g,λ_ _=>rfl⟩ (λx hx b' G=>?_) (λ_=>rfl) (λ_ _ _=>rfl) this;exact⟨b',(by show upM (bN (fq σ.m ns)) upd x=some b';rw[same x (names f b z hm x hx)];exact G),rfl,qM _,λ_=>e2i x (names f b z hm x hx)⟩;left;have hlk:upd.lookup f=none:=by
  cases hx:upd.lookup f with
  |none=>rfl|some b1=>
   obtain⟨_,_,g,_⟩:=sf hu hq f b1 hx;exact(z g).elim
 have hm2:σ.m f=some b:=by rw[dV,hlk]at hm;exact hm
 refine⟨hm2,e2o f z,λhi=>keep _ (h.own f b hm2 hi).2.1 λhx=>?_,λi k hr=>rowKeep f b i k hm2 hr⟩;obtain⟨v,b2,g1,g2,g3,g4⟩:=blk _ hx;have:=h.inj f v b b2 hm2 g1 hi g3 g4;subst this;exact z g2;obtain⟨b0,g1,_⟩:=up f b hm;by_cases z:f∈ns;rw[e2i f z]at hi ⊢;obtain⟨q1,q2⟩:=X.held.own f b (by rw[same f z];exact hm) hi;refine⟨?_,q1,q2⟩;rcases mov f b z hm hi with⟨v,b2,r1,_,r3,r4⟩|r;rw[r4];exact(h.own v b2 r1 r3).1;exact .inl (wJ h.low.size r);rw[e2o f z]at hi ⊢;obtain⟨g2,g3,g4⟩:=h.own f b0 g1 hi;refine⟨g2,qZ g3 X.chg.size,λhd=>?_⟩;rcases X.dhi _ hd with g|g|g;exact g4 g;exact xY _ (qZ g3 g);obtain⟨v,b2,r1,r2,r3,r4⟩:=blk _ g;have:=h.inj f v b0 b2 g1 r1 hi r3 r4;subst this;exact z r2;obtain⟨b0,g1,_⟩:=up f b hb;obtain⟨b1,g2,_⟩:=up u b' G;have mix:∀x y bx b1,x∈ns->y∉ns->upM σ.m upd x=some bx->σ.m y=some b1->(E' x).isNil=false->(E y).isNil=false->(E' x).b=(E y).b->False:=λx y bx b1 hx hy hbx hy1 hix hiy e=>by
  rcases mov x bx hx hbx hix with⟨v,b2,r1,r2,r3,r4⟩|r;have:=h.inj v y b2 b1 r1 hy1 r3 hiy (r4.symm.trans e);subst this;exact hy r2;have:=(h.own y b1 hy1 hiy).2.1;omega
 by_cases z:f∈ns<;>by_cases A:u∈ns;rw[e2i f z]at hi e;rw[e2i u A]at hi' e;exact X.held.inj f u b b' (by rw[same f z];exact hb) (by rw[same u A];exact G) hi hi' e;rw[e2i f z]at hi e;rw[e2o u A]at hi' e;exact(mix f u b b1 z A hb g2 hi hi' e).elim;rw[e2o f z]at hi e;rw[e2i u A]at hi' e;exact(mix u f b' b0 A z G g1 hi' hi e.symm).elim;rw[e2o f z]at hi e;rw[e2o u A]at hi' e;exact h.inj f u b0 b1 g1 g2 hi hi' e;obtain⟨f,bb,g1,_,g2,g3⟩:=blk k hx;rcases(h.own f bb g1 g2).1 with g|g;rw[<- g3]at g;omega;exact hno (g3▸g);rcases X.dhi b hb with g|g|g;exact .inl g;exact .inr (.inl (wJ h.low.size g));obtain⟨v,b2,r1,_,r3,r4⟩:=blk _ g;rw[r4];exact .inr ((h.own v b2 r1 r3).1)
def aQ.calledNew{S:Base}{σ:Sig}{a:Act}{w w':World}{D D':Nat->Prop}{E E':Nat->Ent}(h:aQ S σ a w D E){nx y:Nat}{G:Blk}(hu:Unm nx σ)(hb0:G.names=[])(z:Left S.P (bN []) [(y,G)] w D E w' D' E'):
  aQ S ⟨σ.T,upM σ.m [(nx,G)],σ.sv⟩ a w' D' (upE E nx (E' y)):=by
 have hk0:upM (bN []) [(y,G)] y=some G:=by rw[dc,if_pos rfl]
 have keep:∀k,k<w.heap.size->w'.heap[k]?=w.heap[k]?:=λk v=>z.chg.block k v λ⟨f,blk,g,_⟩=>(by cases g);have e1:upE E nx (E' y) nx=E' y:=by simp[upE]
 have e2:∀k,k≠nx->upE E nx (E' y) k=E k:=λk v=>by simp[upE,v]
 have m2:∀k b,k≠nx->upM σ.m [(nx,G)] k=some b->σ.m k=some b:=λk b v hb=>by rw[dc,if_neg v]at hb;exact hb
 have m1:∀b,upM σ.m [(nx,G)] nx=some b->b=G:=λb hb=>by rw[dc,if_pos rfl]at hb;exact(wZ hb).symm
 have fr:(E' y).isNil=false->w.heap.size<=(E' y).b:=z.fresh y G rfl hk0;have prv:∀f i k,cB (upM σ.m [(nx,G)]) (upE E nx (E' y)) f i k->(f≠nx/\cB σ.m E f i k)\/(f=nx/\w.heap.size<=k/\cB (upM (bN []) [(y,G)]) E' y i k):=λf i k v=>by
  obtain⟨bb,g1,g2⟩:=aR.1 v;by_cases hn:f=nx;subst hn;have eb:=m1 bb g1;subst eb;rw[e1]at g2;have hp:cB (upM (bN []) [(y,bb)]) E' y i k:=aR.2 ⟨bb,hk0,g2⟩;rcases z.priv y i k hp with g|g;obtain⟨_,q,_⟩:=aR.1 g;cases q;exact .inr ⟨rfl,g,hp⟩;rw[e2 f hn]at g2;exact .inl ⟨hn,aR.2 ⟨bb,m2 f bb hn g1,g2⟩⟩
 have pvNew:fU S.w0.heap.size S.O (upM σ.m [(nx,G)]) (upE E nx (E' y)) w'.heap.size D':=by
  refine⟨λf i k v=>?_,λf i k v u b' X hi e=>?_,λf i k u j h1 h2=>?_⟩;rcases prv f i k v with⟨_,g⟩|⟨_,g1,g2⟩;obtain⟨q1,q2,q3⟩:=h.pv.own f i k g;refine⟨q1,qZ q2 z.chg.size,λhd=>?_⟩;rcases z.dhi _ hd with r|r|⟨_,_,r,_⟩;exact q3 r;omega;cases r;obtain⟨_,q2,q3⟩:=z.held.pv.own y i k g2;exact⟨.inl (wJ h.low.size g1),q2,q3⟩;by_cases hn:u=nx;subst hn;rw[e1]at hi e;rcases prv f i k v with⟨_,g⟩|⟨_,g1,g2⟩;have:=(h.pv.own f i k g).2.1;have:=fr hi;omega;exact z.held.pv.ent y i k g2 y G hk0 hi e;have A:=m2 u b' hn X;rw[e2 u hn]at hi e;have hlt:=(h.own u b' A hi).2.1;rcases prv f i k v with⟨_,g⟩|⟨_,g1,_⟩;exact h.pv.ent f i k g u b' A hi e;omega;rcases prv f i k h1 with⟨n1,g⟩|⟨n1,g1,g2⟩<;>rcases prv u j k h2 with⟨n2,q⟩|⟨n2,q1,q2⟩
  exact h.pv.inj f i k u j g q;have:=(h.pv.own f i k g).2.1;omega;have:=(h.pv.own u j k q).2.1;omega;exact⟨n1.trans n2.symm,(z.held.pv.inj y i k y j g2 q2).2⟩
 refine h.go (m':=upM σ.m [(nx,G)]) ⟨z.dlo,λb hb=>keep b (h.dlt b hb)⟩ (λk=>?_) (λf b hm=>?_) (λf b hm hi=>?_) (λf u b b' hb X hi V e=>?_)
  (h.low.step z.chg.os z.chg.tape z.chg.output z.chg.size λk v _=>keep k (qZ v h.low.size)) z.dlt (λb hb=>?_) pvNew
 by_cases v:k=nx;subst v;exact .inr hu;exact .inl λb' X=>⟨b',m2 k b' v X,rfl,qM _,λ_=>e2 k v⟩;by_cases v:f=nx;subst v;right;have eb:=m1 b hm;subst eb;rw[e1];exact fe.mono (C:=⟨w',D',upM (bN []) [(y,b)],E'⟩) (C':=⟨w',D',upM σ.m [(f,b)],upE E f (E' y)⟩) ⟨λ_ g=>g,λ_ _=>rfl⟩ (λx hx=>by rw[hb0]at hx;cases hx) (λ_=>rfl) (λ_ _ _=>rfl) (z.held.bl y b hk0);have A:=m2 f b v hm;exact .inl ⟨A,e2 f v,λhi=>keep _ (h.own f b A hi).2.1,λi k hr=>keep _ (h.pv.lt A hr)⟩;by_cases v:f=nx;subst v;rw[e1]at hi ⊢;exact⟨.inl (wJ h.low.size (fr hi)),z.held.own y G hk0 hi⟩;have A:=m2 f b v hm;rw[e2 f v]at hi ⊢;obtain⟨g1,g2,g3⟩:=h.own f b A hi;refine⟨g1,qZ g2 z.chg.size,λhd=>?_⟩;rcases z.dhi _ hd with g|g|⟨_,_,g,_⟩;exact g3 g;omega;cases g;by_cases v:f=nx<;>by_cases L:u=nx;rw[v,L];subst v;rw[e1]at hi e;rw[e2 u L]at V e;have:=(h.own u b' (m2 u b' L X) V).2.1;have:=fr hi;omega;subst L;rw[e1]at V e;rw[e2 f v]at hi e;have:=(h.own f b (m2 f b v hb) hi).2.1;have:=fr V;omega;rw[e2 f v]at hi e;rw[e2 u L]at V e;exact h.inj f u b b' (m2 f b v hb) (m2 u b' L X) hi V e;rcases z.dhi b hb with g|g|⟨_,_,g,_⟩;exact .inl g;exact .inr (.inl (wJ h.low.size g));cases g
def aQ.pureCall{S:Base}{σ:Sig}{a:Act}{w w':World}{D:Nat->Prop}{E:Nat->Ent}(h:aQ S σ a w D E)(hw:Below w.heap.size w w'):
  aQ S σ a w' (λb=>D b\/iV w w' b) E:=
 h.world hw (λb=>⟨λg=>g.imp id (λg=>⟨g,.inr g⟩),λg=>g.imp id (λg=>g.1)⟩) (λb g=>by
  rcases g with g|g;exact qZ (h.dlt b g) hw.size;exact g.2)
def aQ.heldOf{S:Base}{σ:Sig}{a:Act}{w:World}{D:Nat->Prop}{E:Nat->Ent}(h:aQ S σ a w D E)(ns:List Nat):Held S.P w D (bN (fq σ.m ns)) E:=by
 have mem:∀k b,bN (fq σ.m ns) k=some b->σ.m k=some b:=λk b u=>by
  have:=fm σ.m k ns;unfold bN at u;rw[this]at u;split at u;exact u;cases u
 refine⟨λe b hb=>?_,λe b hb hi=>(h.own e b (mem e b hb) hi).2,λe f b A hb r=>h.inj e f b A (mem _ _ hb) (mem _ _ r),?_⟩
 rotate_left
 have v:∀e i b,cB (bN (fq σ.m ns)) E e i b->cB σ.m E e i b:=λe i b hb=>by
  obtain⟨G,g1,g2⟩:=aR.1 hb;exact aR.2 ⟨G,mem e G g1,g2⟩
 exact⟨λe i b hb=>⟨.inr trivial,(h.pv.own e i b (v _ _ _ hb)).2⟩,λe i b hb f z y hi=>h.pv.ent e i b (v _ _ _ hb) f z (mem _ _ y) hi,λe i b f j O L=>h.pv.inj e i b f j (v _ _ _ O) (v _ _ _ L)⟩;exact fe.mono (C:=⟨w,D,σ.m,E⟩) (C':=⟨w,D,bN (fq σ.m ns),E⟩) ⟨λ_ g=>g,λ_ _=>rfl⟩ (λx _ A r=>⟨A,mem _ _ r,rfl,qM _,λ_=>rfl⟩) (λ_=>rfl) (λ_ _ _=>rfl) (h.bl e b (mem e b hb))
variable {D:Nat->Prop}{w:World}
def BI(ns:List Nat)(h:zA1 P ⟨w,D,m,E⟩ aa us):
  zA1 P ⟨w,D,bN (fq m ns),E⟩ aa us:=
 zA4 (C:=⟨w,D,m,E⟩) (C':=⟨w,D,bN (fq m ns),E⟩) ⟨λ_ h=>h,λ_ _=>rfl⟩ (λk _ e b=>⟨e,(by
  have:=fm m k ns;replace b:(fq m ns).lookup k=some e:=b;rw[this]at b;split at b;exact b;cases b),rfl,qM _,λ_=>rfl⟩) h
variable {S:Base}{a:Act}{args:List AV}{u:Value}{σ:Sig}{callee:AV}{c:Core}{nx:Nat}
def GY(hK:ai S.P S.G K)(h:aQ S σ a w D E)
  (j:A8 S.P K nx σ.m callee args=some c) (hn:∀q∈c.need,q) (hunm:∀k,c.new=some k->Unm k σ) (X:callee.rel S.P ⟨w,D,σ.m,E⟩ u) (L:zA1 S.P ⟨w,D,σ.m,E⟩ args us):
  ∃f aa,(do let d <- Deferred.ofValue u us.toArray;invoke d.target d.args).run S.P w=.ok (.enter f aa) w/\
   Calls S.P f aa w λe w''=>∃v,e=.returned v/\Outcome S ⟨σ.T,upM σ.m c.upd,σ.sv⟩ a c.val v w'':=by
 have O:∀f caps,u=.func (.func f) #[] caps->goes S.P f=true->(do let d <- Deferred.ofValue u us.toArray;invoke d.target d.args).run S.P w=.ok (.enter f (us.toArray++caps)) w:=by
  intro f caps hu hg;subst hu;simp only[Deferred.ofValue,wV,yN,vZ,invoke,jA];exact lQ hg w _
 unfold A8 at j;split at j;rename_i f caps;split at j;case isFalse=>cases j
 rename_i hg;split at j;case isFalse=>cases j
 rename_i hall;split at j;case h_2=>cases j
 rename_i cr hk;have hns:∀k∈cQ σ.m (zA2 (iu S.P K f args caps++caps)),∀b,σ.m k=some b->∀x∈b.names,x∈cQ σ.m (zA2 (iu S.P K f args caps++caps)):=by
  intro k hk b hb x hx;rw[qQ]at hall;have:=hall k hk;rw[hb]at this;unfold ni at this;simp only[qQ]at this;simpa using this x hx
 obtain⟨cs,hu,hcaps⟩:=X;have hall2:=BI (cQ σ.m (zA2 (iu S.P K f args caps++caps))) (zA8 (Iw (P:=S.P) (K:=K) (f:=f) (caps:=caps) L) hcaps);have e:us.toArray++cs.toArray=(us++cs).toArray:=by simp
 have i:=λhp:cr.pre=>hK f _ _ cr hk hp w D E (us++cs) h.dlt (me.mono (C:=⟨w,D,σ.m,E⟩) ⟨λ_ g=>g,λ_ _=>rfl⟩ h.gl) hall2 (h.heldOf _);split at j;rename_i k0 b0 V;split at j;case isFalse=>cases j
 rename_i hnm;cases j;unfold Vp at V;split at V;case h_2=>cases V
 rename_i k1 b1 hmem hupd;split at V;case isFalse=>cases V
 rename_i hb0;cases V;refine⟨f,_,O f _ hu hg,?_⟩;rw[e];refine(i (hn _ (by simp))).mono λe w' he=>?_;obtain⟨v,D',E',rfl,hl,hv⟩:=he;rw[hmem,hupd]at hl hv;refine⟨v,rfl,D',upE E nx (E' k0),h.calledNew (hunm nx rfl) (zB.1 hb0) hl,?_⟩;refine zC3 (m:=upM (bN []) [(k0,b0)]) (E:=E') (k:=k0) ?_ ?_ (λx hx=>?_) hv;show upM σ.m [(nx,b0)] nx=upM (bN []) [(k0,b0)] k0;rw[dc,dc,if_pos rfl,if_pos rfl];simp[upE];have:=qQ.1 hnm x hx;simpa using this;split at j;case h_2=>cases j
 rename_i q hq;split at j;case isFalse=>cases j
 rename_i hnl;cases j;refine⟨f,_,O f _ hu hg,?_⟩;rw[e];refine(i (hn _ (by simp))).mono λe w' he=>?_;obtain⟨v,D',E',rfl,hl,hv⟩:=he;obtain⟨g1,g2⟩:=h.called hns hq (λp hp=>hn p (by simp[hp])) hl;refine⟨v,rfl,D',_,g1,zA5 (C:=⟨w',D',upM (bN (fq σ.m (cQ σ.m (zA2 (iu S.P K f args caps++caps))))) cr.upd,E'⟩) (C':=⟨w',D',upM σ.m cr.upd,λk=>if k∈cQ σ.m (zA2 (iu S.P K f args caps++caps))then E' k else E k⟩) ⟨λ_ g=>g,λ_ _=>rfl⟩ (λnm hnm b' A=>?_) hv⟩;have hin:nm∈cQ σ.m (zA2 (iu S.P K f args caps++caps)):=by
  have:=qQ.1 hnl nm hnm;simpa using this
 have hml:∀b,σ.m nm=some b->bN (fq σ.m (cQ σ.m (zA2 (iu S.P K f args caps++caps)))) nm=some b:=λb hb=>by
  show(fq σ.m _).lookup nm=some b;rw[fm,if_pos hin];exact hb
 replace A:upM σ.m cr.upd nm=some b':=A;rw[dV]at A;have ex:∃b0,σ.m nm=some b0/\upM (bN (fq σ.m (cQ σ.m (zA2 (iu S.P K f args caps++caps))))) cr.upd nm=some b':=by
  split at A;rename_i b1 h1;obtain⟨b0,k1,_⟩:=sf hq (λp hp=>hn p (by simp[hp])) nm b1 h1;exact⟨b0,k1,by rw[dV,h1];exact A⟩;rename_i h1;exact⟨b',A,by rw[dV,h1];exact hml b' A⟩
 obtain⟨b0,k1,k2⟩:=ex;exact⟨b',k2,rfl,qM _,λ_=>if_pos hin⟩;rename_i a1 r pre g x;split at j;case h_2=>cases j
 rename_i y hy;cases j;obtain⟨u1,us',e,r1,r2⟩:=L;simp only[zA1]at r2;subst r2 e;obtain⟨f,caps,hu,hg,i⟩:=X;have hr:=zB8 hy r1;refine⟨f,_,O f _ hu hg,?_⟩;refine(i w D (λb hb=>hb) h.dlt (λ_ _=>rfl) y u1 (hn _ (by simp)) hr).mono λe w' he=>?_;obtain⟨v,rfl,hw,hv⟩:=he;exact⟨v,rfl,_,E,h.pureCall hw,hv⟩;rename_i a1 b1 r pre g x x2;split at j;case h_2=>cases j
 rename_i y z hy hz;cases j;obtain⟨u1,us',e,r1,u2,us'',e2,r2,r3⟩:=L;simp only[zA1]at r3;subst r3 e2 e;obtain⟨f,caps,hu,hg,i⟩:=X;refine⟨f,_,O f _ hu hg,?_⟩;refine(i w D (λb hb=>hb) h.dlt (λ_ _=>rfl) y z u1 u2 (hn _ (by simp)) (zB8 hy r1) (zB8 hz r2)).mono λe w' he=>?_;obtain⟨v,rfl,hw,hv⟩:=he;exact⟨v,rfl,_,E,h.pureCall hw,hv⟩;cases j
mutual
def QO(m:Nat->Option Blk):AV->Option (List Prop×AV)
 |.buf nm n=>match m nm with
  |some (.buf _ t xs [])=>some ([xs.length=n],.dat (.sl t) xs)|_=>none
 |.agg cs=>match FZ m cs with
  |some (ns,ds)=>some (ns,.agg ds)|none=>none
 |a=>if a.names.isEmpty then some ([],a)else none
def FZ(m:Nat->Option Blk):List AV->Option (List Prop×List AV)
 |[]=>some ([],[])|a::aa=>match QO m a,FZ m aa with
  |some (p,x),some (q,xs)=>some (p++q,x::xs)|_,_=>none
end
def Qo:AV->AV|.dat (.int k) x=>.dat (.int k) x|.dat .bool x=>.dat .bool x|.dat .str x=>.dat .str x|_=>.top
def aB4:AV->AV|.tup vs=>.tup (vs.map Qo)|a=>Qo a
def wj{C C':Ctx}{a:AV}(h:a.rel P C v):(Qo a).rel P C' v:=by
 unfold Qo;split;exact h;exact h;exact h;trivial
def HQ{C C':Ctx}:∀{aa:List AV}{us:Lv},zA1 P C aa us->zA1 P C' (aa.map Qo) us
 |[],_,h=>h|a::aa,_,h=>by
  obtain⟨u,b,e,g,f⟩:=h;exact⟨u,b,e,wj g,HQ f⟩
def TI{C C':Ctx}{a:AV}(h:a.rel P C v):(aB4 a).rel P C' v:=by
 unfold aB4;split;obtain⟨us,e,b⟩:=h;exact⟨us,e,HQ b⟩;exact wj h
def ri(m:Nat->Option Blk)(E:Nat->Ent)(D:Nat->Prop):Nat->Prop:=λb=>D b\/bA m E b
def aCM(h:aQ S σ a w D E){e:Nat}{el:TypeId}{t:Ty}{xs:List t.den}(hm:σ.m e=some (.buf el t xs [])):
  ag w (ri σ.m E D) (.sl t) xs [(E e).handle xs.length]:=by
 obtain⟨raw,r,V⟩:=h.bl e _ hm;cases f:(E e).isNil with
 |true=>
  have L:(E e).handle xs.length=.slice none 0 0:=by unfold Ent.handle;rw[f];rfl
  rw[L]at r ⊢;rcases r.2 with⟨_,X⟩|⟨g,cap,O,x,_⟩;have:xs=[]:=vY X;subst this;exact bw _ _ _;cases x
 |false=>
  have L:(E e).handle xs.length=.slice (some ⟨(E e).b,0,none⟩) xs.length (E e).cap:=by unfold Ent.handle;rw[f];rfl
  rw[L]at r ⊢;have z:xs.length<=(E e).cap:=by
   rcases r.2 with⟨x,_⟩|⟨g,cap,O,x,_,_,z,_⟩;cases x;simp only[yF,yD]at x;omega
  refine⟨_,_,rfl,z,(λh=>by cases h),(λad G _=>by cases G;rfl),λi y hy=>?_⟩;have T:=V i y hy;simp only[List.lookup]at T;refine⟨_,_,rfl,.inr ⟨e,_,hm,f,rfl⟩,?_,ax (λ_ g=>.inl g) (λ_ _=>rfl) T⟩;intro j u v;rw[vX]at v;split at v;rw[vM]at v;have A:i*t.sz+j<xs.length*t.sz:=by rw[<- r.1];exact(qG.1 v).1
  show w.cell? ⟨(E e).b,0+i*t.sz+j,none⟩=some u;rw[zQ,r.cellAt _ A];exact v;cases v
mutual
def US(h:aQ S σ a w D E):∀{x y:AV}{ns:List Prop}{v:Value},QO σ.m x=some (ns,y)->(∀q∈ns,q)->x.rel S.P ⟨w,D,σ.m,E⟩ v->y.rel S.P ⟨w,ri σ.m E D,bN [],E⟩ v
 |x,y,ns,v,b,j,f=>by
  unfold QO at b;split at b;rename_i L n;split at b;case h_2=>cases b
  rename_i el t xs hm;cases b;have e:xs.length=n:=j _ (by simp);have r:=(f _ hm).2 e;rw[<- e]at r;rw[r];exact aCM h hm;rename_i cs;split at b;case h_2=>cases b
  rename_i u ds z;cases b;obtain⟨us,G,A⟩:=f;exact⟨us,G,ye h z j A⟩;split at b;case isFalse=>cases b
  rename_i i;cases b;exact tI (C:=⟨w,D,σ.m,E⟩) (C':=⟨w,ri σ.m E D,bN [],E⟩) i ⟨λ_ g=>.inl g,λ_ _=>rfl⟩ f
def ye(h:aQ S σ a w D E):∀{xs ys:List AV}{ns:List Prop}{vs:Lv},FZ σ.m xs=some (ns,ys)->(∀q∈ns,q)->zA1 S.P ⟨w,D,σ.m,E⟩ xs vs->zA1 S.P ⟨w,ri σ.m E D,bN [],E⟩ ys vs
 |[],ys,ns,vs,b,j,i=>by
  simp only[FZ,wQ,qCf]at b;rw[<- b.2];exact i
 |x::xs,ys,ns,vs,b,j,i=>by
  simp only[FZ]at b;split at b;rename_i p y q r A u;cases b;obtain⟨v,f,e,g1,g2⟩:=i;exact⟨v,f,e,US h A (λz g=>j z (qJ.2 (.inl g))) g1,ye h u (λz g=>j z (qJ.2 (.inr g))) g2⟩;cases b
end
def QN(P:Program)(K:Kt)(m:Nat->Option Blk)(callee:AV)(args:List AV):Option Core:=match callee with
 |.fn f caps=>if goes P f&&(zA2 caps).isEmpty then
   match FZ m args with
   |some (ns,aa)=>match K f (iu P K f aa caps++caps) []with
    |some c=>if c.upd.isEmpty then some {need:=c.pre::ns,val:=aB4 c.ret} else none|none=>none
   |none=>none
  else none
 |_=>none
def YV(hK:ai S.P S.G K)(h:aQ S σ a w D E)
  (i:QN S.P K σ.m callee args=some c) (hn:∀q∈c.need,q) (z:callee.rel S.P ⟨w,D,σ.m,E⟩ u) (y:zA1 S.P ⟨w,D,σ.m,E⟩ args us):
  ∃f aa,(do let d <- Deferred.ofValue u us.toArray;invoke d.target d.args).run S.P w=.ok (.enter f aa) w/\
   Calls S.P f aa w λe O=>∃v,e=.returned v/\Outcome S ⟨σ.T,upM σ.m c.upd,σ.sv⟩ a c.val v O:=by
 unfold QN at i;split at i;case h_2=>cases i
 rename_i f caps;split at i;case isFalse=>cases i
 rename_i hg;simp only[qC]at hg;split at i;case h_2=>cases i
 rename_i ns aa hl;split at i;case h_2=>cases i
 rename_i cr hk;split at i;case isFalse=>cases i
 rename_i X;cases i;have hup':cr.upd=[]:=zB.1 X;obtain⟨cs,rfl,r⟩:=z;have ha:=ye h hl (λq hq=>hn q (by simp[hq])) y;have hcp:zA1 S.P ⟨w,ri σ.m E D,bN [],E⟩ caps cs:=zA4 (C:=⟨w,D,σ.m,E⟩) (C':=⟨w,ri σ.m E D,bN [],E⟩) ⟨λ_ g=>.inl g,λ_ _=>rfl⟩ (λV hm=>by
  have:=zB.1 hg.2;rw[this]at hm;cases hm) r
 have A:=zA8 (Iw (P:=S.P) (K:=K) (f:=f) (caps:=caps) ha) hcp;have hD:∀b,ri σ.m E D b->b<w.heap.size:=λb hb=>by
  rcases hb with g|⟨V,L,g1,g2,rfl⟩;exact h.dlt b g;exact(h.own V L g1 g2).2.1
 have x:=hK f _ _ cr hk (hn _ (by simp)) w (ri σ.m E D) E (us++cs) hD (me.mono (C:=⟨w,D,σ.m,E⟩) ⟨λ_ g=>.inl g,λ_ _=>rfl⟩ h.gl) A (zC9 _ _ _ _);have e:us.toArray++cs.toArray=(us++cs).toArray:=by simp
 refine⟨f,us.toArray++cs.toArray,?_,?_⟩;simp only[Deferred.ofValue,wV,yN,vZ,invoke,jA];exact lQ hg.1 w _;rw[e];refine x.mono λe w' he=>?_;obtain⟨v,D',E',rfl,j,hv⟩:=he;have hb:Below w.heap.size w w':=⟨j.chg.os,j.chg.tape,j.chg.output,j.chg.size,λk hk=>j.chg.block k hk λ⟨V,L,g,_⟩=>(by cases g)⟩;exact⟨v,rfl,_,E,h.pureCall hb,TI hv⟩
mutual
def L6{m m':Nat->Option Blk}:∀{x:AV},(∀k∈x.names,m' k=m k)->QO m' x=QO m x
 |x,h=>by
  unfold QO;split;rename_i b n;rw[h b (by simp[AV.names])];rename_i cs;rw[pG λk e=>h k (by simpa[AV.names]using e)];rfl
def pG{m m':Nat->Option Blk}:∀{xs:List AV},(∀k∈zA2 xs,m' k=m k)->FZ m' xs=FZ m xs
 |[],_=>rfl|x::xs,h=>by
  simp only[FZ];rw[L6 (x:=x) λk b=>h k (by simp[zA2,b]),pG (xs:=xs) λk b=>h k (by simp[zA2,b])]
end
def Rn(P:Program)(K:Kt)(nx:Nat)(m:Nat->Option Blk)(callee:AV)(args:List AV):Option Core:=match A8 P K nx m callee args with
 |some c=>some c|none=>match A8 P K nx m (lR callee) (uU args)with
  |some c=>some c|none=>QN P K m callee args
def ZM(y:ai S.P S.G K)(h:aQ S σ a w D E)
  (j:Rn S.P K nx σ.m callee args=some c) (x:∀q∈c.need,q) (i:∀k,c.new=some k->Unm k σ) (g:callee.rel S.P ⟨w,D,σ.m,E⟩ u) (b:zA1 S.P ⟨w,D,σ.m,E⟩ args us):
  ∃f aa,(do let d <- Deferred.ofValue u us.toArray;invoke d.target d.args).run S.P w=.ok (.enter f aa) w/\
   Calls S.P f aa w λe r=>∃v,e=.returned v/\Outcome S ⟨σ.T,upM σ.m c.upd,σ.sv⟩ a c.val v r:=by
 unfold Rn at j;split at j;rename_i c1 z;cases j;exact GY y h z x i g b;split at j;rename_i c1 z;cases j;exact GY y h z x i (zB5 g) (zB1 b);exact YV y h j x g b
def selC(P:Program)(K:Kt)(nx:Nat)(m:Nat->Option Blk)(args:List AV)(t:Ty):List AV->Option (List (List Prop×t.den))
 |[]=>some []|c::cs=>match A8 P K nx m c args,selC P K nx m args t cs with
  |some co,some r=>match co.upd,co.new,co.val.aa t with
   |[],none,some x=>some ((co.need,x)::r)|_,_,_=>none
  |_,_=>none
def wh{α:Type}(i:Nat):Nat->List (List Prop×α)->List Prop|_,[]=>[]|j,q::r=>q.1.map (λp=>i=j->p)++wh i (j+1) r
def oH(P:Program)(K:Kt)(nx:Nat)(m:Nat->Option Blk)(f:AV)(args:List AV):Option Core:=match f with
 |.sel i cs=>match cs with
  |[]=>none|c::r=>match A8 P K nx m c args with
   |some co=>match co.val with
    |.dat t _=>match selC P K nx m args t (c::r)with
     |some q=>some {need:=wh (Dc i) 0 q,val:=.dat t (Du (q.map (·.2)) (Dc i) t.dflt)}|none=>none
    |_=>none
   |none=>none
 |f=>Rn P K nx m f args
def TF{t:Ty}:∀{cs:List AV}{q:List (List Prop×t.den)},selC P K nx m args t cs=some q->∀{j:Nat}{c:AV},cs[j]?=some c->
  ∃b x,A8 P K nx m c args=some b/\b.upd=[]/\b.new=none/\b.val.aa t=some x/\q[j]?=some (b.need,x)
 |[],_,_,j,c,h=>by simp at h|c'::cs,q,e,j,c,h=>by
  unfold selC at e;split at e;case h_2=>cases e
  rename_i b r g f;split at e;case h_2=>cases e
  rename_i x v u i;cases e;cases j with
  |zero=>
   simp only[qAu,wQ]at h;subst h;exact⟨b,x,g,v,u,i,rfl⟩
  |succ j=>simpa using TF f (by simpa using h)
def Bz{α:Type}{i:Nat}:∀{q:List (List Prop×α)}{b j:Nat}{ns:List Prop}{x:α},(∀p∈wh i b q,p)->q[j]?=some (ns,x)->i=b+j->∀p∈ns,p
 |[],_,_,_,_,_,h,_=>by simp at h|y::q,b,j,ns,x,g,h,e=>by
  intro p f;cases j with
  |zero=>
   simp only[qAu,wQ]at h;subst h;exact g (i=b->p) (by simp only[wh,qJ,vK];exact .inl ⟨p,f,rfl⟩) Z
  |succ j=>
   exact Bz (b:=b+1) (λp f=>g p (by simp only[wh,qJ];exact .inr f)) (by simpa using h) Z p f
def MY(hK:ai S.P S.G K)(h:aQ S σ a w D E)
  (g:oH S.P K nx σ.m callee args=some c) (X:∀q∈c.need,q) (A:∀k,c.new=some k->Unm k σ) (y:callee.rel S.P ⟨w,D,σ.m,E⟩ u) (j:zA1 S.P ⟨w,D,σ.m,E⟩ args us):
  ∃f aa,(do let d <- Deferred.ofValue u us.toArray;invoke d.target d.args).run S.P w=.ok (.enter f aa) w/\
   Calls S.P f aa w λe O=>∃v,e=.returned v/\Outcome S ⟨σ.T,upM σ.m c.upd,σ.sv⟩ a c.val v O:=by
 unfold oH at g;split at g;rename_i i cs;split at g;cases g;rename_i c0 r;split at g;case h_2=>cases g
 rename_i co0 _;split at g;case h_2=>cases g
 rename_i t _ _;split at g;case h_2=>cases g
 rename_i q hq;cases g;obtain⟨vs,g1,g2⟩:=y;have L:i.toNat<(c0::r).length:=by rw[zA3 g1];exact(qG.1 g2).1
 obtain⟨co,x,k1,k2,k3,k4,V⟩:=TF hq (qB L);obtain⟨u',g3,g4⟩:=zA6 g1 (qB L);have eu:u'=u:=wZ (g3.symm.trans g2);subst eu;have z:=Bz (b:=0) (i:=i.toNat) X V Z;obtain⟨f,aa,h1,h2⟩:=GY hK h k1 z (λk hk=>by rw[k3]at hk;cases hk) g4 j;refine⟨f,aa,h1,h2.mono λe w' he=>?_⟩;obtain⟨v,rfl,D',E',p1,p2⟩:=he;rw[k2]at p1 p2;refine⟨v,rfl,D',E',p1,?_⟩;have hx:=zB8 k4 p2;have ev:(q.map (·.2)).getD i.toNat t.dflt=x:=by
  simp only[List.getD,qX,V];rfl
 show ag _ _ t ((q.map (·.2)).getD i.toNat t.dflt) [v];rw[ev];exact hx;exact ZM hK h g X A y j
def aCC:RV->Option Core|(.ip t x,_)=>some {val:=.ip t x}|(.ptr nm g i c,some b)=>some {need:=[b.len=g],val:=.ptr nm g i c}|(.fn f caps,_)=>some {val:=.fn f caps}|(.ipv x,_)=>some {val:=.ipv x}|(.ips cs,_)=>some {val:=.ips cs}|(.ia t xs,_)=>some {val:=.ia t xs}|(.sel i cs,_)=>if cs.all aID then some {val:=.sel i cs} else none|_=>none
def EW:Operand->Operand->Bool|.tmp i,.tmp j=>i==j|.const (.int k x),.const (.int k' y)=>decide (k=k')&&decide (x=y)|_,_=>false
def G2(P:Program)(nx:Nat)(b:Builtin)(ts:Array TypeId)(vs:List RV):Option Core:=
 match b,vs with
 |.len,[x]=>match ts[0]? with
  |some t=>aIz P t x|none=>none
 |.append,[s,x]=>match ts.toList with
  |[t,t']=>if t=t' then match M6 P t s x with
   |some c=>some c|none=>aIU P nx t s x
   else none
  |_=>none
 |.copy,[d,s]=>match ts.toList with
  |[t,_]=>aDg P t d s|_=>none
 |.max,vs=>match(vs.map (·.1):List AV)with
  |.dat (.int k) x::r=>match nq true k x r with
   |some y=>some {val:=.dat (.int k) y}|none=>none
  |_=>none
 |.min,vs=>match(vs.map (·.1):List AV)with
  |.dat (.int k) x::r=>match nq false k x r with
   |some y=>some {val:=.dat (.int k) y}|none=>none
  |_=>none
 |_,_=>none
def opE(P:Program)(K:Kt)(mt:Bool)(nx:Nat)(m:Nat->Option Blk)(o:Op)(vs:List RV):Option Core:=
 match o,vs with
 |.move _,[x]=>some {val:=x.1}|.assign _,[x]=>some {val:=x.1}|.alloc e,[]=>match Aw P nx e with
  |some c=>some c|none=>Wv P nx e
 |.build t parts,vs=>V7 P t (parts.toList.map (·.1)) vs|.box e _,[x]=>match s7 P m mt e x.1 with
  |some c=>some c|none=>match M3 P mt nx e x with
   |some c=>some c|none=>aIR P mt nx e x
 |.buildSlice t len parts,vs=>match LX P mt nx t len (parts.toList.map (·.1)) vs with
  |some c=>some c|none=>match UQ P mt t len (parts.toList.map (·.1)) (vs.map (·.1))with
   |some c=>some c|none=>aIy P mt nx t len (parts.toList.map (·.1)) (vs.map (·.1))
 |.load t _,[p]=>match FV P t p with
  |some c=>some c|none=>match vg P t p with
   |some c=>some c|none=>YR P t p
 |.store t _ _,[p,v]=>match vR P t p v with
  |some c=>some c|none=>match v7 P t p v with
   |some c=>some c|none=>match Tq P t p v with
    |some c=>some c|none=>lB P m t p v
 |.nilCheck _,[p]=>aCC p|.binOp op xT _ y _,[a,b]=>match Vi P op xT y a.1 b.1 with
  |some c=>some c|none=>match VC P op xT a.1 b.1 with
   |some c=>some c|none=>match(if mt then aAG op a.1 b.1 else none)with
    |some c=>some c|none=>aIS P op xT a.1 b.1
 |.unOp op _ _,[a]=>unE op a.1|.convert s d _,[a]=>match V5 P s d a.1 with
  |some c=>some c|none=>aDh P s d a.1
 |.makeInterface t _,[x]=>UL P t x.1|.typeAssert _ _ t ok,[x]=>M4 P t ok x.1|.makeFunc (.func f) first _,vs=>if first.isEmpty then some {val:=.fn f (vs.map (·.1))} else none
 |.makeSlice t l c,[a,b]=>if mt then FT P t a.1 b.1 (EW l c)else aCJ P nx t a.1 b.1 (EW l c)|.slice t _ none none none,[x]=>match Au P t x with
  |some c=>some c|none=>By P t x.1 none none
 |.slice t _ (some _) none none,[x,l]=>By P t x.1 (some l.1) none|.slice t _ none (some _) none,[x,h]=>By P t x.1 none (some h.1)|.slice t _ (some _) (some _) none,[x,l,h]=>By P t x.1 (some l.1) (some h.1)|.fieldAddr s _ f,[p]=>sQ P s f p|.field t _ f,[x]=>Vw P t f x.1|.indexAddr t _ _,[x,i]=>match zm P t x i.1 with
  |some c=>some c|none=>sG P t x i.1
 |.index t _ _,[x,i]=>match F6 P t x.1 i.1 with
  |some c=>some c|none=>Ve P t x.1 i.1
 |.extract _ i,[x]=>GG i x.1|.call c,vs=>match c.callee,vs with
  |.builtin b,vs=>G2 P nx b c.argTypes vs|.value _,f::args=>oH P K nx m f.1 (args.map (·.1))|_,_=>none
 |_,_=>none
def FA(h:zA1 P C [] us):us=[]:=h
def ik{a:AV}(h:zA1 P C [a] [u]):a.rel P C u:=by
 obtain⟨_,_,e,g,_⟩:=h;cases e;exact g
def w8{a b:AV}{u v:Value}(h:zA1 P C [a,b] [u,v]):a.rel P C u/\b.rel P C v:=by
 obtain⟨_,_,e,g,_,_,f,g2,_⟩:=h;cases e;cases f;exact⟨g,g2⟩
def aFb{a b c:AV}{u v x:Value}(h:zA1 P C [a,b,c] [u,v,x]):a.rel P C u/\b.rel P C v/\c.rel P C x:=by
 obtain⟨_,_,e,g,_,_,i,g2,_,_,f,g3,_⟩:=h;cases e;cases i;cases f;exact⟨g,g2,g3⟩
def Yields.value{S:Base}{σ:Sig}{a:Act}{x:AV}{s:Sem Value}{w:World}(h:∃r w',s.run S.P w=.ok r w'/\Outcome S σ a x r w'):
  Yields S σ a x ((do pure (Next.value (<- s)):Sem Next).run S.P w):=by
 obtain⟨r,w',e,b⟩:=h;exact .inl ⟨r,w',by simp[e],b⟩
def Yields.same{S:Base}{σ:Sig}{a:Act}{x:AV}{s:Sem Value}{w:World}{D:Nat->Prop}{E:Nat->Ent}(b:aQ S σ a w D E)(h:∃r,s.run S.P w=.ok r w/\x.rel S.P ⟨w,D,σ.m,E⟩ r):
  Yields S σ a x ((do pure (Next.value (<- s)):Sem Next).run S.P w):=by
 obtain⟨r,f,e⟩:=h;exact Yields.value ⟨r,w,f,D,E,b,e⟩
def BA{i j:Operand}(h:EW i j=true)(a:Act):a.eval i=a.eval j:=by
 unfold EW at h;split at h;simp only[kN]at h;subst h;rfl;simp only[qC,qE]at h;obtain⟨rfl,rfl⟩:=h;rfl;cases h
def toList_map{α β:Type}(xs:Array α)(f:α->β):xs.map f=(xs.toList.map f).toArray:=by
 apply yU;simp
variable {vs:List RV}
def M1(h:aQ S σ a w D E){b:Builtin}{ts:Array TypeId}{ty:TypeId}{cs:Array Bool}
  (G:zA1 S.P ⟨w,D,σ.m,E⟩ (vs.map (·.1)) us) (g:∀v∈vs,v.2=cL σ.m v.1) (f:G2 S.P nx b ts vs=some c) (O:∀q∈c.need,q) (hu:∀k,c.new=some k->Unm k σ):
  Yields S ⟨σ.T,upM σ.m c.upd,σ.sv⟩ a c.val ((builtin b ts ty cs us.toArray).run S.P w):=by
 unfold G2 at f;split at f;rename_i x;obtain⟨u,i,e,g1,g2⟩:=G;have g2':=FA g2;subst g2' e;split at f;rename_i t ht;obtain⟨r,h1,h2,h3,_⟩:=aCN (ty:=ty) h ht (g x (by simp)) f O g1;rw[h3];exact Yields.same h ⟨r,h1,h2⟩;cases f;rename_i s x;obtain⟨u,i,e,g1,u2,V,e2,g3,g4⟩:=G;have L:=FA g4;subst L e2 e;split at f;rename_i t t' A;split at f;rename_i ht;subst ht;have j:ts=#[t,t]:=by apply yU;exact A
 subst j;split at f;rename_i c' hc';cases f;exact Yields.value (RF h (g s (by simp)) (g x (by simp)) hc' O g1 g3).2;exact Yields.value (aDv h (g s (by simp)) (g x (by simp)) f O g1 g3 hu);cases f;cases f;rename_i d s;obtain⟨u,i,e,g1,u2,V,e2,g3,g4⟩:=G;have L:=FA g4;subst L e2 e;split at f;rename_i t t' A;have j:ts=#[t,t']:=by apply yU;exact A
 subst j;exact Yields.value (Zx h (g d (by simp)) (g s (by simp)) f O g1 g3);cases f;split at f;rename_i k x r z;split at f;rename_i y X;cases f;rw[z]at G;obtain⟨u,i,e,g1,g2⟩:=G;subst e;simp only[AV.rel,ag,vH,vW]at g1;subst g1;have:=E8 (P:=S.P) (w:=w) true k r i x y X g2;refine Yields.same h ⟨.int k y,?_,rfl⟩;simp only[Builtin.max_];exact this;cases f;cases f;split at f;rename_i k x r z;split at f;rename_i y X;cases f;rw[z]at G;obtain⟨u,i,e,g1,g2⟩:=G;subst e;simp only[AV.rel,ag,vH,vW]at g1;subst g1;have:=E8 (P:=S.P) (w:=w) false k r i x y X g2;refine Yields.same h ⟨.int k y,?_,rfl⟩;simp only[Builtin.min_];exact this;cases f;cases f;cases f
def aFl(hK:ai S.P S.G K)(h:aQ S σ a w D E){mt:Bool}{o:Oper}
  (X:zA1 S.P ⟨w,D,σ.m,E⟩ (vs.map (·.1)) (o.op.operands.toList.map a.eval)) (O:∀v∈vs,v.2=cL σ.m v.1)
  (j:opE S.P K mt nx σ.m o.op vs=some c) (hn:∀q∈c.need,q) (hu:∀k,c.new=some k->Unm k σ/\∀v∈vs,k∉v.1.names):
  Yields S ⟨σ.T,upM σ.m c.upd,σ.sv⟩ a c.val ((execOp a.eval o).run S.P w):=by
 have hu1:∀k,c.new=some k->Unm k σ:=λk hk=>(hu k hk).1;obtain⟨dst,op,type,pos,after,guard⟩:=o;simp only at X j;unfold opE at j;split at j;rename_i x0 x;cases j;exact .inl ⟨_,w,rfl,D,E,h,ik X⟩;rename_i x0 x;cases j;exact .inl ⟨_,w,rfl,D,E,h,ik X⟩;split at j;rename_i c' z;cases j;exact Yields.value (J6 h z hu1);exact Yields.value (Wu h j hu1);rename_i t parts;have hmap:(parts.map λ(i,x)=>(i,a.eval x))=((parts.toList.map (·.1)).zip (parts.toList.map λp=>a.eval p.2)).toArray:=by
  apply yU;simp only[qBu,List.zip_map']
 have hops:(Op.build t parts).operands.toList.map a.eval=parts.toList.map λp=>a.eval p.2:=by
  simp[Op.operands]
 rw[hops]at X;obtain⟨r,L,A,V,_⟩:=V6 (w:=w) j hn O X;rw[V];refine Yields.same h ⟨r,?_,A⟩;rw[hmap];exact L;rename_i e x0 x;split at j;rename_i c' z;cases j;exact Yields.value (Rt h z (ik X));split at j;rename_i c' z;cases j;exact Yields.value (Ru h z hn hu1 (ik X));refine Yields.value (aDo h (O x (by simp)) j hn (λk hk=>⟨hu1 k hk,λhm=>?_⟩) (ik X));have:=(hu k hk).2 x (by simp);apply this;cases hx:x.1<;>rw[hx]at hm<;>first|exact hm|simpa[cM,zA2]using hm
 rename_i t len parts;have hmap:(parts.map λ(i,x)=>(i,a.eval x))=((parts.toList.map (·.1)).zip (parts.toList.map λp=>a.eval p.2)).toArray:=by
  apply yU;simp only[qBu,List.zip_map']
 have hops:(Op.buildSlice t len parts).operands.toList.map a.eval=parts.toList.map λp=>a.eval p.2:=by
  simp[Op.operands]
 rw[hops]at X;split at j;rename_i c' z;cases j;obtain⟨r,w',L,A⟩:=QJ h O z hn X hu1;refine Yields.value ⟨r,w',?_,A⟩;rw[hmap];exact L;split at j;rename_i c' z;cases j;obtain⟨r,w',L,A⟩:=UP h z X;refine Yields.value ⟨r,w',?_,A⟩;rw[hmap];exact L;obtain⟨_,r,w',L,A⟩:=aCL h j X hu1;refine Yields.value ⟨r,w',?_,A⟩;rw[hmap];exact L;rename_i t x0 p;split at j;rename_i c' z;cases j;obtain⟨r,L,A,V,_⟩:=LV h (O p (by simp)) z hn (ik X);rw[V];exact Yields.same h ⟨r,L,A⟩;split at j;rename_i c' z;cases j;obtain⟨r,L,A,V,_⟩:=x8 h (O p (by simp)) z hn (ik X);rw[V];exact Yields.same h ⟨r,L,A⟩;obtain⟨r,L,A,V,_⟩:=Oc h (O p (by simp)) j hn (ik X);rw[V];exact Yields.same h ⟨r,L,A⟩;rename_i t x0 y0 p v;obtain⟨g1,g2⟩:=w8 X;split at j;rename_i c' z;cases j;obtain⟨_,hval,w',L,D',E',A⟩:=Hv h (O p (by simp)) (O v (by simp)) z hn g1 g2;refine .inr (.inl ⟨w',by simp[execOp,L],D',E',A,?_⟩);rw[hval];rfl;split at j;rename_i c' z;cases j;obtain⟨_,hval,w',L,D',E',A⟩:=Hw h (O p (by simp)) z hn g1 g2;refine .inr (.inl ⟨w',by simp[execOp,L],D',E',A,?_⟩);rw[hval];rfl;split at j;rename_i c' z;cases j;obtain⟨_,hval,w',L,D',E',A⟩:=Tn h (O p (by simp)) (O v (by simp)) z hn g1 g2;refine .inr (.inl ⟨w',by simp[execOp,L],D',E',A,?_⟩);rw[hval];rfl;obtain⟨_,hval,w',L,D',E',A⟩:=Hu h (O p (by simp)) j hn g1 g2;refine .inr (.inl ⟨w',by simp[execOp,L],D',E',A,?_⟩);rw[hval];rfl;rename_i x0 p;have hp:=ik X;unfold aCC at j;split at j;cases j;obtain⟨bl,off,us,e,g⟩:=hp;refine .inl ⟨_,w,?_,D,E,h,⟨bl,off,us,rfl,g⟩⟩;simp[execOp,e]
 rename_i nm g i c0 b;cases j;have hm:σ.m nm=some b:=(O _ (vI.2 rfl)).symm;obtain⟨_,_,e⟩:=(hp b hm).2 (hn _ (by simp));refine .inl ⟨_,w,?_,D,E,h,hp⟩;simp[execOp,e];cases j;obtain⟨us,e,g⟩:=hp;refine .inl ⟨_,w,?_,D,E,h,⟨us,rfl,g⟩⟩;simp[execOp,e];cases j;obtain⟨bl,off,u,e,g⟩:=hp;refine .inl ⟨_,w,?_,D,E,h,⟨bl,off,u,rfl,g⟩⟩;simp[execOp,e];cases j;obtain⟨bl,off,us,e,g⟩:=hp;refine .inl ⟨_,w,?_,D,E,h,⟨bl,off,us,rfl,g⟩⟩;simp[execOp,e];cases j;obtain⟨bl,off,e,g⟩:=hp;refine .inl ⟨_,w,?_,D,E,h,⟨bl,off,rfl,g⟩⟩;simp[execOp,e];rename_i i cs _;split at j;case isFalse=>cases j
 rename_i hall;cases j;obtain⟨vs,g1,g2⟩:=hp;have hlt:i.toNat<cs.length:=by rw[zA3 g1];exact(qG.1 g2).1
 obtain⟨u',g3,g4⟩:=zA6 g1 (qB hlt);have eu:=wZ (g3.symm.trans g2);have hf:=qQ.1 hall _ (wL hlt);have:∃f us,a.eval x0=.func (.func f) #[] us:=by
  rw[<- eu];cases hq:cs[i.toNat]<;>rw[hq]at hf g4<;>first|cases hf|skip
  obtain⟨us,e,_⟩:=g4;exact⟨_,_,e⟩
 obtain⟨f,us,e⟩:=this;refine .inl ⟨_,w,?_,D,E,h,⟨vs,g1,g2⟩⟩;simp[execOp,e];cases j;rename_i bop xT x0 y0 yT x y;obtain⟨g1,g2⟩:=w8 X;split at j;rename_i c' z;cases j;obtain⟨r,L,A,V,_⟩:=Vh (w:=w) (x:=x0) (y:=y0) z g1 g2;rw[V];exact Yields.same h ⟨r,L,A⟩;split at j;rename_i c' z;cases j;obtain⟨r,L,A,V,_⟩:=VB (w:=w) (x:=x0) (y:=y0) z g1 g2;rw[V];exact Yields.same h ⟨r,L,A⟩;split at j;rename_i c' z;cases j;split at z;case isFalse=>cases z
 obtain⟨r,L,A,V⟩:=TR (w:=w) (P:=S.P) (t:=xT) (x:=x0) (y:=y0) z g1 g2;rw[V];exact Yields.same h ⟨r,(by simpa[execOp]using L),A⟩;obtain⟨r,L,A,V⟩:=Yf (w:=w) (x:=x0) (y:=y0) j hn g1 g2;rw[V];exact Yields.same h ⟨r,L,A⟩;rename_i uop t0 x0 x;obtain⟨r,L,A,V⟩:=aCj (P:=S.P) (w:=w) j hn (ik X);rw[V];exact Yields.same h ⟨r,L,A⟩;rename_i s d x0 x;split at j;rename_i c' z;cases j;exact Yields.value (V4 h z (ik X));obtain⟨r,L,A,V⟩:=TS (w:=w) j hn (ik X);rw[V];exact Yields.same h ⟨r,L,A⟩;rename_i t x0 x;obtain⟨r,L,A,V,_⟩:=UK (w:=w) j (ik X);rw[V];exact Yields.same h ⟨r,L,A⟩;rename_i x0 xt t ok x;obtain⟨r,L,A,V,_⟩:=RD (w:=w) (xt:=xt) j (ik X);rw[V];exact Yields.same h ⟨r,L,A⟩;rename_i f first caps
 split at j;rename_i hf;cases j;have hf':first=#[]:=by simpa using hf
 subst hf';refine .inl ⟨.func (.func f) #[] (caps.map a.eval),w,?_,D,E,h,caps.toList.map a.eval,by rw[toList_map],?_⟩;simp[execOp,Instr.makeFunc];have hr':zA1 S.P ⟨w,D,σ.m,E⟩ (vs.map (·.1)) (caps.toList.map a.eval):=by simpa[Op.operands]using X
 exact hr';cases j;rename_i t l c0 x y;obtain⟨g1,g2⟩:=w8 X;split at j;exact Yields.value (LU h (λhs=>BA hs a) j hn g1 g2);exact Yields.value (YQ h (λhs=>BA hs a) j hn g1 g2 hu1);rename_i t x0 x;split at j;rename_i c' z;cases j;obtain⟨r,L,A,V,_⟩:=J5 h (O x (by simp)) z hn (ik X);rw[V];exact Yields.same h ⟨r,L,A⟩;obtain⟨r,L,A,V,_⟩:=qh (w:=w) (vl:=none) (vh:=none) j hn (ik X) trivial trivial;rw[V];exact Yields.same h ⟨r,L,A⟩;rename_i t x0 l0 x l;obtain⟨g1,g2⟩:=w8 X;obtain⟨r,L,A,V,_⟩:=qh (w:=w) (vl:=some _) (vh:=none) j hn g1 g2 trivial;rw[V];exact Yields.same h ⟨r,L,A⟩;rename_i t x0 l0 x l;obtain⟨g1,g2⟩:=w8 X;obtain⟨r,L,A,V,_⟩:=qh (w:=w) (vl:=none) (vh:=some _) j hn g1 trivial g2;rw[V];exact Yields.same h ⟨r,L,A⟩;rename_i t x0 l0 h0 x l hh;obtain⟨g1,g2,g3⟩:=aFb X;obtain⟨r,L,A,V,_⟩:=qh (w:=w) (vl:=some _) (vh:=some _) j hn g1 g2 g3;rw[V];exact Yields.same h ⟨r,L,A⟩;rename_i s x0 f p;obtain⟨r,L,A,V,_⟩:=Gx h (O p (by simp)) j hn (ik X);rw[V];exact Yields.same h ⟨r,L,A⟩;rename_i t x0 f x;obtain⟨r,L,A,V,_⟩:=Vv (w:=w) j (ik X);rw[V];exact Yields.same h ⟨r,L,A⟩;rename_i t x0 i0 x i;obtain⟨g1,g2⟩:=w8 X;split at j;rename_i c' z;cases j;obtain⟨r,L,A,V,_⟩:=Jn h (O x (by simp)) z hn g1 g2;rw[V];exact Yields.same h ⟨r,L,A⟩;obtain⟨r,L,A,V,_⟩:=F7 h (O x (by simp)) j hn g1 g2;rw[V];exact Yields.same h ⟨r,L,A⟩;rename_i t x0 i0 x i;obtain⟨g1,g2⟩:=w8 X;split at j;rename_i c' z;cases j;obtain⟨r,L,A,V,_⟩:=MC (w:=w) z hn g1 g2;rw[V];exact Yields.same h ⟨r,L,A⟩
 obtain⟨r,L,A,V,_⟩:=Vd (w:=w) j hn g1 g2;rw[V];exact Yields.same h ⟨r,L,A⟩;rename_i x0 i x;obtain⟨r,L,A,V,_⟩:=MM (P:=S.P) (w:=w) j (ik X);rw[V];exact Yields.same h ⟨r,L,A⟩;rename_i cl;obtain⟨callee,args,argTypes⟩:=cl;simp only at j;split at j;rename_i b;have hr':zA1 S.P ⟨w,D,σ.m,E⟩ (vs.map (·.1)) (args.toList.map a.eval):=by simpa[Op.operands,Call.operands]using X
 obtain⟨cs,e⟩:∃cs,execOp a.eval ⟨dst,.call {callee:=.builtin b,args:=args,argTypes:=argTypes},type,pos,after,guard⟩=builtin b argTypes type cs (args.map a.eval):=⟨_,by simp only[execOp,resolve,pure_bind,invoke];rfl⟩;rw[e,toList_map args a.eval];exact M1 (ty:=type) h hr' O j hn hu1;rename_i x0 f fs;have hr':zA1 S.P ⟨w,D,σ.m,E⟩ (f.1::fs.map (·.1)) (a.eval x0::args.toList.map a.eval):=by simpa[Op.operands,Call.operands]using X
 obtain⟨u,us',e,g1,g2⟩:=hr';simp only[vH]at e;obtain⟨rfl,rfl⟩:=e;obtain⟨f',aa,A,V⟩:=MY hK h j hn hu1 g1 g2;refine .inr (.inr ⟨f',aa,w,?_,V⟩);have e2:execOp a.eval ⟨dst,.call {callee:=.value x0,args:=args,argTypes:=argTypes},type,pos,after,guard⟩=(do let d <- Deferred.ofValue (a.eval x0) (args.toList.map a.eval).toArray;invoke d.target d.args):=by
  simp only[execOp,resolve,toList_map args a.eval]
 rw[e2];exact A;cases j;cases j
def xq:∀{ts:List TypeId}{aa:List AV},k∈zA2 (AX P ts aa)->k∈zA2 aa
 |[],_,h=>h|_::_,[],h=>h|t::ts,a::aa,h=>by
  simp only[AX,zA2,qJ]at h ⊢;rcases h with h|h;left;unfold YF at h;split at h;split at h;simp[AV.names]at h;exact h;split at h;split at h;simp only[AV.names,jw]at h;cases h;exact h;exact h;exact h;exact .inr (xq h)
def qx:∀(l k:List AV),zA2 (l++k)=zA2 l++zA2 k|[],_=>rfl|a::l,k=>by simp[zA2,qx l k]
def x6{m m':Nat->Option Blk}:∀{l:List Nat},(∀k∈l,m' k=m k)->fq m' l=fq m l
 |[],_=>rfl|k::l,h=>by
  simp only[fq];rw[h k (by simp),x6 (λx b=>h x (by simp[b]))]
def Bj{m m':Nat->Option Blk}(h:∀k∈ns,m' k=m k):∀u:Mem,Xb m' ns u=Xb m ns u
 |[]=>rfl|(k,b)::r=>by
  simp only[Xb];rw[Bj h r];by_cases e:k∈ns;rw[h k e];have f:ns.contains k=false:=by simpa using e
  cases m' k<;>cases m k<;>cases Xb m ns r<;>simp[f,e]
def LK(h:k∈zA2 (iu P K f aa caps)):k∈zA2 aa:=by
 unfold iu at h;split at h;exact h;exact xq h
def mF{m m':Nat->Option Blk}{f:AV}(h:∀k,k∈cQ m f.names\/k∈cQ m (zA2 args)->m' k=m k):A8 P K nx m' f args=A8 P K nx m f args:=by
 unfold A8;split;rename_i f caps;have up:∀k∈zA2 (iu P K f args caps++caps),k∈zA2 args\/k∈(AV.fn f caps).names:=λk e=>by
  rw[qx,qJ]at e;rcases e with e|e;exact .inl (LK e);exact .inr (by simpa[AV.names]using e)
 have r:∀k∈cQ m (zA2 (iu P K f args caps++caps)),m' k=m k:=λk e=>by
  rcases rS e with g|⟨j,y,b,hb,i⟩;rcases up k g with g|g;exact h k (.inr (dZ g));exact h k (.inl (dZ g));rcases up j y with g|g;exact h k (.inr (vr g hb i));exact h k (.inl (vr g hb i))
 rw[Ai (m:=m) (m':=m') (l:=zA2 (iu P K f args caps++caps)) λk e=>r k (dZ e)];have z:((cQ m (zA2 (iu P K f args caps++caps))).all λk=>match m' k with|some b=>ni (cQ m (zA2 (iu P K f args caps++caps))) b|none=>true) =
   ((cQ m (zA2 (iu P K f args caps++caps))).all λk=>match m k with|some b=>ni (cQ m (zA2 (iu P K f args caps++caps))) b|none=>true):=by
  have:∀(l:List Nat),(∀k∈l,m' k=m k)->(l.all λk=>match m' k with|some b=>ni (cQ m (zA2 (iu P K f args caps++caps))) b|none=>true) =
    (l.all λk=>match m k with|some b=>ni (cQ m (zA2 (iu P K f args caps++caps))) b|none=>true):=by
   intro l;induction l with
   |nil=>intro _;rfl
   |cons x l v=>
    intro u;simp only[qAc];rw[u x (by simp),v (λk e=>u k (by simp[e]))]
  exact this _ r
 rw[z,x6 r];simp only[Bj r];rfl;rfl;rfl
def MZ{m m':Nat->Option Blk}{f:AV}(h:∀k,k∈cQ m f.names\/k∈cQ m (zA2 args)->m' k=m k):Rn P K nx m' f args=Rn P K nx m f args:=by
 have e:QN P K m' f args=QN P K m f args:=by
  unfold QN;rw[pG λk b=>h k (.inr (dZ b))]
 unfold Rn;rw[mF h,mF (f:=lR f) (args:=uU args) (m:=m) (m':=m') (λk b=>by
  rw[gb,fu]at b;rcases b with b|b<;>(rcases rS b with g|⟨_,g,_⟩<;>cases g)),e]
def A7{m m':Nat->Option Blk}{f:AV}(h:∀k,k∈cQ m f.names\/k∈cQ m (zA2 args)->m' k=m k):oH P K nx m' f args=oH P K nx m f args:=by
 have sel:∀{t:Ty}{cs:List AV},(∀k,k∈cQ m (zA2 cs)\/k∈cQ m (zA2 args)->m' k=m k)->selC P K nx m' args t cs=selC P K nx m args t cs:=by
  intro t cs;induction cs with
  |nil=>intro _;rfl
  |cons c cs u=>
   intro h;simp only[selC];rw[mF (m:=m) (m':=m') λk b=>h k (b.imp (rR λj e=>by simp[zA2,e]) id),u λk b=>h k (b.imp (rR λj e=>by simp[zA2,e]) id)]
 unfold oH;split;rename_i i cs;split;rfl;rename_i c r;have g:∀k,k∈cQ m (zA2 (c::r))\/k∈cQ m (zA2 args)->m' k=m k:=λk b=>h k (b.imp (rR λj e=>by simpa[AV.names]using e) id);rw[mF (m:=m) (m':=m') λk b=>g k (b.imp (rR λj e=>by simp[zA2,e]) id)];split;split;rw[sel g];rfl;rfl;exact MZ h
def aAj:Op->Bool|.call _=>true|.store _ _ _=>true|.box _ _=>true|_=>false
def Us{mt:Bool}{m m':Nat->Option Blk}{o:Op}(h:aAj o=true->∀v∈vs,∀k∈cQ m v.1.names,m' k=m k):opE P K mt nx m' o vs=opE P K mt nx m o vs:=by
 have u:∀{l:List RV}{k:Nat},k∈zA2 (l.map (·.1))->∃v∈l,k∈v.1.names:=by
  intro l k;induction l with
  |nil=>intro h;simp[zA2]at h
  |cons x l y=>
   intro h;simp only[zO,zA2,qJ]at h;rcases h with h|h;exact⟨x,by simp,h⟩;obtain⟨v,i,f⟩:=y h;exact⟨v,by simp[i],f⟩
 unfold opE;split<;>first|rfl|skip
 rw[G3 (m:=m) (m':=m') λk e=>h rfl _ (by simp) k (dZ e)];rw[vQ (m:=m) (m':=m') λk e=>h rfl _ (by simp) k (dZ e)];split<;>first|rfl|skip
 refine A7 λk e=>?_;rcases e with e|e;exact h rfl _ (by simp) k e;rcases rS e with g|⟨j,z,b,hb,r⟩;obtain⟨v,i,f⟩:=u g;exact h rfl v (by simp[i]) k (dZ f);obtain⟨v,i,f⟩:=u z;exact h rfl v (by simp[i]) k (vr f hb r)
end Go.Eng
namespace Go.Eng
section
variable {σ:Type} (step:Nat->σ->σ)
def fY(done:Nat->Bool):Nat->σ->σ|0,s=>s|k+1,s=>if done k then step k (fY done k s)else fY done k s
def Ww:Nat->Bool:=λ_=>true
def nU{d d':Nat->Bool}:∀(k:Nat) (s:σ),(∀i,i<k->d i=d' i)->fY step d k s=fY step d' k s
 |0,_,_=>rfl|k+1,s,h=>by
  simp only[fY];rw[nU k s (λi hi=>h i Z),h k Z]
variable {step}
structure Orders(step:Nat->σ->σ)(n:Nat)(anc:Nat->Nat->Bool)(Rok U:Nat->σ->Prop)(s0:σ):Prop where
 comm:∀i j,i<j->j<n->anc i j=false->∀s,step j (step i s)=step i (step j s)
 rk1:∀i j,i<j->j<n->anc i j=false->∀s,Rok j (step i s)↔Rok j s
 rk2:∀i j,i<j->j<n->anc i j=false->∀s,Rok i (step j s)↔Rok i s
 u:∀i j,i<n->j<n->i≠j->(i<j\/anc j i=false)->∀s,U j s->U j (step i s)
 lex:∀j,j<n->Rok j (fY step Ww j s0)
 u0:∀j,j<n->U j s0
variable {n:Nat}{anc:Nat->Nat->Bool}{Rok U:Nat->σ->Prop}{s0:σ}
def NI(H:Orders step n anc Rok U s0){done:Nat->Bool}(hd:∀i j,i<j->j<n->anc i j=true->done j=true->done i=true):∀k,k<=n->
  ∃l:List Nat,(∀i∈l,i<k/\done i=false)/\fY step Ww k s0=l.foldl (λs i=>step i s) (fY step done k s0)
 |0,_=>⟨[],by simp,rfl⟩|k+1,A=>by
  obtain⟨l,e,r⟩:=NI H hd k Z;cases b:done k with
  |false=>
   refine⟨l++[k],λi hi=>?_,?_⟩;rcases qJ.1 hi with g|g;exact⟨by have:=(e i g).1;omega,(e i g).2⟩;simp at g;subst g;exact⟨Nat.lt_succ_self _,b⟩;simp only[fY,Ww,kT,b,wG,xW,qAg,kG,List.foldl_nil];rw[<- r]
  |true=>
   refine⟨l,λi hi=>⟨by have:=(e i hi).1;omega,(e i hi).2⟩,?_⟩;have key:∀(l:List Nat) (s:σ),(∀i∈l,i<k/\done i=false)->step k (l.foldl (λs i=>step i s) s)=l.foldl (λs i=>step i s) (step k s):=by
    intro l;induction l with
    |nil=>intro s _;rfl
    |cons i l u=>
     intro s h;have hi:=h i (by simp);have f:anc i k=false:=by
      cases x:anc i k with
      |false=>rfl|true=>have:=hd i k hi.1 Z x b;rw[hi.2]at this;cases this
     simp only[kG];rw[u (step i s) (λq v=>h q (by simp[v])),H.comm i k hi.1 Z f]
   show fY step Ww (k+1) s0=l.foldl (λs i=>step i s) (fY step done (k+1) s0);have z:fY step Ww (k+1) s0=step k (fY step Ww k s0):=rfl;have y:fY step done (k+1) s0=step k (fY step done k s0):=by show(if done k then _ else _)=_;rw[if_pos b]
   rw[z,y,r,key l _ e]
def Ik(H:Orders step n anc Rok U s0){done:Nat->Bool}(hd:∀i j,i<j->j<n->anc i j=true->done j=true->done i=true){j:Nat}(L:j<n)(v:done j=false)
  (y:∀i,i<j->anc i j=true->done i=true):
  Rok j (fY step done n s0)/\U j (fY step done n s0)/\fY step (λi=>if i=j then true else done i) n s0=step j (fY step done n s0):=by
 have b:∀i,j<i->i<n->done i=true->anc j i=false:=λi h1 h2 O=>by
  cases ha:anc j i with
  |false=>rfl|true=>have:=hd j i h1 h2 ha O;rw[v]at this;cases this
 refine⟨?_,?_,?_⟩
 ·
  obtain⟨l,h1,h2⟩:=NI H hd j Z;have A:=H.lex j L;rw[h2]at A;have back:∀(l:List Nat) (s:σ),(∀i∈l,i<j/\done i=false)->Rok j (l.foldl (λs i=>step i s) s)->Rok j s:=by
   intro l;induction l with
   |nil=>intro s _ h;exact h
   |cons i l x=>
    intro s A h;have hi:=A i (by simp);have T:anc i j=false:=by
     cases ha:anc i j with
     |false=>rfl|true=>have:=y i hi.1 ha;rw[hi.2]at this;cases this
    have:=x (step i s) (λq hq=>A q (by simp[hq])) h;exact(H.rk1 i j hi.1 L T s).1 this
  have O:Rok j (fY step done j s0):=back l _ h1 A;have fwd:∀k,j<=k->k<=n->Rok j (fY step done k s0):=by
   intro k hjk;induction k with
   |zero=>
     intro _;have:j=0:=by omega
     subst this;exact O
   |succ k x=>
    intro X;rcases zT k j with r|G;have:j=k+1:=by omega
    subst this;exact O;have g:=x G Z;simp only[fY];split;rename_i f;have z:j≠k:=λe=>by subst e;rw[v]at f;cases f
    exact(H.rk2 j k Z Z (b k Z Z f) _).2 g;exact g
  exact fwd n Z (qM _)
 .have all:∀k,k<=n->U j (fY step done k s0):=by
   intro k;induction k with
   |zero=>intro _;exact H.u0 j L
   |succ k x=>
    intro X;have g:=x Z;simp only[fY];split;rename_i f;have z:k≠j:=λe=>by subst e;rw[v]at f;cases f
    refine H.u k j Z L z ?_ _ g;rcases zT k j with h|h;exact .inl h;exact .inr (b k Z Z f);exact g
  exact all n (qM _)
 .have low:∀k,k<=j->fY step (λi=>if i=j then true else done i) k s0=fY step done k s0:=λk X=>
   nU step k s0 (λi hi=>if_neg Z)
  have all:∀k,j+1<=k->k<=n->fY step (λi=>if i=j then true else done i) k s0=step j (fY step done k s0):=by
   intro k hjk;induction k with
   |zero=>omega|succ k x=>
    intro X;rcases zT j k with r|G;have g:=x r Z;have V:(k=j)=False:=by simp;omega
    simp only[fY,V,xW];rw[g];split;rename_i f;exact H.comm j k r Z (b k r Z f) _;rfl;have e:k=j:=by omega
    subst e;simp only[fY,kT,v,wG,xW];rw[low k (qM _)]
  exact all n Z (qM _)
end
end Go.Eng
namespace Go.Eng
open Go
abbrev Any:Machine->Prop:=λ_=>True
def At(P:Program)(ro:Option Nat)(c:Code)(Q:Exit->Act->World->Prop)(a:Act)(w:World):Prop:=
 ∀(b:Frame) (k:List Item) (cs:List Frame),b.roundOf=ro->(P.funcs[b.fn]?).isSome=true->
  ∃e a' w',Q e a' w'/\ArrivesIn Any P (lone (b.atR a (.code c::k)) cs w) b k cs e a' w'
def toAny{I:Machine->Prop}{P:Program}{m m':Machine}(h:StepsIn I P m m'):StepsIn Any P m m':=h.mono λ_ _=>trivial
def iI{P:Program}{m m':Machine}(h:step P m=.next m'):StepsIn Any P m m':=.one trivial h
def YB{P:Program}{m m':Machine}(h:StepsIn Any P m m'):StepsIn (Machine.fenced P Fence.wide) P m m':=h.mono λ_ _=>fenced_wide P _
def RE{I:Machine->Prop}{P:Program}{m:Machine}{b:Frame}{k:List Item}{cs:List Frame}{e:Exit}{a:Act}{w:World}(h:ArrivesIn I P m b k cs e a w):ArrivesIn Any P m b k cs e a w:=by
 cases e with
 |normal=>exact toAny h|exit id=>exact⟨λk' j=>toAny (h.1 k' j),λi j=>let⟨f,g,r⟩:=h.2 i j;⟨f,g,toAny r⟩⟩|goto l=>exact⟨λk' j=>toAny (h.1 k' j),λi j=>let⟨f,g,r⟩:=h.2 i j;⟨f,g,toAny r⟩⟩|ret=>exact⟨λi=>let⟨t,g⟩:=h.1 i;⟨t,toAny g⟩,λi=>let⟨t,g⟩:=h.2 i;⟨t,toAny g⟩⟩|panic u=>exact let⟨t,g⟩:=h;⟨t,toAny g⟩|outgrown=>exact h
section
variable {P:Program}{ro:Option Nat}{Q:Exit->Act->World->Prop}{a:Act}{w:World}
def Wi{F:Fence}{n:Nat}{c:Code}(i:F.round=ro)(j:∀f,F.fn f)(hd:F.depth=none)(h:c.wpIn F n P Q a w):At P ro c Q a w:=λb k cs hb _=>
 let⟨e,u,w',q,r⟩:=h b k cs (hb.trans i.symm) (j _) (λd g=>by rw[hd]at g;cases g)
 ⟨e,u,w',q,RE r⟩
def LD{m:Machine}{b:Frame}{x:Item}{k:List Item}{cs:List Frame}{e:Exit}{a:Act}{w:World}(f:x.plain=true)(g:e≠.normal)(h:ArrivesIn Any P m b (x::k) cs e a w):ArrivesIn Any P m b k cs e a w:=
 .pass f (λ_ _=>.inl g) h
def As{x y:Code}(h:At P ro x (Exit.then (At P ro y Q) Q) a w):At P ro (.seq x y) Q a w:=λb k cs hb i=>by
 obtain⟨e,L,u,g,r⟩:=h b (.code y::k) cs hb i;have s0:StepsIn Any P (lone (b.atR a (.code (.seq x y)::k)) cs w) (lone (b.atR a (.code x::.code y::k)) cs w):=iI stepR_seq;by_cases f:e=.normal;subst f;obtain⟨A,G,j,z,v⟩:=g b k cs hb i;exact⟨A,G,j,z,.of_steps (s0.trans r) v⟩;refine⟨e,L,u,?_,.of_steps s0 (LD rfl f r)⟩;cases e<;>first|exact(f rfl).elim|exact g
def aDr{c:Operand}{x y:Code}{t:Bool}(j:a.eval c=.bool t)(v:t=true->At P ro x Q a w)(u:t=false->At P ro y Q a w):At P ro (.cond c x y) Q a w:=λb k cs hb i=>by
 have h:At P ro (if t then x else y) Q a w:=by cases t with|true=>exact v rfl|false=>exact u rfl
 obtain⟨e,z,f,g,r⟩:=h b k cs hb i;exact⟨e,z,f,g,.of_steps (iI (stepR_cond j)) r⟩
def PS{id:Nat}{c:Code}(h:At P ro c (Exit.inBlock id Q) a w):At P ro (.block id c) Q a w:=λb k cs hb A=>by
 obtain⟨e,u,i,f,r⟩:=h b (.inBlock id::k) cs hb A;have s0:StepsIn Any P (lone (b.atR a (.code (.block id c)::k)) cs w) (lone (b.atR a (.code c::.inBlock id::k)) cs w):=iI stepR_block;cases e with
 |normal=>exact⟨.normal,u,i,f,s0.trans (StepsIn.trans r (iI stepR_inBlock))⟩|exit j=>
  by_cases y:j=id;replace f:Q .normal u i:=by simpa only[Exit.inBlock,y,kT]using f
  exact⟨.normal,u,i,f,s0.trans (r.1 k (by simp[exitTo,y]))⟩;replace f:Q (.exit j) u i:=by simpa only[Exit.inBlock,y,xW]using f
  have x:exitTo j (.inBlock id::k)=exitTo j k:=by simp[exitTo,Ne.symm y]
  exact⟨.exit j,u,i,f,λk' v=>s0.trans (r.1 k' (x.trans v)),λg v=>let⟨z,g1,g2⟩:=r.2 g (x.trans v);⟨z,g1,s0.trans g2⟩⟩
 |goto l=>
  have x:gotoIn l (.inBlock id::k)=gotoIn l k:=by simp[gotoIn]
  exact⟨.goto l,u,i,f,λk' v=>s0.trans (r.1 k' (x.trans v)),λg v=>let⟨z,g1,g2⟩:=r.2 g (x.trans v);⟨z,g1,s0.trans g2⟩⟩
 |ret=>exact⟨_,u,i,f,.of_steps s0 r⟩|panic G=>exact⟨_,u,i,f,.of_steps s0 r⟩|outgrown=>exact⟨_,u,i,f,.of_steps s0 r⟩
def ZU{c:Code}(h:At P ro c (λe a w=>match e with|.goto _=>False|e=>Q e a w) a w):At P ro (.scope c) Q a w:=λb k cs hb z=>by
 obtain⟨e,u,i,f,r⟩:=h b (.inScope c::k) cs hb z;have s0:StepsIn Any P (lone (b.atR a (.code (.scope c)::k)) cs w) (lone (b.atR a (.code c::.inScope c::k)) cs w):=iI (step_lone_go (by simp[stepG,stepG.exec,Frame.atR]));cases e with
 |normal=>exact⟨.normal,u,i,f,s0.trans (StepsIn.trans r (iI (step_lone_go (by simp[stepG,stepG.exec,Frame.atR]))))⟩|exit j=>
  have x:exitTo j (.inScope c::k)=exitTo j k:=by simp[exitTo]
  exact⟨.exit j,u,i,f,λk' v=>s0.trans (r.1 k' (x.trans v)),λg v=>let⟨y,g1,g2⟩:=r.2 g (x.trans v);⟨y,g1,s0.trans g2⟩⟩
 |goto l=>exact f.elim|ret=>exact⟨_,u,i,f,.of_steps s0 r⟩|panic A=>exact⟨_,u,i,f,.of_steps s0 r⟩|outgrown=>exact⟨_,u,i,f,.of_steps s0 r⟩
def at_loop{c:Code}(I:Nat->Act->World->Prop)(v:Nat)(V:I v a w)(round:∀n a w,I n a w->At P ro c (Exit.then (λh w'=>∃i,i<n/\I i h w') Q) a w):At P ro (.loop c) Q a w:=λb k cs hb y=>by
 have main:∀(n:Nat),∀m,m<=n->∀a w,I m a w->∃e h w',Q e h w'/\ArrivesIn Any P (lone (b.atR a (.code c::.inLoop c::k)) cs w) b k cs e h w':=by
  intro n;induction n with
  |zero=>
   intro m hm a w x;obtain⟨e,u,j,f,r⟩:=round m a w x b (.inLoop c::k) cs hb y;by_cases g:e=.normal;subst g;obtain⟨i,z,_⟩:=f;exact absurd z Z;refine⟨e,u,j,?_,LD rfl g r⟩;cases e<;>first|exact(g rfl).elim|exact f
  |succ n O=>
   intro m hm a w x;obtain⟨e,u,j,f,r⟩:=round m a w x b (.inLoop c::k) cs hb y;by_cases g:e=.normal;subst g;obtain⟨i,z,T⟩:=f;obtain⟨X,a2,A,L,G⟩:=O i Z u j T;exact⟨X,a2,A,L,.of_steps (StepsIn.trans r (iI stepR_inLoop)) G⟩;refine⟨e,u,j,?_,LD rfl g r⟩;cases e<;>first|exact(g rfl).elim|exact f
 obtain⟨e,h,w',f,r⟩:=main v v (qM _) a w V;exact⟨e,h,w',f,.of_steps (iI stepR_loop) r⟩
end
def oB(P:Program)(l:Nat)(R:Ending->World->Prop):Exit->Act->World->Prop|.panic ch,a,w=>a.defers=[]/\R (.panicked ch) w|e,a,w=>roundPost P l R e a w
def NK{P:Program}{l:Nat}{f:FuncId}{tmps:Array Value}{assign body:Code}{w:World}{R:Ending->World->Prop}(V:(P.funcs[f]?).isSome=true)
  (h:At P (some l) assign (Exit.then (λO w1=>∃G,(Instr.beginRound l).run P w1=.ok () G/\At P (some l) body (oB P l R) O G) (λ_ _ _=>False)) {tmps:=tmps,defers:=[]} w):
  RoundIn Fence.wide 0 P l f tmps assign body w R:=by
 refine⟨trivial,λc cs _=>?_⟩;obtain⟨b,hb⟩:∃b:Frame,b={ (default:Frame)with fn:=f,kind:=.normal,roundOf:=some l}:=⟨_,rfl⟩;have i:b.roundOf=some l:=by rw[hb]
 have y:b.fn=f:=by rw[hb]
 have e0:Frame.round l f tmps assign body .normal=b.atR {tmps:=tmps,defers:=[]} [.code assign,.beginRound,.code body]:=by rw[hb];simp[Frame.round,Frame.atR]
 obtain⟨e,O,w1,hq,r⟩:=h b [.beginRound,.code body] (c::cs) i (by rw[y];exact V);rw[<- e0]at r;cases e<;>first|exact hq.elim|skip
 obtain⟨G,X,z⟩:=hq;have s1:StepsIn Any P (lone (Frame.round l f tmps assign body .normal) (c::cs) w) (lone (b.atR O [.code body]) (c::cs) G):=StepsIn.trans r (iI (stepR_beginRound i X));obtain⟨e2,a2,w3,A,L⟩:=z b [] (c::cs) i (by rw[y];exact V);have done:∀{v:Value}{u:World}{m:Machine},StepsIn Any P (lone (b.atR O [.code body]) (c::cs) G) m->step P m=.next (lone (c.finish v) cs u)->R (.returned v) u->
   ∃e w',R e w'/\ComesIn (Machine.fenced P Fence.wide) P (lone (Frame.round l f tmps assign body .normal) (c::cs) w) (match e with|.returned v=>lone (c.finish v) cs w'|.panicked chain=>lone (c.raise chain) cs w'|.outgrown=>lone c cs w') e:=
  λ{v u _} g1 g2 g3=>⟨.returned v,u,g3,YB (s1.trans (g1.trans (iI g2)))⟩
 cases e2 with
 |normal=>
  obtain⟨v,u,g,j⟩:=A;exact done L (stepR_round_end i (by rw[hb]) g) j
 |ret=>
  obtain⟨v,u,g,j⟩:=A;obtain⟨k1,x⟩:=L.2 (by rw[i];rfl);exact done x (stepR_round_ret i (by rw[hb]) g) j
 |exit id=>
  obtain⟨v,u,g,j⟩:=A;obtain⟨k1,T,x⟩:=L.2 (by rw[i];rfl) rfl;exact done x (stepR_round_exit i (by rw[hb]) T g) j
 |goto t=>
  obtain⟨v,u,g,j⟩:=A;obtain⟨k1,T,x⟩:=L.2 (by rw[i];rfl) rfl;exact done x (stepR_round_goto i (by rw[hb]) T g) j
 |panic ch=>
  obtain⟨hd,j⟩:=A;obtain⟨todo,x⟩:=L;refine⟨.panicked ch,w3,j,YB (s1.trans (x.trans (iI (step_leave_panicked ⟨rfl,hd,?_⟩))))⟩;have:(P.funcs[b.fn]?).isSome=true:=by rw[y];exact V
  exact qAp.1 this
 |outgrown=>exact A.elim
def at_range{P:Program}{ro:Option Nat}{g:Operand}{ps:Array Tmp}{assign body:Code}{Q:Exit->Act->World->Prop}{a:Act}{w:World}
  (h:∀fn,(P.funcs[fn]?).isSome=true->∃(l:Nat) (mark:List Deferred) (T:World) (d:Deferred) (i:World) (f:FuncId) (args:Array Value) (O:World),
   (Instr.enterLoop fn a.tmps ps assign body ro).run P w=.ok (l,mark) T/\(resolve a.eval (rangeCall g l) 0).run P T=.ok d i/\(invoke d.target d.args).run P i=.ok (.enter f args) O/\
   CallsIn Fence.wide 0 P f args O λe u=>match e with
    |.returned _=>∃jump x,(Instr.endLoop l).run P u=.ok jump x/\(match jump with|none=>Q .normal {a with defers:=mark++a.defers} x|some c=>At P ro c Q {a with defers:=mark++a.defers} x)
    |.panicked X=>Q (.panic X) {a with defers:=mark++a.defers} u
    |.outgrown=>False):At P ro (.rangeFunc g ps assign body) Q a w:=λb k cs hb hf=>by
 obtain⟨l,mark,T,d,i,f,args,O,he,z,G,_,j⟩:=h b.fn hf;rw[<- hb]at he;have s0:=iI (stepR_rangeFunc (P:=P) (b:=b) (a:=a) (k:=k) (cs:=cs) (w:=w) he z G);obtain⟨e,u,fr,V,y,_,A⟩:=j (b.atR {a with defers:=mark++a.defers} (.inRangeFunc l::k)::cs) (room_wide _);cases e with
 |outgrown=>exact V.elim|returned v=>
  obtain⟨jump,x,L,hj⟩:=V;have s1:StepsIn Any P (lone fr (b.atR {a with defers:=mark++a.defers} (.inRangeFunc l::k)::cs) u) (lone (b.atR {a with defers:=mark++a.defers} (.endRangeFunc l::k)) cs u):=by
   rw[<- finish_atR_inRangeFunc l v];exact iI (step_leave_returned A)
  have s2:=(s0.trans (toAny y)).trans (s1.trans (iI (stepR_endRangeFunc L)));cases jump with
  |none=>exact⟨.normal,_,x,hj,s2⟩|some c=>
   obtain⟨e',a'',w5,hq,r⟩:=hj b k cs hb hf;exact⟨e',a'',w5,hq,.of_steps s2 r⟩
 |panicked X=>
  refine⟨.panic X,_,u,V,.inRangeFunc l::k,(s0.trans (toAny y)).trans (iI ?_)⟩;rw[<- Frame.raise_atR];exact step_leave_panicked A
def vt{P:Program}{f:FuncId}{fn:Func}{c:Code}{args:Array Value}{w:World}{R:Ending->World->Prop}(A:P.funcs[f]?=some fn)(hb:fn.body=some c)
  (h:At P none c (bodyPostM Fence.wide 0 P fn R) {tmps:=args++Array.replicate (fn.ntmps-args.size) undef,defers:=[]} w):CallsIn Fence.wide 0 P f args w R:=by
 refine⟨trivial,λcs T=>?_⟩;obtain⟨b,y⟩:∃b:Frame,b={ (default:Frame)with fn:=f,kind:=.normal,roundOf:=none}:=⟨_,rfl⟩;have i:b.fn=f:=by rw[y]
 have O:b.kind=.normal:=by rw[y]
 have j:b.roundOf=none:=by rw[y]
 have X:Frame.enter P f args .normal=b.atR {tmps:=args++Array.replicate (fn.ntmps-args.size) undef,defers:=[]} [.code c]:=by rw[y];simp[Frame.enter,Frame.atR,A,hb]
 obtain⟨e,v,w',u,r⟩:=h b [] cs j (by rw[i,A];rfl);rw[<- X]at r;have out:∀(m:FrameMode) (g:List Item),m≠.run->LeavesInM Fence.wide 0 P fn v.tmps R v.defers m w'->StepsIn Any P (lone (Frame.enter P f args .normal) cs w) (lone {b.atR v g with mode:=m} cs w')->
   ∃e w' fr,R e w'/\ComesIn (Machine.fenced P Fence.wide) P (lone (Frame.enter P f args .normal) cs w) (lone fr cs w') e/\fr.fn=f/\fr.leaving P w' e:=λm g _ V x=>by
  obtain⟨e',z,L,G,g1,g2,g3⟩:=leaves_stepsInM (F:=Fence.wide) (n:=0) v.defers m w' {b.atR v g with mode:=m} cs rfl rfl rfl (by rw[show({b.atR v g with mode:=m}:Frame).fn=f from i];exact A) O trivial T V;exact⟨e',z,L,G,ComesIn.of_steps (YB x) g1,g2.trans i,g3⟩
 cases e with
 |normal=>exact out .returning [] (by simp) u (StepsIn.trans r (iI (stepR_end j)))|ret=>
  obtain⟨g,x⟩:=r.1 j;exact out .returning g (by simp) u x
 |panic ch=>
  obtain⟨g,x⟩:=r;exact out (.panicking ch) g (by simp) u x
 |exit id=>exact u.elim|goto l=>exact u.elim|outgrown=>exact⟨.outgrown,w',b,u,r.resolve_left (by rw[O];simp),i,trivial⟩
end Go.Eng
namespace Go.Eng
open Go.RowKit
structure Rec where
 dst:Option Tmp
 val:AV
 upd:List (Nat×Blk)
 new:Option Nat
 reads:List Tmp
 fp:List Nat
 need:List Prop
def fC(r:Rec)(s:Sig):Sig:=⟨upT s.T r.dst r.val,upM s.m r.upd,s.sv⟩
def KN:AV->AV|.pin _ a=>a|a=>a
variable {C:Ctx}{P:Program}
def R1{a:AV}{v:Value}(h:a.rel P C v):(KN a).rel P C v:=by
 unfold KN;split;exact h.2;exact h
def KL(a:AV):(KN a).names=a.names:=by
 unfold KN;split<;>simp[AV.names]
def evT(G:List (Nat×AV))(T:Nat->AV):Operand->AV
 |.tmp t=>KN (T t)|.const v=>It v|.global g=>match G.lookup g with
  |some a=>a|none=>.val (.pointer (some ⟨g,0,none⟩))
 |.func f=>.fn f []
variable {k:Nat}
def x7{β:Type}{l:List (Nat×β)}{b:β}(h:l.lookup k=some b):(k,b)∈l:=by
 induction l with
 |nil=>simp at h|cons p l f=>
  obtain⟨p1,p2⟩:=p;simp only[List.lookup]at h;split at h;rename_i e;cases h;have:k=p1:=by simpa using e
  subst this;simp;exact zA _ (f h)
variable {S:Base}{D:Nat->Prop}{a:Act}{w:World}{E:Nat->Ent}{σ:Sig}
def fy(h:aQ S σ a w D E)(x:Operand):(evT S.G σ.T x).rel S.P ⟨w,D,σ.m,E⟩ (a.eval x):=by
 cases x with
 |tmp t=>exact R1 (h.tm t)|const v=>exact Is v|global g=>
  simp only[evT];split;rename_i av b;exact(h.gl _ (x7 b)).2;exact rfl
 |func f=>exact⟨[],rfl,rfl⟩
variable {G:List (Nat×AV)}
def Vy(e:∀p∈G,p.2.names=[]){T:Nat->AV}(h:∀t,k∉(T t).names)(x:Operand):k∉(evT G T x).names:=by
 cases x with
 |tmp t=>simp only[evT,KL];exact h t|const v=>cases v<;>simp[evT,It,AV.names]
 |global g=>
  simp only[evT];split;rename_i av b;rw[e _ (x7 b)];simp;simp[AV.names]
 |func f=>simp[evT,AV.names,zA2]
def eqW(b:Bool):Bool->Bool|true=>b|false=>!b
def RO(T:Nat->AV)(ops:Array Oper):Option (Nat×Bool)->Option Bool
 |none=>some true|some (k,want)=>match(ops[k]?).bind (·.dst)with
  |some d=>match T d with
   |.dat .bool b=>some (eqW b want)|.grd g (.dat .bool b)=>some (g&&eqW b want)|_=>none
  |none=>none
variable {g:Bool}{ops:Array Oper}{o:Oper}
def GH(h:aQ S σ a w D E)(f:RO σ.T ops o.guard=some g):
  Region.wanted o (yielded ops a.tmps)=g:=by
 unfold RO at f;unfold Region.wanted;split at f;rename_i r;cases f;rw[r];rename_i k i r;rw[r];simp only;split at f;rename_i d hd;have y:yielded ops a.tmps k=match a.tmps[d]? with|some (.bool b)=>some b|_=>none:=by
  unfold yielded;rw[hd];rfl
 rw[y];have e:=h.tm d;split at f;rename_i b x;cases f;rw[x]at e;simp only[AV.rel,ag,vH,vW]at e;have:a.tmps[d]?=some (.bool b):=by
  rw[qV]at e;cases j:a.tmps[d]? with
  |none=>rw[j]at e;cases e
  |some v=>rw[j]at e;simp at e;rw[e]
 rw[this];simp only[];cases b<;>cases i<;>rfl;rename_i G b x;cases f;rw[x]at e;obtain⟨A,z⟩:=e;cases G with
 |true=>
  have e:=A rfl;simp only[AV.rel,ag,vH,vW]at e;have:a.tmps[d]?=some (.bool b):=by
   rw[qV]at e;cases j:a.tmps[d]? with
   |none=>rw[j]at e;cases e
   |some v=>rw[j]at e;simp at e;rw[e]
  rw[this];simp only[];cases b<;>cases i<;>rfl
 |false=>
  have u:=z rfl;rw[qV]at u;cases j:a.tmps[d]? with
  |none=>rfl|some v=>
   rw[j]at u;simp at u;subst u;rfl
 cases f;cases f
def ug(g:Bool):AV->AV×List Prop|.grd g' v=>(v,[g=true->g'=true])|v=>(v,[])
def oR{a:AV}{v:Value}(e:g=true)(b:∀q∈(ug g a).2,q)(h:a.rel P C v):(ug g a).1.rel P C v:=by
 cases a<;>first
  |exact h
  |exact h.1 ((b _ (vI.2 rfl)) e)
def Xd(g:Bool)(a:AV):(ug g a).1.names=a.names:=by
 unfold ug;split;simp[AV.names];rfl
def aFk(x:Bool):AV->AV->Option AV|.dat t u,.dat t' v=>if h:t'=t then some (.dat t (bif x then u else h▸v))else none|_,_=>none
def aCv(g:Bool)(c a b:AV):Option Core:=
 match ug g c with
 |(.dat .bool x,nc)=>
  match aFk x (ug (g&&x) a).1 (ug (g&&!x) b).1 with
  |some v=>some {need:=nc++(ug (g&&x) a).2++(ug (g&&!x) b).2,val:=v}|none=>none
 |_=>none
def Ys{c a b:AV}{core:Core}{u j i:Value}(z:g=true)(h:aCv g c a b=some core)(y:∀q∈core.need,q)
  (V:c.rel P C u) (T:a.rel P C j) (O:b.rel P C i):
  core.upd=[]/\core.new=none/\∃r,(do pure (Next.value (if <- asBool u then j else i)):Sem Next).run P w=.ok (.value r) w/\core.val.rel P C r:=by
 unfold aCv at h;split at h;rename_i x nc A;split at h;rename_i X f;cases h;have v:=oR z (λq e=>y q (by rw[A]at e;simp[e])) V;rw[A]at v;simp only[AV.rel,ag,vH,vW]at v;subst v;refine⟨rfl,rfl,if x=true then j else i,by simp[asBool],?_⟩;unfold aFk at f;split at f;rename_i t p t' q L e;split at f;rename_i G;subst G;cases f;cases x with
 |true=>
  have:=oR (g:=g&&true) (by rw[z];rfl) (λq e=>y q (qJ.2 (.inl (qJ.2 (.inr e))))) T;rw[L]at this;simpa using this
 |false=>
  have:=oR (g:=g&&!false) (by rw[z];rfl) (λq e=>y q (qJ.2 (.inr e))) O;rw[e]at this;simpa using this
 cases f;cases f;cases h;cases h
def R7:Operand->List Tmp|.tmp t=>[t]|_=>[]
def aAa:Op->Bool|.pick _ _ _=>true|_=>false
def Rj(P:Program)(K:Kt)(mt:Bool)(nx:Nat)(m:Nat->Option Blk)(g:Bool)(op:Op)(raw:List AV):Option Core:=
 match aAa op,raw with
 |true,[c,a,b]=>aCv g c a b|true,_=>none|false,raw=>match opE P K mt nx m op (raw.map λv=>((ug g v).1,cL m (ug g v).1))with
  |some c=>some {c with need:=(raw.flatMap λv=>(ug g v).2)++c.need}
  |none=>none
def aGG:AV->List Nat|.buf nm _=>[nm]|.view nm _=>[nm]|.ptr nm _ _ _=>[nm]|.row nm _ _ _=>[nm]|.rptr nm _ _ _ _=>[nm]|_=>[]
def WN(m:Nat->Option Blk)(o:Op)(v:AV):List Nat:=if aAj o=true then cQ m v.names else aGG v
def P6{v:AV}(h:k∈aGG v):k∈v.names:=by
 cases v<;>first|exact h|cases h
def aAO{m:Nat->Option Blk}{o:Op}{v:AV}(h:k∈aGG v):k∈WN m o v:=by
 unfold WN;split;exact dZ (P6 h);exact h
def vk(ops:Array Oper):Option (Nat×Bool)->List Tmp
 |none=>[]|some (k,_)=>match(ops[k]?).bind (·.dst)with
  |some d=>[d]|none=>[]
def LQ(o:Oper)(g:Bool)(reads:List Tmp)(fp:List Nat)(c:Core):Option Rec:=
 match o.guard with
 |none=>some {dst:=o.dst,val:=c.val,upd:=c.upd,new:=c.new,reads:=reads,fp:=fp,need:=c.need}|some _=>match c.upd,c.new with
  |[],none=>some {dst:=o.dst,val:=.grd g c.val,upd:=[],new:=none,reads:=reads,fp:=fp,need:=c.need.map λp=>(g=true->p)}|_,_=>none
def iZ(P:Program)(G:List (Nat×AV))(K:Kt)(mt:Bool)(ops:Array Oper)(nx:Nat)(s:Sig)(o:Oper):Option Rec:=
 match RO s.T ops o.guard with
 |some g=>match Rj P K mt nx s.m g o.op (o.op.operands.toList.map (evT G s.T))with
  |some c=>LQ o g (o.op.operands.toList.flatMap R7++vk ops o.guard) (o.op.operands.toList.flatMap λx=>WN s.m o.op (ug g (evT G s.T x)).1) c|none=>none
 |none=>none
def v8{K:Kt}{mt:Bool}{nx:Nat}{s s':Sig}{r:Rec}(h:iZ P G K mt ops nx s o=some r)
  (X:∀t∈r.reads,s'.T t=s.T t) (h2:∀b∈r.fp,s'.m b=s.m b):iZ P G K mt ops nx s' o=some r:=by
 have hr:∃g,RO s.T ops o.guard=some g/\r.reads=o.op.operands.toList.flatMap R7++vk ops o.guard/\r.fp=o.op.operands.toList.flatMap λx=>WN s.m o.op (ug g (evT G s.T x)).1:=by
  unfold iZ at h;split at h;rename_i g L;split at h;rename_i c hc;refine⟨g,L,?_⟩;unfold LQ at h;split at h;cases h;exact⟨rfl,rfl⟩;split at h;cases h;exact⟨rfl,rfl⟩;cases h;cases h;cases h
 obtain⟨g,L,u,O⟩:=hr;have e1:∀x∈o.op.operands.toList,evT G s'.T x=evT G s.T x:=by
  intro x e;cases x with
  |tmp t=>exact yS KN (X t (by rw[u];exact qJ.2 (.inl (xH.2 ⟨_,e,by simp[R7]⟩))))|_=>rfl
 have e2:RO s'.T ops o.guard=RO s.T ops o.guard:=by
  unfold RO;cases A:o.guard with
  |none=>rfl|some p=>
   obtain⟨k,V⟩:=p;simp only;cases hd:(ops[k]?).bind (·.dst)with
   |none=>rfl|some d=>
    simp only;rw[X d (by rw[u];exact qJ.2 (.inr (by simp[vk,A,hd])))]
 have e3:o.op.operands.toList.map (evT G s'.T)=o.op.operands.toList.map (evT G s.T):=zK e1;have i:∀x∈o.op.operands.toList,∀b∈WN s.m o.op (ug g (evT G s.T x)).1,s'.m b=s.m b:=λx e b f=>
  h2 b (by rw[O];exact xH.2 ⟨x,e,f⟩)
 have e4:∀x∈o.op.operands.toList,∀v,v=(ug g (evT G s.T x)).1->cL s'.m v=cL s.m v:=by
  intro x e v j;have:∀b∈aGG v,s'.m b=s.m b:=λb f=>i x e b (by rw[<- j];exact aAO f);cases v<;>first|rfl|exact this _ (vI.2 rfl)
 have e5:Rj P K mt nx s'.m g o.op (o.op.operands.toList.map (evT G s.T))=Rj P K mt nx s.m g o.op (o.op.operands.toList.map (evT G s.T)):=by
  unfold Rj;split;rfl;rfl;have:((o.op.operands.toList.map (evT G s.T)).map λv=>((ug g v).1,cL s'.m (ug g v).1))=((o.op.operands.toList.map (evT G s.T)).map λv=>((ug g v).1,cL s.m (ug g v).1)):=by
   apply zK;intro v j;obtain⟨x,e,rfl⟩:=vK.1 j;rw[e4 x e _ rfl]
  rw[this,Us (m:=s.m) (m':=s'.m)];intro hd v j k z;obtain⟨y,hy,rfl⟩:=vK.1 j;obtain⟨x,e,rfl⟩:=vK.1 hy;exact i x e k (by unfold WN;rw[if_pos hd];exact z)
 have e6:(o.op.operands.toList.flatMap λx=>WN s'.m o.op (ug g (evT G s'.T x)).1)=o.op.operands.toList.flatMap λx=>WN s.m o.op (ug g (evT G s.T x)).1:=by
  simp only[List.flatMap_def];congr 1;apply zK;intro x e;rw[e1 x e];unfold WN;split;rename_i hd;exact Ai λk z=>i x e k (by unfold WN;rw[if_pos hd];exact dZ z);rfl
 unfold iZ at h ⊢;rw[e2,e3];rw[L]at h ⊢;simp only at h ⊢;rw[e5,e6];exact h
def Base.F(S:Base):Fence:=match S.rd with|none=>Fence.wide|some l=>Fence.wide.inRound l
def Base.F_fn(S:Base)(f:FuncId):S.F.fn f:=by unfold Base.F;split<;>trivial
def Base.F_depth(S:Base):S.F.depth=none:=by unfold Base.F;split<;>rfl
def Base.F_round(S:Base):S.F.round=S.rd:=by unfold Base.F;split<;>(rename_i h;rw[h];rfl)
def zC8{S:Base}{n:Nat}{P:Program}{f:FuncId}{args:Array Value}{w:World}{R:Ending->World->Prop}(h:Calls P f args w R):CallsIn S.F n P f args w R:=by
 unfold Base.F;split;exact callsIn_wide.2 h;exact CallsIn.inRound _ (callsIn_wide.2 h)
def qb{K:Kt}(hK:ai S.P S.G K){mt:Bool}{nx i:Nat}{r:Rec}{Q:Exit->Act->World->Prop}(ho:ops[i]?=some o)
  (hs:Sim S σ a w) (hd:∀d,o.dst=some d->d<S.N) (V:iZ S.P S.G K mt ops nx σ o=some r) (hn:∀q∈r.need,q) (hu:∀k,r.new=some k->Unm k σ):
  wpOpIn S.F 0 S.P ops Q i (λa' w'=>Sim S (fC r σ) a' w') a w:=by
 obtain⟨D,E,h⟩:=hs;unfold iZ at V;split at V;case h_2=>cases V
 rename_i g hg;split at V;case h_2=>cases V
 rename_i c L;unfold wpOpIn;rw[ho];simp only;have hw:=GH (o:=o) h hg;have run:g=true->∀(hn':∀q∈c.need,q) (hu':∀k,c.new=some k->Unm k σ),Yields S ⟨σ.T,upM σ.m c.upd,σ.sv⟩ a c.val ((execOp a.eval o).run S.P w):=by
  intro X hn' hu';unfold Rj at L;split at L
  .rename_i c0 a0 b0 hp hraw;obtain⟨dst,op,ty,pos,after,guard⟩:=o;cases op<;>first|(cases hp;done)|skip
   rename_i oc oa ob;simp only[Op.operands,zO,qBx,vH,vW]at hraw;obtain⟨rfl,rfl,rfl⟩:=hraw;obtain⟨h1,h2,rr,h3,h4⟩:=Ys (w:=w) X L hn' (fy h oc) (fy h oa) (fy h ob);rw[h1];exact .inl ⟨rr,w,h3,D,E,h,h4⟩
  cases L;split at L;rename_i c' hop;cases L;have hrel:zA1 S.P ⟨w,D,σ.m,E⟩ (((o.op.operands.toList.map (evT S.G σ.T)).map λv=>((ug g v).1,cL σ.m (ug g v).1)).map (·.1)) (o.op.operands.toList.map a.eval):=by
   refine zB3 (by simp) λj av u h1 h2=>?_;simp only[List.map_map,qX,qCc]at h1 h2;obtain⟨x,hx,rfl⟩:=h1;obtain⟨x',hx',rfl⟩:=h2;rw[hx]at hx';cases hx';refine oR X (λq hq=>hn' q ?_) (fy h x);simp only[qJ,xH];exact .inl ⟨evT S.G σ.T x,vK.2 ⟨x,yA hx,rfl⟩,hq⟩
  refine aFl (c:=c') hK h hrel (λv hv=>?_) hop (λq hq=>hn' q (qJ.2 (.inr hq))) (λk hk=>⟨hu' k hk,λv hv=>?_⟩);obtain⟨x,_,rfl⟩:=vK.1 hv;rfl;obtain⟨x,hx,rfl⟩:=vK.1 hv;obtain⟨y,_,rfl⟩:=vK.1 hx;simp only;rw[Xd];exact Vy (λp hp=>(h.gl p hp).1) (hu' k hk).2.1 y;cases L
 have fin:∀x v (w':World),r.upd=c.upd->Outcome S ⟨σ.T,upM σ.m c.upd,σ.sv⟩ a x v w'->(∀C:Ctx,x.rel S.P C v->r.val.rel S.P C v)->r.dst=o.dst->Sim S (fC r σ) (a.put o.dst v) w':=by
  intro x v w' b hout O z;obtain⟨D',E',q1,q2⟩:=hout;have:=q1.put (d:=o.dst) (v:=v) (x:=r.val) (λt ht=>hd t ht) (O _ q2);refine⟨D',E',?_⟩;unfold fC;rw[z,b];exact this
 have nodef:∀d,o.op≠.defer d:=λd e=>by
  have hp:aAa o.op=false:=by rw[e];rfl
  unfold Rj at L;split at L;rename_i he _;rw[hp]at he;cases he;cases L;rw[e]at L;simp only[opE]at L;cases L
 have about:∀f,o.about S.P w a.eval=some f->S.F.fn f:=λf _=>S.F_fn f;have upon:∀x,r.upd=c.upd->r.dst=o.dst->(∀(C:Ctx) v,x.rel S.P C v->r.val.rel S.P C v)->Yields S ⟨σ.T,upM σ.m c.upd,σ.sv⟩ a x ((execOp a.eval o).run S.P w)->
   o.wpIn S.F 0 S.P a w (λa' w'=>Sim S (fC r σ) a' w') Q:=by
  intro x b z O hy;unfold Oper.wpIn;refine⟨about,?_⟩;rw[Oper.semAt_eq _ _ _ nodef];rcases hy with⟨v,w',e,ho⟩|⟨w',e,ho⟩|⟨f,args,w',e,ho⟩;rw[e];exact fin x v w' b ho (λC=>O C v) z;rw[e];exact fin x undef w' b ho (λC=>O C undef) z;rw[e,Oper.uponIn_enter];refine⟨λh=>(by rw[S.F_depth]at h;cases h),zC8 (ho.mono λe2 w2 he=>?_)⟩;obtain⟨v,rfl,ho2⟩:=he;exact fin x v w2 b ho2 (λC=>O C v) z
 rw[hw];unfold LQ at V;split at V;rename_i hgd;cases V;have X:g=true:=by rw[hgd]at hg;simp only[RO,wQ]at hg;exact hg.symm
 rw[if_pos X];exact upon c.val rfl rfl (λC v hv=>hv) (run X hn hu);rename_i gp hgd;split at V;rename_i b hnew;cases V;by_cases A:g=true;rw[if_pos A];refine upon c.val b.symm rfl (λC v hv=>⟨λ_=>hv,λhf=>by rw[A]at hf;cases hf⟩) (run A (λq hq=>?_) (λk hk=>by rw[hnew]at hk;cases hk));exact hn (g=true->q) (vK.2 ⟨q,hq,rfl⟩) A;rw[if_neg A];exact⟨about,D,E,h.put (d:=o.dst) (v:=undef) (x:=.grd g c.val) hd ⟨λhf=>(A hf).elim,λ_=>rfl⟩⟩;cases V
end Go.Eng
namespace Go.Eng
open Go.RowKit
structure St where
 tm:List AV
 mem:List (Nat×Blk)
 nx:Nat
 sv:List AV:=[]
def St.sig(s:St):Sig:=⟨λt=>s.tm.getD t .top,λnm=>s.mem.lookup nm,s.sv⟩
def xF:List (Nat×Blk)->Nat->Blk->List (Nat×Blk)|[],k,b=>[(k,b)]|q::r,k,b=>if q.1=k then(k,b)::r else q::xF r k b
def qy(k:Nat)(b:Blk):∀(l:List (Nat×Blk)) (i:Nat),(xF l k b).lookup i=if i=k then some b else l.lookup i
 |[],i=>by
  simp only[xF,List.lookup];by_cases e:i=k;subst e;simp;have:(i==k)=false:=by simpa using e
  simp[this,e]
 |q::r,i=>by
  obtain⟨f,h⟩:=q;simp only[xF];by_cases g:f=k;subst g;simp only[kT,List.lookup];by_cases e:i=f;subst e;simp;have:(i==f)=false:=by simpa using e
  simp[this,e];simp only[g,xW,List.lookup];by_cases e:i=f;subst e;simp[g];have:(i==f)=false:=by simpa using e
  simp only[this];exact qy k b r i
def cV(r:Rec)(s:St):St:=
 {s with
  tm:=match r.dst with|some d=>s.tm.set d r.val|none=>s.tm
  mem:=r.upd.foldr (λp m=>xF m p.1 p.2) s.mem
  nx:=match r.new with|some k=>k+1|none=>s.nx}
def iJ(r:Rec)(n:Nat):Bool:=
 (match r.dst with|some d=>decide (d<n)|none=>true)&&true
def jU(r:Rec)(s:St):(cV r s).tm.length=s.tm.length:=by
 unfold cV;cases r.dst<;>simp
def iL{r:Rec}{s:St}(h:iJ r s.tm.length=true):(cV r s).sig=fC r s.sig:=by
 unfold iJ at h;simp only[qC]at h;obtain⟨x,A⟩:=h;have j:(cV r s).sig.T=(fC r s.sig).T:=by
  funext t;simp only[St.sig,cV,fC,upT];cases hd:r.dst with
  |none=>simp|some d=>
   rw[hd]at x;have i:d<s.tm.length:=by simpa using x
   simp only[wQ];by_cases e:t=d;subst e;simp[qA,i];simp only[if_neg e,qA];rw[qBr (λh=>e h.symm)]
 have v:(cV r s).sig.m=(fC r s.sig).m:=by
  funext k;simp only[St.sig,cV,fC,upM];induction r.upd with
  |nil=>rfl|cons p l z=>
   obtain⟨k',b⟩:=p;simp only[qDu,qy,List.lookup];by_cases e:k=k';subst e;simp;have:(k==k')=false:=by simpa using e
   simp only[this,if_neg e];exact z
 cases g:(cV r s).sig with
 |mk T m sv=>
  cases f:fC r s.sig with
  |mk G m' y=>
   have u:(cV r s).sig.sv=(fC r s.sig).sv:=rfl;rw[g,f]at j v u;simp only at j v u;rw[j,v,u]
structure jX where
 pre:Prop
 t:Ty
 L:List t.den
structure Cfg where
 P:Program
 G:List (Nat×AV)
 K:Kt
 mb:Tmp->Bool
 KI:FuncId->List AV->Option jX
 rng:Bool
 KP:KPt:=λ_ _ _=>none
 pf:FuncId->Bool:=λ_=>false
def aDS(mb:Tmp->Bool)(o:Oper):Bool:=match o.dst with|some d=>mb d|none=>false
def Cfg.mt(c:Cfg)(o:Oper):Bool:=aDS c.mb o
def iB(c:Cfg)(ops:Array Oper):List Oper->St->Option (List Rec)
 |[],_=>some []|o::os,s=>match iZ c.P c.G c.K (c.mt o) ops s.nx s.sig o with
  |some r=>if iJ r s.tm.length=true then match iB c ops os (cV r s)with
   |some rs=>some (r::rs)|none=>none
   else none
  |none=>none
def ie(rs:List Rec)(s:St)(j:Nat):St:=(rs.take j).foldl (λs r=>cV r s) s
def l9(rs:List Rec)(s:St)(j:Nat):(ie rs s j).tm.length=s.tm.length:=by
 unfold ie;induction rs.take j generalizing s with
 |nil=>rfl|cons r l b=>simp only[kG];rw[b,jU]
def wq{c:Cfg}{ops:Array Oper}:∀{os:List Oper}{s:St}{rs:List Rec},iB c ops os s=some rs->
  rs.length=os.length/\∀(j:Nat) o r,os[j]?=some o->rs[j]?=some r->
   iZ c.P c.G c.K (c.mt o) ops (ie rs s j).nx (ie rs s j).sig o=some r/\iJ r s.tm.length=true
 |[],s,rs,h=>by
  simp only[iB]at h;cases h;exact⟨rfl,λj o r h=>by simp at h⟩
 |o::os,s,rs,h=>by
  simp only[iB]at h;split at h;case h_2=>cases h
  rename_i r y;split at h;case isFalse=>cases h
  rename_i f;split at h;case h_2=>cases h
  rename_i u e;cases h;obtain⟨g1,g2⟩:=wq e;refine⟨by simp[g1],λj o' v g b=>?_⟩;cases j with
  |zero=>
   simp at g b;subst g b;exact⟨y,f⟩
  |succ j=>
   obtain⟨x,i⟩:=g2 j o' v (by simpa using g) (by simpa using b);rw[jU]at i;exact⟨by simpa[ie]using x,i⟩
def mX(rs:List Rec)(s:St)(j:Nat)(r:Rec)(h:rs[j]?=some r):ie rs s (j+1)=cV r (ie rs s j):=by
 unfold ie;rw[wW,h];simp
def unB(k:Nat)(s:St):Bool:=
 (s.mem.lookup k).isNone&&s.tm.all (λa=>!a.names.contains k)&&s.mem.all (λp=>!p.2.names.contains k)&&!(zA2 s.sv).contains k
def di{l:List (Nat×Blk)}{k:Nat}{b:Blk}(h:l.lookup k=some b):(k,b)∈l:=by
 induction l with
 |nil=>simp at h|cons p l f=>
  obtain⟨p1,p2⟩:=p;simp only[List.lookup]at h;split at h;rename_i e;cases h;have:k=p1:=by simpa using e
  subst this;simp;exact zA _ (f h)
def Nr{k:Nat}{s:St}(h:unB k s=true):Unm k s.sig:=by
 unfold unB at h;simp only[qC,qQ]at h;obtain⟨⟨⟨f,r⟩,j⟩,i⟩:=h;refine⟨?_,λt=>?_,λu b hb=>?_,by have g:k∉zA2 s.sv:=(by simpa using i);exact g⟩;show s.mem.lookup k=none;cases e:s.mem.lookup k with
 |none=>rfl|some b=>rw[e]at f;cases f
 show k∉(s.tm.getD t .top).names;rw[qA];cases e:s.tm[t]? with
 |none=>simp[AV.names]|some a=>
  have:=r a (yA e);simpa using this
 have:=j _ (di hb);simpa using this
def FB(k:Nat)(r:Rec):Bool:=!r.val.names.contains k&&r.upd.all (λp=>!(p.1==k)&&!p.2.names.contains k)
def sr{k:Nat}{r:Rec}(h:FB k r=true){s:Sig}(i:Unm k s):Unm k (fC r s):=by
 unfold FB at h;simp only[qC,qQ]at h;obtain⟨u,j⟩:=h;have f:∀e b,r.upd.lookup e=some b->e≠k/\k∉b.names:=λe b hb=>by
  have:=j _ (di hb);simpa using this
 refine⟨?_,λt=>?_,λe b hb=>?_,i.2.2.2⟩;show upM s.m r.upd k=none;unfold upM;cases g:r.upd.lookup k with
 |none=>exact i.1|some b=>exact absurd rfl (f k b g).1
 show k∉(upT s.T r.dst r.val t).names;unfold upT;split;simpa using u;exact i.2.1 t;replace hb:upM s.m r.upd e=some b:=hb;unfold upM at hb;cases g:r.upd.lookup e with
 |none=>rw[g]at hb;exact i.2.2.1 e b hb|some v=>rw[g]at hb;cases hb;exact(f e _ g).2
def Zm(d:Option Tmp)(l:List Tmp):Bool:=match d with|some d=>l.contains d|none=>false
def aFR:Option Tmp->Option Tmp->Bool|some d,some e=>d==e|_,_=>false
def indep(r s:Rec):Bool:=
 !Zm r.dst s.reads&&!Zm s.dst r.reads&&!aFR r.dst s.dst &&
 r.upd.all (λp=>!s.fp.contains p.1&&s.upd.all λq=>!(p.1==q.1))&&s.upd.all (λp=>!r.fp.contains p.1)
def BS{l:List (Nat×Blk)}{k:Nat}(h:∀p∈l,p.1≠k):l.lookup k=none:=by
 cases e:l.lookup k with
 |none=>rfl|some b=>exact absurd rfl (h _ (di e))
def oq{r s:Rec}(h:indep r s=true):
  (∀σ,fC s (fC r σ)=fC r (fC s σ))/\(∀σ,(∀t∈s.reads,(fC r σ).T t=σ.T t)/\∀b∈s.fp,(fC r σ).m b=σ.m b)/\
  (∀σ,(∀t∈r.reads,(fC s σ).T t=σ.T t)/\∀b∈r.fp,(fC s σ).m b=σ.m b):=by
 unfold indep at h;simp only[qC,qQ]at h;obtain⟨⟨⟨⟨O,L⟩,y⟩,x⟩,G⟩:=h;have v:∀(d:Option Tmp) (l:List Tmp),(!Zm d l)=true->∀t∈l,some t≠d:=by
  intro d l hd t j e;subst e;simp[Zm,j]at hd
 refine⟨λσ=>?_,λσ=>⟨λt j=>?_,λb f=>?_⟩,λσ=>⟨λt j=>?_,λb f=>?_⟩⟩;unfold fC;congr 1;funext t;simp only[upT];by_cases i:some t=s.dst<;>by_cases g:some t=r.dst;exfalso;rw[<- i,<- g]at y;simp[aFR]at y;rw[if_pos i,if_neg g,if_pos i];rw[if_neg i,if_pos g,if_pos g];rw[if_neg i,if_neg g,if_neg g,if_neg i];funext b;simp only[upM];cases A:r.upd.lookup b<;>cases z:s.upd.lookup b<;>simp only[];exfalso;have:=(x _ (di A));simp only[qQ]at this;have:=this.2 _ (di z);simp at this;show upT σ.T r.dst r.val t=σ.T t;unfold upT;rw[if_neg (v _ _ O t j)];show upM σ.m r.upd b=σ.m b;unfold upM;rw[BS (λp u e=>by
  have:=(x p u).1;rw[e]at this;simp[f]at this)]
 show upT σ.T s.dst s.val t=σ.T t;unfold upT;rw[if_neg (v _ _ L t j)];show upM σ.m s.upd b=σ.m b;unfold upM;rw[BS (λp u e=>by
  have:=G p u;rw[e]at this;simp[f]at this)]
def M7(tbl:List Nat)(o:Oper):Nat:=o.after.toList.foldl (λs e=>if Region.binds .any e then s ||| 2 ^ e.on ||| tbl.getD e.on 0 else s) 0
def jV:List Nat->List Oper->List Nat|acc,[]=>acc|acc,o::os=>jV (acc++[M7 acc o]) os
def Av{T:List Nat}{i:Nat}:∀(es:List Edge) (s:Nat),(es.foldl (λs e=>if Region.binds .any e then s ||| 2 ^ e.on ||| T.getD e.on 0 else s) s).testBit i=true->
  s.testBit i=true\/∃e∈es,Region.binds .any e=true/\(i=e.on\/(T.getD e.on 0).testBit i=true)
 |[],s,h=>.inl h|e::es,s,h=>by
  simp only[kG]at h;rcases Av es _ h with g|⟨j,f,b⟩;split at g;rename_i hb;simp only[Nat.testBit_or,yH]at g;rcases g with(g|g)|g;exact .inl g;rw[Nat.testBit_two_pow]at g;have h9:e.on=i:=by simpa using g
  exact .inr ⟨e,by simp,hb,.inl h9.symm⟩;exact .inr ⟨e,by simp,hb,.inr g⟩;exact .inl g;exact .inr ⟨j,by simp[f],b⟩
def dflt:Rec:={dst:=none,val:=.top,upd:=[],new:=none,reads:=[],fp:=[],need:=[]}
def o8(tbl:List Nat)(ops:List Oper)(rs:List Rec):Bool:=
 (List.range ops.length).all λj=>
  (match ops[j]? with|some o=>tbl.getD j 0==M7 tbl o&&o.after.all (λe=>!Region.binds .any e||decide (e.on<j))|none=>false) &&
  (List.range j).all λi=>(tbl.getD j 0).testBit i||indep (rs.getD i dflt) (rs.getD j dflt)
def xn(draw:Bool)(tbl:List Nat)(s:St)(rs:List Rec):Bool:=
 (List.range rs.length).all λj=>match(rs.getD j dflt).new with|none=>true|some k=>unB k s&&(List.range rs.length).all λi=>i==j||(decide (j<i)&&(!draw||(tbl.getD i 0).testBit j))||FB k (rs.getD i dflt)
def zq{α:Type}{l:List α}{i:Nat}{x d:α}(h:l[i]?=some x):l.getD i d=x:=by
 rw[qA,h];rfl
def og{draw:Bool}{T:List Nat}{s:St}{rs:List Rec}(h:xn draw T s rs=true){j k:Nat}{r:Rec}(A:rs[j]?=some r)(L:r.new=some k):
  Unm k s.sig/\∀i q,rs[i]?=some q->i≠j->(i<j\/(draw=true/\(T.getD i 0).testBit j=false))->FB k q=true:=by
 unfold xn at h;rw[qQ]at h;have f:=(qG.1 A).1;have b:=h j (by simpa using f);rw[zq A,L]at b;simp only[qC,qQ]at b;refine⟨Nr b.1,λi q z e G=>?_⟩;have u:=(qG.1 z).1;have y:=b.2 i (by simpa using u);rw[zq z]at y;simp only[yH,kN,qC,qE,yC]at y;rcases y with(g|⟨g1,g2⟩)|g;exact(e g).elim;rcases G with G|⟨x,v⟩;omega;rcases g2 with g2|g2;rw[x]at g2;cases g2;rw[v]at g2;cases g2;exact g
def aFc(c:Cfg)(ops:Array Oper)(draw:Bool)(s:St):Option (List Prop×St):=
 match iB c ops ops.toList s with
 |some rs=>
  let tbl:=if draw then jV [] ops.toList else[]
  if xn draw tbl s rs=true/\(draw=true->o8 tbl ops.toList rs=true)then some (rs.flatMap (·.need),ie rs s rs.length)else none
 |none=>none
section
variable {S:Base}{K:Kt}{mb:Tmp->Bool}{ops:Array Oper}{s:St}{rs:List Rec}
def cq(rs:List Rec)(i:Nat)(σ:Sig):Sig:=match rs[i]? with|some r=>fC r σ|none=>σ
def nV(b:∀(j:Nat) (r:Rec),rs[j]?=some r->iJ r s.tm.length=true):∀j,j<=rs.length->fY (cq rs) Ww j s.sig=(ie rs s j).sig
 |0,_=>rfl|j+1,g=>by
  have f:=nV b j Z;have e:=qB (l:=rs) (show j<rs.length by omega);show cq rs j (fY (cq rs) Ww j s.sig)=_;rw[f,mX rs s j _ e,iL (by rw[l9];exact b j _ e)];simp only[cq,e]
structure Ko(S:Base)(K:Kt)(mb:Tmp->Bool)(ops:Array Oper)(s:St)(rs:List Rec):Prop where
 len:rs.length=ops.size
 at_:∀(j:Nat) o r,ops[j]?=some o->rs[j]?=some r->iZ S.P S.G K (aDS mb o) ops (ie rs s j).nx (ie rs s j).sig o=some r/\iJ r s.tm.length=true
 tm:s.tm.length=S.N
 need:∀(j:Nat) r,rs[j]?=some r->∀q∈r.need,q
def Ko.dst(H:Ko S K mb ops s rs){j:Nat}{o:Oper}{r:Rec}(h:ops[j]?=some o)(g:rs[j]?=some r):∀d,o.dst=some d->d<S.N:=by
 intro d hd;obtain⟨b,f⟩:=H.at_ j o r h g;have e:r.dst=o.dst:=by
  unfold iZ at b;split at b;split at b;unfold LQ at b;split at b;cases b;rfl;split at b;cases b;rfl;cases b;cases b;cases b
 unfold iJ at f;simp only[qC]at f;have:=f.1;rw[e,hd]at this;rw[<- H.tm];simpa using this
def Ko.step(u:ai S.P S.G K)(H:Ko S K mb ops s rs){Q:Exit->Act->World->Prop}{j:Nat}{o:Oper}{r:Rec}(f:ops[j]?=some o)(b:rs[j]?=some r){σ:Sig}{a:Act}{w:World}
  (x:∀t∈r.reads,σ.T t=(ie rs s j).sig.T t) (v:∀g∈r.fp,σ.m g=(ie rs s j).sig.m g) (h:∀k,r.new=some k->Unm k σ) (i:Sim S σ a w):
  wpOpIn S.F 0 S.P ops Q j (λy w'=>Sim S (cq rs j σ) y w') a w:=by
 have e:=v8 (H.at_ j o r f b).1 x v;have:=qb (Q:=Q) u f i (H.dst f b) e (H.need j r b) h;simp only[cq,b];exact this
def Ib(hK:ai S.P S.G K)(H:Ko S K mb ops s rs){T:List Nat}(e:xn false T s rs=true){a:Act}{w:World}(O:Sim S s.sig a w){Q:Exit->Act->World->Prop}
  (X:∀x w',Sim S (ie rs s rs.length).sig x w'->Q .normal x w') {id:Nat}:(Code.region id ops false).wpIn S.F 0 S.P Q a w:=by
 refine wpIn_region ?_;have g:∀(j:Nat) (r:Rec),rs[j]?=some r->iJ r s.tm.length=true:=λj r b=>by
  have A:j<ops.size:=by rw[<- H.len];exact(qG.1 b).1
  exact(H.at_ j _ r (yB A) b).2
 have z:∀(j k:Nat) r,rs[j]?=some r->r.new=some k->∀i,i<=j->Unm k (ie rs s i).sig:=by
  intro j k r b v i;induction i with
  |zero=>intro _;exact(og e b v).1
  |succ i y=>
   intro hi;have L:i<rs.length:=by have:=(qG.1 b).1;omega
   have f:=qB L;rw[mX rs s i _ f,iL (by rw[l9];exact g i _ f)];exact sr ((og e b v).2 i _ f Z (.inl Z)) (y Z)
 have key:∀(n j:Nat),j+n=ops.size->∀a w,Sim S (ie rs s j).sig a w->wpOpsIn S.F 0 S.P ops Q (List.range' j n) a w:=by
  intro n;induction n with
  |zero=>
   intro j A a w h;simp only[qCh,wpOpsIn];have:j=rs.length:=by rw[H.len];omega
   subst this;exact X a w h
  |succ n y=>
   intro j A a w h;have u:j<ops.size:=Z;have V:=yB u;have b:=qB (l:=rs) (show j<rs.length by rw[H.len];exact u);rw[qBp,wpOpsIn_cons];refine wpOpIn_mono (λx w' h'=>y (j+1) Z x w' ?_) (H.step hK (Q:=Q) V b (λ_ _=>rfl) (λ_ _=>rfl) (λk v=>z j k _ b v j (qM _)) h);rw[mX rs s j _ b,iL (by rw[l9];exact g j _ b)];simpa only[cq,b]using h'
 have:=key ops.size 0 Z a w O;rwa [<- qBn]at this
def Ir{T:List Nat}(h:o8 T ops.toList rs=true)(f:rs.length=ops.size):
  (∀(j:Nat) o,ops[j]?=some o->(∀e∈o.after,Region.binds .any e=true->e.on<j)/\∀i,(T.getD j 0).testBit i=true->∃e∈o.after,Region.binds .any e=true/\(i=e.on\/(T.getD e.on 0).testBit i=true))/\
  (∀(i j:Nat) (r q:Rec),i<j->rs[i]?=some r->rs[j]?=some q->(T.getD j 0).testBit i=false->indep r q=true):=by
 unfold o8 at h;rw[qQ]at h;refine⟨λj o A=>?_,λi j r q y L z hb=>?_⟩;have x:j<ops.size:=(vV.1 A).1;have b:=h j (by simpa using x);have v:ops.toList[j]?=some o:=by simpa using A
 rw[v]at b;simp only[qC,kN]at b;obtain⟨⟨u,G⟩,_⟩:=b;refine⟨λe O hb=>?_,λi hi=>?_⟩;rw[qAq]at G;have:=G e O;simpa[hb]using this;rw[u]at hi;unfold M7 at hi;rcases Av _ _ hi with g|⟨e,X,V⟩;simp at g;exact⟨e,by simpa using X,V⟩;have x:j<ops.size:=by rw[<- f];exact(qG.1 z).1
 have b:=h j (by simpa using x);simp only[qC,qQ]at b;have u:=b.2 i (by simpa using y);rw[zq L,zq z,hb]at u;simpa using u
def xd(hK:ai S.P S.G K)(hm:S.P.follows .mixedOrders=true)(H:Ko S K mb ops s rs){tbl:List Nat}(hnew:xn true tbl s rs=true)(hdr:o8 tbl ops.toList rs=true)
  {a:Act}{w:World} (hs:Sim S s.sig a {w with drawn:=w.drawn+1}) {Q:Exit->Act->World->Prop} (hQ:∀a' w',Sim S (ie rs s rs.length).sig a' w'->Q .normal a' w') {id:Nat}:
  (Code.region id ops true).wpIn S.F 0 S.P Q a w:=by
 refine wpIn_region_any hm ?_;have hok:∀(j:Nat) (r:Rec),rs[j]?=some r->iJ r s.tm.length=true:=λj r u=>by
  have y:j<ops.size:=by rw[<- H.len];exact(qG.1 u).1
  exact(H.at_ j _ r (yB y) u).2
 obtain⟨z,hind⟩:=Ir hdr H.len;have get:∀j,j<ops.size->∃r,rs[j]?=some r:=λj y=>⟨_,qB (by rw[H.len];exact y)⟩;have HO:Orders (cq rs) ops.size (λi j=>(tbl.getD j 0).testBit i)
   (λj σ=>∀r,rs[j]?=some r->(∀t∈r.reads,σ.T t=(ie rs s j).sig.T t)/\∀nm∈r.fp,σ.m nm=(ie rs s j).sig.m nm)
   (λj σ=>∀r k,rs[j]?=some r->r.new=some k->Unm k σ) s.sig:=by
  refine⟨λi j hij y hna σ=>?_,λi j hij y hna σ=>?_,λi j hij y hna σ=>?_,λi j hi y hne L σ hu=>?_,λj y=>?_,λj y r k u hk=>(og hnew u hk).1⟩;obtain⟨r,u⟩:=get i Z;obtain⟨q,V⟩:=get j y;simp only[cq,u,V];exact(oq (hind i j r q hij u V hna)).1 σ;obtain⟨r,u⟩:=get i Z;obtain⟨q,V⟩:=get j y;obtain⟨g1,g2⟩:=(oq (hind i j r q hij u V hna)).2.1 σ;simp only[cq,u];refine⟨λh r' O=>?_,λh r' O=>?_⟩<;>(have e:r'=q:=wZ (O.symm.trans V);subst e;obtain⟨h1,h2⟩:=h _ O);exact⟨λt ht=>(g1 t ht).symm.trans (h1 t ht),λnm b=>(g2 nm b).symm.trans (h2 nm b)⟩;exact⟨λt ht=>(g1 t ht).trans (h1 t ht),λnm b=>(g2 nm b).trans (h2 nm b)⟩;obtain⟨r,u⟩:=get i Z;obtain⟨q,V⟩:=get j y;obtain⟨g1,g2⟩:=(oq (hind i j r q hij u V hna)).2.2 σ;simp only[cq,V];refine⟨λh r' O=>?_,λh r' O=>?_⟩<;>(have e:r'=r:=wZ (O.symm.trans u);subst e;obtain⟨h1,h2⟩:=h _ O);exact⟨λt ht=>(g1 t ht).symm.trans (h1 t ht),λnm b=>(g2 nm b).symm.trans (h2 nm b)⟩;exact⟨λt ht=>(g1 t ht).trans (h1 t ht),λnm b=>(g2 nm b).trans (h2 nm b)⟩;obtain⟨q,V⟩:=get i hi;intro r k u hk;simp only[cq,V];refine sr ((og hnew u hk).2 i q V hne ?_) (hu r k u hk);rcases L with L|L;exact .inl L;exact .inr ⟨rfl,L⟩;intro r u;rw[nV hok j (by rw[H.len];omega)];exact⟨λ_ _=>rfl,λ_ _=>rfl⟩
 have key:∀(n:Nat) (listed:Array Bool) (a:Act) (w:World),listed.size=ops.size->
   ((List.range ops.size).filter λi=>!listed.getD i true).length<=n->
   (∀i j,i<j->j<ops.size->(tbl.getD j 0).testBit i=true->listed.getD j false=true->listed.getD i false=true)->
   Sim S (fY (cq rs) (λi=>listed.getD i false) ops.size s.sig) a w->wpAnyIn S.F 0 S.P .any ops Q n listed a w:=by
  have A:∀(listed:Array Bool) (a:Act) (w:World),listed.size=ops.size->Region.ready .any ops listed=[]->
    Sim S (fY (cq rs) (λi=>listed.getD i false) ops.size s.sig) a w->Q .normal a w:=by
   intro listed a w f hrd h;have hall:∀j,j<ops.size->listed.getD j false=true:=by
    intro j;induction j using Nat.strongRecOn with
    |_ j ih=>
     intro y;cases hd:listed.getD j false with
     |true=>rfl|false=>
      exfalso;have ho:=yB y;have hmem:j∈Region.ready .any ops listed:=by
       unfold Region.ready;simp only[yI,qW,qC,ho,zY,qK];refine⟨y,?_,?_⟩;have:listed.getD j true=listed.getD j false:=by simp[Array.getD,f,y]
       rw[this,hd];rfl;rw[qAq];intro e he;cases hb:Region.binds .any e with
       |false=>rfl|true=>
        have hlt:=(z j _ ho).1 e he hb;rw[ih e.on hlt Z];rfl
      rw[hrd]at hmem;cases hmem
   refine hQ a w ?_;rw[H.len,<- nV hok ops.size (by rw[H.len];exact qM _),nU (cq rs) (d:=Ww) (d':=λi=>listed.getD i false) ops.size s.sig (λi hi=>(hall i hi).symm)];exact h
  intro n;induction n with
  |zero=>
   intro listed a w f hcnt hdc h;have hrd:Region.ready .any ops listed=[]:=by
    have:((List.range ops.size).filter λi=>!listed.getD i true)=[]:=vY Z;unfold Region.ready;rw[qBd]at this ⊢;intro i hi;have:=this i hi;simp only[qC,not_and];intro h1;exact(this h1).elim
   exact⟨hrd,A listed a w f hrd h⟩
  |succ n ih=>
   intro listed a w f hcnt hdc h;refine⟨λhrd=>A listed a w f hrd h,λj y=>?_⟩;obtain⟨hjun,o,ho,hpre⟩:=mem_ready.1 y;have X:j<ops.size:=(vV.1 ho).1;obtain⟨r,u⟩:=get j X;have hjf:listed.getD j false=false:=by
    have:listed.getD j true=listed.getD j false:=by simp[Array.getD,f,X]
    rw[<- this];exact hjun
   have hp:∀i,i<j->(tbl.getD j 0).testBit i=true->listed.getD i false=true:=by
    intro i hij hb;obtain⟨e,he,heb,L⟩:=(z j o ho).2 i hb;have hel:=hpre e he heb;rcases L with rfl|L;exact hel;have hlt:=(z j o ho).1 e he heb;have:i<e.on:=by
     have below:∀q,q<ops.size->∀i,(tbl.getD q 0).testBit i=true->i<q:=by
      intro q;induction q using Nat.strongRecOn with
      |_ q ihq=>
       intro V i hb;have hoq:=yB V;obtain⟨e,he,heb,L⟩:=(z q _ hoq).2 i hb;have hlt:=(z q _ hoq).1 e he heb;rcases L with rfl|L;exact hlt;have:=ihq e.on hlt Z i L;omega
     exact below e.on Z i L
    exact hdc i e.on this Z L hel
   obtain⟨g1,g2,g3⟩:=Ik HO (done:=λi=>listed.getD i false) hdc X hjf hp;obtain⟨g4,g5⟩:=g1 r u;refine wpOpIn_mono (λa' w' h'=>ih (listed.setIfInBounds j true) a' w' (by simpa using f) ?_ ?_ ?_) (H.step hK (Q:=Q) ho u g4 g5 (λk hk=>g2 r k u hk) h)
   ·
    have L:∀(l:List Nat),l.Nodup->j∈l->(l.filter λi=>!(listed.setIfInBounds j true).getD i true).length+1<=(l.filter λi=>!listed.getD i true).length:=by
     intro l;induction l with
     |nil=>intro _ h;cases h
     |cons x l ihl=>
      intro hnd hm;rw[List.nodup_cons]at hnd;simp only[yR];by_cases hx:x=j;subst hx;have e1:(listed.setIfInBounds x true).getD x true=true:=by
       simp[Array.getD,f,X]
      have e2:∀(l:List Nat),x∉l->(l.filter λi=>!(listed.setIfInBounds x true).getD i true)=l.filter λi=>!listed.getD i true:=by
       intro l hl;apply qDd;intro i hi;have:i≠x:=λe=>hl (e▸hi);simp only[qV,zW];rw[if_neg (λe=>this e.symm)]
      rw[e1,hjun,e2 l hnd.1];simp;have e1:(listed.setIfInBounds j true).getD x true=listed.getD x true:=by
       simp only[qV,zW];rw[if_neg (λe=>hx e.symm)]
      rw[e1];have ih2:=ihl hnd.2 (by rcases zH.1 hm with g|g;exact(hx g.symm).elim;exact g);split;simp only[wO];omega;exact ih2
    have:=L (List.range ops.size) List.nodup_range (by simpa using X);omega
   intro i q hiq V hb hlq;have e:∀i,(listed.setIfInBounds j true).getD i false=if i=j then true else listed.getD i false:=by
    intro i;simp only[qV,zW];by_cases e:j=i;subst e;simp[f,X];rw[if_neg e,if_neg (λh=>e h.symm)]
   rw[e]at hlq ⊢;split;rfl;split at hlq;rename_i e1;subst e1;exact hp i hiq hb;exact hdc i q hiq V hb hlq;have e:(λi=>(listed.setIfInBounds j true).getD i false)=λi=>if i=j then true else listed.getD i false:=by
    funext i;simp only[qV,zW];by_cases e:j=i;subst e;simp[f,X];rw[if_neg e,if_neg (λh=>e h.symm)]
   rw[e,g3];exact h'
 refine key ops.size (Array.replicate ops.size false) a _ (by simp) ?_ ?_ ?_;exact wJ (zU _ _) (by simp);intro i j hij y hb hl;rw[qV]at hl;simp[y]at hl;have:∀n,fY (cq rs) (λi=>(Array.replicate ops.size false).getD i false) n s.sig=s.sig:=by
  intro n;induction n with
  |zero=>rfl|succ n ih=>
   have:(Array.replicate ops.size false).getD n false=false:=by
    rw[qV];cases h:(Array.replicate ops.size false)[n]? with
    |none=>rfl|some v=>rw[yY]at h;split at h<;>cases h;rfl
   simp only[fY,this,wG,xW];exact ih
 rw[this];exact hs
end
end Go.Eng
namespace Go.Eng
open Go.RowKit
section
variable {S:Base}{K:Kt}{mb:Tmp->Bool}{ops:Array Oper}{s:St}{rs:List Rec}
def Nq{listed:Array Bool}{j N:Nat}(z:listed.size=N)(r:j<N)(f:listed.getD j true=false):((List.range N).filter λi=>!(listed.setIfInBounds j true).getD i true).length+1<=((List.range N).filter λi=>!listed.getD i true).length:=by
 have L:∀(l:List Nat),l.Nodup->j∈l->(l.filter λi=>!(listed.setIfInBounds j true).getD i true).length+1<=(l.filter λi=>!listed.getD i true).length:=by
  intro l;induction l with
  |nil=>intro _ h;cases h
  |cons x l u=>
   intro b hm;rw[List.nodup_cons]at b;simp only[yR];by_cases y:x=j;subst y;have A:(listed.setIfInBounds x true).getD x true=true:=by
    simp[Array.getD,z,r]
   have O:∀(l:List Nat),x∉l->(l.filter λi=>!(listed.setIfInBounds x true).getD i true)=l.filter λi=>!listed.getD i true:=by
    intro l G;apply qDd;intro i hi;have:i≠x:=λe=>G (e▸hi);simp only[qV,zW];rw[if_neg (λe=>this e.symm)]
   rw[A,f,O l b.1];simp;have A:(listed.setIfInBounds j true).getD x true=listed.getD x true:=by
    simp only[qV,zW];rw[if_neg (λe=>y e.symm)]
   rw[A];have v:=u b.2 (by rcases zH.1 hm with g|g;exact(y g.symm).elim;exact g);split;simp only[wO];omega;exact v
 exact L (List.range N) List.nodup_range (by simpa using r)
def Live(tbl:List Nat)(k q j:Nat):Prop:=k<=j/\j≠q/\(tbl.getD j 0).testBit q=false
def GL(hK:ai S.P S.G K)(z:rs.length=ops.size)(htm:s.tm.length=S.N){b:List Nat}{k q:Nat}
  (hat:∀(j:Nat) o r,ops[j]?=some o->rs[j]?=some r->Live b k q j->iZ S.P S.G K (aDS mb o) ops (ie rs s j).nx (ie rs s j).sig o=some r/\(∀d,o.dst=some d->d<S.N)/\∀p∈r.need,p)
  (hok:∀(j:Nat) (r:Rec),rs[j]?=some r->iJ r s.tm.length=true) (hnew:xn true b s rs=true) (hdr:o8 b ops.toList rs=true) {Q:Exit->Act->World->Prop}
  (hQ:ops.size<=q->∀a' w',Sim S (ie rs s rs.length).sig a' w'->Q .normal a' w')
  (spec:q<ops.size->∀(n:Nat) (listed:Array Bool) (a:Act) (w:World),listed.size=ops.size->listed.getD q false=false->((List.range ops.size).filter λi=>!listed.getD i true).length<=n+1->
   (∀i,(b.getD q 0).testBit i=true->listed.getD i false=true)->(∀i,(b.getD i 0).testBit q=true->i<ops.size->listed.getD i false=false)->
   (∀r,rs[q]?=some r->(∀t∈r.reads,(fY (cq rs) (λi=>listed.getD i false) ops.size s.sig).T t=(ie rs s q).sig.T t)/\∀y∈r.fp,(fY (cq rs) (λi=>listed.getD i false) ops.size s.sig).m y=(ie rs s q).sig.m y)->
   Sim S (fY (cq rs) (λi=>listed.getD i false) ops.size s.sig) a w->wpOpIn S.F 0 S.P ops Q q (wpAnyIn S.F 0 S.P .any ops Q n (listed.setIfInBounds q true)) a w):
  ∀(n:Nat) (listed:Array Bool) (a:Act) (w:World),listed.size=ops.size->((List.range ops.size).filter λi=>!listed.getD i true).length<=n->
   (∀i,i<k->i<ops.size->listed.getD i false=true)->(q<ops.size->listed.getD q false=false)->
   (∀i j,i<j->j<ops.size->(b.getD j 0).testBit i=true->listed.getD j false=true->listed.getD i false=true)->
   Sim S (fY (cq rs) (λi=>listed.getD i false) ops.size s.sig) a w->wpAnyIn S.F 0 S.P .any ops Q n listed a w:=by
 obtain⟨A,hind⟩:=Ir hdr z;have get:∀j,j<ops.size->∃r,rs[j]?=some r:=λj O=>⟨_,qB (by rw[z];exact O)⟩;have HO:Orders (cq rs) ops.size (λi j=>(b.getD j 0).testBit i)
   (λj σ=>∀r,rs[j]?=some r->(∀t∈r.reads,σ.T t=(ie rs s j).sig.T t)/\∀y∈r.fp,σ.m y=(ie rs s j).sig.m y)
   (λj σ=>∀r k,rs[j]?=some r->r.new=some k->Unm k σ) s.sig:=by
  refine⟨λi j hij O hna σ=>?_,λi j hij O hna σ=>?_,λi j hij O hna σ=>?_,λi j hi O hne hc σ hu=>?_,λj O=>?_,λj O r k v hk=>(og hnew v hk).1⟩;obtain⟨r,v⟩:=get i Z;obtain⟨q,hq⟩:=get j O;simp only[cq,v,hq];exact(oq (hind i j r q hij v hq hna)).1 σ;obtain⟨r,v⟩:=get i Z;obtain⟨q,hq⟩:=get j O;obtain⟨g1,g2⟩:=(oq (hind i j r q hij v hq hna)).2.1 σ;simp only[cq,v];refine⟨λh r' V=>?_,λh r' V=>?_⟩<;>(have e:r'=q:=wZ (V.symm.trans hq);subst e;obtain⟨h1,h2⟩:=h _ V);exact⟨λt ht=>(g1 t ht).symm.trans (h1 t ht),λy f=>(g2 y f).symm.trans (h2 y f)⟩;exact⟨λt ht=>(g1 t ht).trans (h1 t ht),λy f=>(g2 y f).trans (h2 y f)⟩;obtain⟨r,v⟩:=get i Z;obtain⟨q,hq⟩:=get j O;obtain⟨g1,g2⟩:=(oq (hind i j r q hij v hq hna)).2.2 σ;simp only[cq,hq];refine⟨λh r' V=>?_,λh r' V=>?_⟩<;>(have e:r'=r:=wZ (V.symm.trans v);subst e;obtain⟨h1,h2⟩:=h _ V);exact⟨λt ht=>(g1 t ht).symm.trans (h1 t ht),λy f=>(g2 y f).symm.trans (h2 y f)⟩;exact⟨λt ht=>(g1 t ht).trans (h1 t ht),λy f=>(g2 y f).trans (h2 y f)⟩;obtain⟨q,hq⟩:=get i hi;intro r k v hk;simp only[cq,hq];refine sr ((og hnew v hk).2 i q hq hne ?_) (hu r k v hk);rcases hc with hc|hc;exact .inl hc;exact .inr ⟨rfl,hc⟩;intro r v;rw[nV hok j (by rw[z];omega)];exact⟨λ_ _=>rfl,λ_ _=>rfl⟩
 have below:∀q,q<ops.size->∀i,(b.getD q 0).testBit i=true->i<q:=by
  intro q;induction q using Nat.strongRecOn with
  |_ q ihq=>
   intro hq i hb;have hoq:=yB hq;obtain⟨e,he,heb,hc⟩:=(A q _ hoq).2 i hb;have hlt:=(A q _ hoq).1 e he heb;rcases hc with rfl|hc;exact hlt;have:=ihq e.on hlt Z i hc;omega
 have L:∀(listed:Array Bool) (a:Act) (w:World),listed.size=ops.size->Region.ready .any ops listed=[]->(q<ops.size->listed.getD q false=false)->
   Sim S (fY (cq rs) (λi=>listed.getD i false) ops.size s.sig) a w->Q .normal a w:=by
  intro listed a w u hrd X h;have hall:∀j,j<ops.size->listed.getD j false=true:=by
   intro j;induction j using Nat.strongRecOn with
   |_ j ih=>
    intro O;cases hd:listed.getD j false with
    |true=>rfl|false=>
     exfalso;have ho:=yB O;have hmem:j∈Region.ready .any ops listed:=by
      unfold Region.ready;simp only[yI,qW,qC,ho,zY,qK];refine⟨O,?_,?_⟩;have:listed.getD j true=listed.getD j false:=by simp[Array.getD,u,O]
      rw[this,hd];rfl;rw[qAq];intro e he;cases hb:Region.binds .any e with
      |false=>rfl|true=>
       have hlt:=(A j _ ho).1 e he hb;rw[ih e.on hlt Z];rfl
     rw[hrd]at hmem;cases hmem
  have hqs:ops.size<=q:=by
   rcases zT q ops.size with g|g;have:=X g;rw[hall q g]at this;cases this;exact g
  refine hQ hqs a w ?_;rw[z,<- nV hok ops.size (by rw[z];exact qM _),nU (cq rs) (d:=Ww) (d':=λi=>listed.getD i false) ops.size s.sig (λi hi=>(hall i hi).symm)];exact h
 intro n;induction n with
 |zero=>
  intro listed a w u hcnt _ X hdc h;have hrd:Region.ready .any ops listed=[]:=by
   have:((List.range ops.size).filter λi=>!listed.getD i true)=[]:=vY Z;unfold Region.ready;rw[qBd]at this ⊢;intro i hi;have:=this i hi;simp only[qC,not_and];intro h1;exact(this h1).elim
  exact⟨hrd,L listed a w u hrd X h⟩
 |succ n ih=>
  intro listed a w u hcnt hk X hdc h;refine⟨λhrd=>L listed a w u hrd X h,λj O=>?_⟩;obtain⟨hjun,o,ho,hpre⟩:=mem_ready.1 O;have x:j<ops.size:=(vV.1 ho).1;obtain⟨r,v⟩:=get j x;have hjf:listed.getD j false=false:=by
   have:listed.getD j true=listed.getD j false:=by simp[Array.getD,u,x]
   rw[<- this];exact hjun
  have hp:∀i,i<j->(b.getD j 0).testBit i=true->listed.getD i false=true:=by
   intro i hij hb;obtain⟨e,he,heb,hc⟩:=(A j o ho).2 i hb;have hel:=hpre e he heb;rcases hc with rfl|hc;exact hel;have hlt:=(A j o ho).1 e he heb;exact hdc i e.on (below e.on Z i hc) Z hc hel
  obtain⟨g1,g2,g3⟩:=Ik HO (done:=λi=>listed.getD i false) hdc x hjf hp;by_cases hjq:j=q;subst hjq;exact spec x n listed a w u hjf hcnt (λi hb=>hp i (below j x i hb) hb) (λi hb hi=>by
   cases hl:listed.getD i false with
   |false=>rfl|true=>have:=hdc j i (below i hi j hb) hi hb hl;rw[hjf]at this;cases this) g1 h
  have hlive:Live b k q j:=by
   refine⟨?_,hjq,?_⟩;rcases zT j k with g|g;have:=hk j g x;rw[hjf]at this;cases this;exact g;cases hb:(b.getD j 0).testBit q with
   |false=>rfl|true=>
    have hlt:=below j x q hb;have:=hp q hlt hb;rw[X Z]at this;cases this
  obtain⟨g4,g5⟩:=g1 r v;obtain⟨l1,l2,l3⟩:=hat j o r ho v hlive;have hst:=v8 l1 g4 g5;have hstep:wpOpIn S.F 0 S.P ops Q j (λa' w'=>Sim S (cq rs j (fY (cq rs) (λi=>listed.getD i false) ops.size s.sig)) a' w') a w:=by
   have:=qb (Q:=Q) hK ho h l2 hst l3 (λk hk=>g2 r k v hk);simp only[cq,v];exact this
  have eset:∀i,(listed.setIfInBounds j true).getD i false=if i=j then true else listed.getD i false:=by
   intro i;simp only[qV,zW];by_cases e:j=i;subst e;simp[u,x];rw[if_neg e,if_neg (λh=>e h.symm)]
  refine wpOpIn_mono (λa' w' h'=>ih (listed.setIfInBounds j true) a' w' (by simpa using u) ?_ ?_ ?_ ?_ ?_) hstep;have:=Nq u x hjun;omega;intro i hi hil;rw[eset];split;rfl;exact hk i hi hil;intro hqs;rw[eset,if_neg (λe=>hjq e.symm)];exact X hqs;intro i p hip hp2 hb hlp;rw[eset]at hlp ⊢;split;rfl;split at hlp;rename_i e1;subst e1;exact hp i hip hb;exact hdc i p hip hp2 hb hlp;rw[show(λi=>(listed.setIfInBounds j true).getD i false)=λi=>if i=j then true else listed.getD i false from funext eset,g3];exact h'
end
end Go.Eng
namespace Go.Eng
open Go.RowKit
def pH(m:Mem)(nm:Nat):Bool:=m.any λp=>match p.2 with|.mat _ _ _ _ ov=>(zA2 (ov.map (·.2))).contains nm|_=>false
def gone(m m':Mem)(nm:Nat):Option Blk:=if pH m nm then none else match m'.lookup nm with|some _=>none|none=>m.lookup nm
def iz{m m':Mem}{e:Nat}{b:Blk}(h:gone m m' e=some b):m.lookup e=some b/\m'.lookup e=none/\pH m e=false:=by
 unfold gone at h;split at h;cases h;rename_i g;split at h;cases h;rename_i f;exact⟨h,f,kD.2 g⟩
def PO(m m':Mem)(nm n:Nat)(t:Ty):Option (List Prop×List t.den):=
 match gone m m' nm with
  |some (.buf _ t' xs [])=>if h:t'=t then some ([xs.length=n],h▸xs)else none|some (.buf _ (.sl e) xs [(i,.buf nm2 n2)])=>match gone m m' nm2 with
    |some (.buf _ e' zs [])=>if h:e'=e then if h2:Ty.sl e=t then some ([xs.length=n,zs.length=n2],h2▸Em (α:=List e.den) xs i (h▸zs))else none else none|_=>none
  |some (.mat _ _ e xss [])=>if h:Ty.sl e=t then some ([xss.length=n],h▸xss)else none|_=>none
mutual
def leA(m m':Mem):AV->AV->Option (List Prop)
 |a,b=>match b with
  |.top=>some []|b=>match a,b with
   |.dat t x,.dat t' y=>if h:t=t' then some [h▸x=y]else none|.val v,.dat t y=>match v,t,y with
    |.slice none 0 0,.sl _,y=>some [y=[]]|_,_,_=>none
   |.val v,.buf nm n=>match v,m.lookup nm,m'.lookup nm with
    |.slice none 0 0,none,some (.buf _ _ ys [])=>some [n=0,ys=[]]|_,_,_=>none
   |.val v,.val v'=>some [v=v']|.buf nm n,.buf nm' n'=>if nm=nm' then match m.lookup nm with|some _=>some [n=n']|none=>none else none
   |.buf nm n,.dat t y=>match t,y with
    |.sl t,y=>match PO m m' nm n t with|some (ns,xs)=>some (ns++[xs=y])|none=>none
    |_,_=>none
   |.ptr nm g i c,.ptr nm' g' i' c'=>if nm=nm' then match m.lookup nm with|some _=>some [g=g',i=i',c=c']|none=>none else none
   |.ptr nm g i c,.ip t y=>match gone m m' nm with
    |some (.var cs)=>match cU t (cs.drop c)with
     |some (x,_)=>some [1=g,i=0,x=y]|none=>none
    |_=>none
   |.ip t x,.ip t' y=>if h:t=t' then some [h▸x=y]else none|.agg cs,.agg cs'=>leL m m' cs cs'|.tup cs,.tup cs'=>leL m m' cs cs'|.fn f cs,.fn f' cs'=>if f=f' then leL m m' cs cs' else none|.clo1 a r p g,.clo1 a' r' p' g'=>some [AV.clo1 a r p g=AV.clo1 a' r' p' g']|.clo2 a b r p g,.clo2 a' b' r' p' g'=>some [AV.clo2 a b r p g=AV.clo2 a' b' r' p' g']|.ifc t a,.ifc t' b=>if t=t' then leA m m' a b else none|.grd g a,b=>match leA m m' a b with|some ns=>some ((g=true)::ns)|none=>none
   |.ptr nm g i c,.ipv b=>match gone m m' nm with
    |some (.var cs)=>match cs.drop c with
     |x::_=>if nameless x then some [1=g,i=0,x=b]else none|[]=>none
    |_=>none
   |.ptr nm g i 0,.ia t y=>match gone m m' nm with
    |some (.buf _ t' xs [])=>if h:t'=t then some [xs.length=g,i=0,h▸xs=y]else none|_=>none
   |.ipv a,.ipv b=>leA m m' a b|.ips cs,.ips cs'=>leL m m' cs cs'|.slv cs,.slv cs'=>leL m m' cs cs'|.ia t x,.ia t' y=>if h:t=t' then some [h▸x=y]else none|.yld l,.yld l'=>some [l=l']|.av t x,.av t' y=>if h:t=t' then some [h▸x=y]else none|.pin u a,.pin u' b=>match leA m m' a b with|some ns=>some ((u=u')::ns)|none=>none
   |_,_=>none
def leL(m m':Mem):List AV->List AV->Option (List Prop)
 |[],[]=>some []|a::aa,b::bs=>match leA m m' a b,leL m m' aa bs with
  |some p,some q=>some (p++q)|_,_=>none
 |_,_=>none
end
def aDT(m m':Mem)(t:Ty)(xs ys:List t.den)(i:Nat)(v:AV):Option (List Prop):=
 match t,xs,ys,v with
 |.sl e,xs,ys,.buf nm2 n2=>match PO m m' nm2 n2 e with
  |some (ns,zs)=>some (ns++[Em (α:=List e.den) xs i zs=ys])|none=>none
 |_,_,_,_=>none
def Oi(m m':Mem)(eli:TypeId)(e:Ty)(xs ys:List (List e.den))(i:Nat):AV->Option (List Prop)
 |.buf nm2 n2=>match m'.lookup nm2,m.lookup nm2 with
  |none,some (.buf el2 e2 zs [])=>if el2=eli then if h:e2=e then some [zs.length=n2,Em (α:=List e.den) xs i (h▸zs)=ys]else none else none|_,_=>none
 |_=>none
def Y0(e:Ty)(t:Ty)(xs:List t.den)(ys:List (List e.den)):Option (List Prop):=
 if h:t=.sl e then if e.sz=1 then some [(h▸xs:List (Ty.den (.sl e)))=ys,Fb ys]else none else none
def leB(m m':Mem):Blk->Blk->Option (List Prop)
 |.var cs,.var cs'=>leL m m' cs cs'|.buf el t xs ov,.buf el' t' ys ov'=>if el=el' then if h:t=t' then match ov,ov' with
   |[],[]=>some [h▸xs=ys]|[(i,v)],[(i',v')]=>match leA m m' v v' with
    |some ns=>some ([h▸xs=ys,i=i']++ns)|none=>none
   |[(i,v)],[]=>aDT m m' t' (h▸xs) ys i v|_,_=>none
  else none else none
 |.buf el t xs [],.mat el' _ e ys []=>if el=el' then Y0 e t xs ys else none|.mat el eli e xs ov,.mat el' eli' e' ys ov'=>if el=el'/\eli=eli' then if h:e=e' then match ov,ov' with
   |[],[]=>some [h▸xs=ys]|[(i,v)],[(i',v')]=>match leA m m' v v' with
    |some ns=>some ([h▸xs=ys,i=i']++ns)|none=>none
   |[(i,v)],[]=>Oi m m' eli e' (h▸xs) ys i v|_,_=>none
  else none else none
 |_,_=>none
def leM(m m':Mem):Mem->Option (List Prop)
 |[]=>some []|(nm,b')::r=>match(match m.lookup nm with
     |some b=>leB m m' b b'|none=>match b' with
      |.buf _ _ ys []=>some [ys=[]]|_=>none),leM m m' r with
  |some p,some q=>some (p++q)|_,_=>none
def BP:Mem->List Nat|[]=>[]|(nm,.mat _ _ _ _ (_::_))::r=>nm::BP r|_::r=>BP r
def WM(s s':St):Option (List Prop):=
 if s.tm.length=s'.tm.length/\(BP s.mem).length<=1 then match leL s.mem s'.mem s.tm s'.tm,leM s.mem s'.mem s'.mem,leL s.mem s'.mem s.sv s'.sv with|some p,some q,some r=>some (p++q++r)|_,_,_=>none
 else none
section
variable {S:Base}{s s':St}{a:Act}{w:World}{D:Nat->Prop}{E:Nat->Ent}
def aAg(m m':Mem)(D:Nat->Prop)(E:Nat->Ent)(b:Nat):Prop:=D b\/(∃nm blk,m.lookup nm=some blk/\m'.lookup nm=none/\pH m nm=false/\(E nm).isNil=false/\b=(E nm).b)\/∃nm i,m'.lookup nm=none/\cB (λk=>m.lookup k) E nm i b
def aC5(E:Nat->Ent)(nm:Nat):Blk->Nat->Nat×Nat|.mat _ _ _ _ [(i,.buf nm2 _)]=>λk=>if k=i then((E nm2).b,(E nm2).cap)else(E nm).rb k|_=>(E nm).rb
def AB(m:Mem)(E:Nat->Ent)(nm:Nat):Ent:=match m.lookup nm with|some b=>⟨(E nm).b,(E nm).cap,(E nm).isNil,aC5 E nm b⟩|none=>⟨0,0,true,noR⟩
def Jv{m:Mem}{E:Nat->Ent}{e:Nat}{b:Blk}(h:m.lookup e=some b):AB m E e=⟨(E e).b,(E e).cap,(E e).isNil,aC5 E e b⟩:=by unfold AB;rw[h]
def zu{m:Mem}{E:Nat->Ent}{e:Nat}{b:Blk}(h:m.lookup e=some b)(n:Nat):(AB m E e).handle n=(E e).handle n:=by rw[Jv h];rfl
def Rf(s:St)(w:World)(D:Nat->Prop)(E:Nat->Ent):Ctx:=⟨w,D,s.sig.m,E⟩
def ctx1(s s':St)(w:World)(D:Nat->Prop)(E:Nat->Ent):Ctx:=⟨w,aAg s.mem s'.mem D E,s'.sig.m,AB s.mem E⟩
def kA(h:aQ S s.sig a w D E){e:Nat}{el:TypeId}{t:Ty}{xs:List t.den}{ov:List (Nat×AV)}(hm:s.mem.lookup e=some (.buf el t xs ov)):
  ∃raw,ct S.P (Rf s w D E) t xs ov raw/\raw.length=xs.length*t.sz/\
   (((E e).isNil=true/\xs=[]/\(E e).handle xs.length=.slice none 0 0)\/
    ((E e).isNil=false/\(E e).handle xs.length=.slice (some ⟨(E e).b,0,none⟩) xs.length (E e).cap/\xs.length<=(E e).cap/\cX w (E e).b 0 raw)):=by
 obtain⟨raw,i,A⟩:=h.bl e _ hm;refine⟨raw,A,i.1,?_⟩;cases f:(E e).isNil with
 |true=>
  have v:(E e).handle xs.length=.slice none 0 0:=by unfold Ent.handle;rw[f];rfl
  rw[v]at i;rcases i.2 with⟨_,G⟩|⟨g,cap,y,r,_⟩;exact .inl ⟨rfl,vY G,v⟩;cases r
 |false=>
  have v:(E e).handle xs.length=.slice (some ⟨(E e).b,0,none⟩) xs.length (E e).cap:=by unfold Ent.handle;rw[f];rfl
  rw[v]at i;refine .inr ⟨rfl,v,?_,λj u z=>?_⟩;rcases i.2 with⟨r,_⟩|⟨g,cap,y,r,_,_,L,_⟩;cases r;simp only[yF,yD]at r;omega;have x:j<xs.length*t.sz:=by rw[<- i.1];exact(qG.1 z).1
  show w.cell? ⟨(E e).b,0+j,none⟩=some u;rw[zQ,i.cellAt j x];exact z
def cn{m m':Mem}:∀b,D b->aAg m m' D E b:=λ_ h=>.inl h
def nM(h:aQ S s.sig a w D E){r:Nat}{el:TypeId}{t:Ty}{xs:List t.den}(T:gone s.mem s'.mem r=some (.buf el t xs [])):
  ag w (aAg s.mem s'.mem D E) (.sl t) xs [(E r).handle xs.length]:=by
 obtain⟨hm,v,V⟩:=iz T;obtain⟨raw,L,r2,G⟩:=kA h hm;rcases G with⟨_,rfl,e⟩|⟨f,e,x,X⟩;rw[e];exact bw _ _ _;rw[e];refine⟨_,_,rfl,x,(λh=>by cases h),(λad z _=>by cases z;rfl),λi y O=>?_⟩;have A:=L i y O;simp only[List.lookup]at A;refine⟨_,_,rfl,.inr (.inl ⟨r,_,hm,v,V,f,rfl⟩),?_,ax cn (λ_ _=>rfl) A⟩;intro j u g;rw[vX]at g;split at g;rw[vM]at g;have:=X (i*t.sz+j) u g;show w.cell? ⟨(E r).b,0+i*t.sz+j,none⟩=some u;rw[zQ]at this ⊢;exact this;cases g
def IE(h:aQ S s.sig a w D E){e:Nat}{el X:TypeId}{t:Ty}{xss:List (List t.den)}(hg:gone s.mem s'.mem e=some (.mat el X t xss [])):
  ag w (aAg s.mem s'.mem D E) (.sl (.sl t)) xss [(E e).handle xss.length]:=by
 obtain⟨hm,T,hf⟩:=iz hg;obtain⟨h0,raw,O,r2⟩:=h.bl e _ hm;cases f:(E e).isNil with
 |true=>
  have e3:(E e).handle xss.length=.slice none 0 0:=by unfold Ent.handle;rw[f];rfl
  rw[e3]at O ⊢;rcases O.2 with⟨_,x⟩|⟨g,cap,cur,r,_⟩;have:xss=[]:=vY x;subst this;exact bw _ _ _;cases r
 |false=>
  have e3:(E e).handle xss.length=.slice (some ⟨(E e).b,0,none⟩) xss.length (E e).cap:=by unfold Ent.handle;rw[f];rfl
  rw[e3]at O ⊢;have G:xss.length<=(E e).cap:=by
   rcases O.2 with⟨r,_⟩|⟨g,cap,cur,r,_,_,G,_⟩;cases r;simp only[yF,yD]at r;omega
  refine⟨_,_,rfl,G,(λh=>by cases h),(λad L _=>by cases L;rfl),λi row hi=>?_⟩;obtain⟨u,g1,g2⟩:=r2 i row hi;simp only[List.lookup]at g2;obtain⟨ao,cap,q2,k1,k0,k2⟩:=g2;refine⟨_,[u],rfl,.inr (.inl ⟨e,_,hm,T,hf,f,rfl⟩),?_,?_⟩;intro j v hj;cases j with
  |succ j=>simp at hj|zero=>
   simp at hj;subst hj;have A:i<xss.length*1:=by have:=(qG.1 hi).1;omega
   show w.cell? ⟨(E e).b,0+i*1+0,none⟩=some u;rw[zQ,xG,xZ,O.cellAt i A];exact g1
  by_cases hp:0<row.length;obtain⟨p1,p2,p3⟩:=k2 hp;subst k1 p1;have V:row.length<=cap:=by
   rcases p2.2 with⟨r,_⟩|⟨g,cap',cur,r,_,_,G,_⟩;cases r;simp only[yF,yD]at r;omega
  refine⟨_,_,rfl,V,(λh=>by cases h),(λad L _=>by cases L;rfl),λj y hy=>?_⟩;have hr:=p3 j y hy;simp only[List.lookup]at hr;refine⟨_,_,rfl,.inr (.inr ⟨e,i,T,el,X,t,xss,[],row,hm,rfl,hi,hp,rfl⟩),?_,ax cn (λ_ _=>rfl) hr⟩;intro z v x;rw[vX]at x;split at x;rename_i hz1;rw[vM]at x;have hj:=(qG.1 hy).1;have A:j*t.sz+z<row.length*1:=by rw[h0]at hz1 ⊢;omega
  show w.cell? ⟨((E e).rb i).1,0+j*t.sz+z,none⟩=some v;rw[zQ,p2.cellAt _ A];exact x;cases x;have:row=[]:=vY Z;subst this k1;exact⟨ao,cap,rfl,wU _,k0,λ_ _ h=>absurd h (xY _),λj y hy=>by cases hy⟩
def Ek(h:aQ S s.sig a w D E){V n:Nat}{t:Ty}{ns:List Prop}{xs:List t.den}{v:Value}(g:PO s.mem s'.mem V n t=some (ns,xs))(hn:∀q∈ns,q)
  (hv:(AV.buf V n).rel S.P (Rf s w D E) v):ag w (aAg s.mem s'.mem D E) (.sl t) xs [v]:=by
 unfold PO at g;split at g;rename_i el t' r z;obtain⟨hm,O,hf⟩:=iz z;split at g;rename_i X;subst X;cases g;have f:r.length=n:=hn _ (by simp);have G:=(hv _ hm).2 f;rw[<- f]at G;rw[G];exact nM h z;cases g;rename_i el e r i nm2 n2 z;obtain⟨hm,O,hf⟩:=iz z;split at g;case h_2=>cases g
 rename_i el2 e' zs L;obtain⟨hm2,hno2,hf2⟩:=iz L;split at g;case isFalse=>cases g
 rename_i he;subst he;split at g;case isFalse=>cases g
 rename_i X;subst X;cases g;have f:r.length=n:=hn _ (by simp);have A:zs.length=n2:=hn _ (by simp);have G:=(hv _ hm).2 f;rw[<- f]at G;obtain⟨raw,r1,r2,r3⟩:=kA h hm;simp only[Ty.sz,xG]at r2;rcases r3 with⟨_,T,e⟩|⟨hnil,e,hle,g⟩;have:r=[]:=T;subst this;have e1:v=.slice none 0 0:=G.trans e;rw[e1];exact bw _ _ _;have e1:=G.trans e;rw[e1];refine⟨_,_,by rw[Em,yJ],by rw[Em,yJ];exact hle,(λh=>by cases h),(λad had _=>by cases had;rfl),λk y hy=>?_⟩;have x:(List.set r i zs)[k]?=some y:=hy;have hk:k<r.length:=by have:=(qG.1 x).1;rwa [yJ]at this
 have T:=r1 k _ (qB hk);refine⟨⟨(E V).b,0,none⟩,(raw.drop (k*1)).take 1,rfl,.inr (.inl ⟨V,_,hm,O,hf,hnil,rfl⟩),?_,?_⟩;intro j u hj;rw[vX]at hj;split at hj;rename_i hj1;rw[vM]at hj;have:=g (k*1+j) u hj;show w.cell? ⟨(E V).b,0+k*1+j,none⟩=some u;rw[zQ]at this ⊢;exact this;cases hj;rw[yK]at x;split at x;rename_i eik;subst eik;rw[if_pos hk]at x;cases x;simp only[List.lookup,xE]at T;obtain⟨_,u,hu,_,hur⟩:=T;have e4:(raw.drop (i*1)).take 1=[u]:=by
  rw[xG];apply xM;intro q;rw[vX];cases q with
  |zero=>simp[hu]|succ q=>simp
 rw[e4,(hur _ hm2).2 A,<- A];exact nM h L;rename_i hne;have hb:(k==i)=false:=by simpa using λe=>hne e.symm
 simp only[List.lookup,hb]at T;have:y=r[k]:=by rw[qB hk]at x;exact(wZ x).symm
 rw[this];exact ax cn (λ_ _=>rfl) T;rename_i el eli e xss z;obtain⟨hm,O,hf⟩:=iz z;split at g;case isFalse=>cases g
 rename_i X;subst X;cases g;have f:xss.length=n:=hn _ (by simp);have G:=(hv _ hm).2 f;rw[<- f]at G;rw[G];exact IE h z;cases g
def VA{t t':Ty}{x:t.den}{y:t'.den}{w:World}{D:Nat->Prop}{us:Lv}(h:t=t')(e:h▸x=y)(b:ag w D t x us):ag w D t' y us:=by
 subst h;simp only at e;subst e;exact b
def Names(m m':Mem):Prop:=∀nm b b',m.lookup nm=some b->m'.lookup nm=some b'->b.len=b'.len/\b.es=b'.es
mutual
def ny(h:aQ S s.sig a w D E)(V:Names s.mem s'.mem):∀{x y:AV}{ns:List Prop}{v:Value},leA s.mem s'.mem x y=some ns->(∀q∈ns,q)->x.rel S.P (Rf s w D E) v->y.rel S.P (ctx1 s s' w D E) v
 |x,y,ns,v,f,z,A=>by
  unfold leA at f;split at f;trivial;rename_i hnt;split at f
  ·
   split at f;rename_i ht;cases f;exact ax cn (λ_ _=>rfl) (VA ht (z _ (by simp)) A);cases f
  ·
   split at f;rename_i e0 y0;cases f;have hy:y0=[]:=z _ (vI.2 rfl);simp only[AV.rel]at A;subst A hy;exact bw _ _ _;cases f
  ·
   rename_i u r n;split at f;rename_i el ty ys L hm';cases f;have h1:n=0:=z _ (by simp);have h2:ys=[]:=z _ (by simp);simp only[AV.rel]at A;subst A;intro b hb;have e:b=.buf el ty ys []:=wZ (hb.symm.trans hm');subst e h1 h2;refine⟨qM _,λ_=>?_⟩;show _=(AB s.mem E r).handle 0;unfold AB;rw[L];rfl;cases f
  cases f;have e:_=_:=z _ (vI.2 rfl);simp only[AV.rel]at A ⊢;rw[A];exact e
  ·
   rename_i r n nm' n';split at f;case isFalse=>cases f
   rename_i e;subst e;split at f;case h_2=>cases f
   rename_i X hm;cases f;have e2:n=n':=z _ (by simp);subst e2;intro b' hb';obtain⟨l1,l2⟩:=V r X b' hm hb';obtain⟨g1,g2⟩:=A X hm;refine⟨Z,λe=>?_⟩;show v=(AB s.mem E r).handle n;rw[zu hm];exact g2 Z
  ·
   rename_i r n t y;split at f;rename_i t y;split at f;rename_i ns' xs hd;cases f;have e:xs=y:=z _ (by simp);subst e;exact Ek h hd (λq hq=>z q (by simp[hq])) A;cases f;cases f
  ·
   rename_i r g i c nm' g' i' c';split at f;case isFalse=>cases f
   rename_i e;subst e;split at f;case h_2=>cases f
   rename_i X hm;cases f;have e1:g=g':=z _ (by simp);have e2:i=i':=z _ (by simp);have e3:c=c':=z _ (by simp);subst e1 e2 e3;intro b' hb';obtain⟨l1,l2⟩:=V r X b' hm hb';obtain⟨g1,g2⟩:=A X hm;refine⟨Z,λe=>?_⟩;obtain⟨q1,q2,q3⟩:=g2 Z;have G:(E r).isNil=false:=q2;refine⟨q1,?_,?_⟩;show(AB s.mem E r).isNil=false;rw[Jv hm];exact G;show v=.pointer (some ⟨(AB s.mem E r).b,_,none⟩);rw[Jv hm,<- l2];exact q3
  ·
   rename_i r g i c t y;split at f;case h_2=>cases f
   rename_i cs O;obtain⟨hm,L,hf⟩:=iz O;split at f;case h_2=>cases f
   rename_i x rest hof;cases f;have e1:1=g:=z _ (by simp);have e2:i=0:=z _ (by simp);have e3:x=y:=z _ (by simp);subst e2 e3;obtain⟨_,q2,q3⟩:=(A _ hm).2 e1;have G:(E r).isNil=false:=q2;obtain⟨_,us,el,r1,r2⟩:=h.bl r _ hm;have hd:=zB2 r2 c;obtain⟨u1,u2,e,p1,p2⟩:=cH hof hd;have T:v=.pointer (some ⟨(E r).b,c,none⟩):=by
    have:(Blk.var cs).es*0=0:=Nat.mul_zero _;rw[q3];show Value.pointer (some ⟨(E r).b,0*_+c,none⟩)=_;rw[xX,zQ]
   refine⟨(E r).b,c,u1,T,.inr (.inl ⟨r,_,hm,L,hf,G,rfl⟩),?_,ax cn (λ_ _=>rfl) p1⟩;intro j u hj;have r1':w.heap[(E r).b]?=some (.cells us el (0,0)):=r1;show w.cell? ⟨(E r).b,c+j,none⟩=some u;rw[qDx w _ _ us el (0,0) r1'];have:(us.toList.drop c)[j]?=some u:=by rw[e,vS (qG.1 hj).1];exact hj
   rw[vM]at this;simpa using this
  split at f;rename_i ht;cases f;obtain⟨b,off,us,g1,g2,g3,g4⟩:=A;exact⟨b,off,us,g1,.inl g2,g3,ax cn (λ_ _=>rfl) (VA ht (z _ (by simp)) g4)⟩;cases f;obtain⟨us,e,g⟩:=A;exact⟨us,e,nw h V f z g⟩;obtain⟨us,e,g⟩:=A;exact⟨us,e,nw h V f z g⟩;split at f;rename_i ef;subst ef;obtain⟨us,e,g⟩:=A;exact⟨us,e,nw h V f z g⟩;cases f;cases f;have e:=z _ (vI.2 rfl);rw[<- e];exact zA5 (C:=Rf s w D E) (C':=ctx1 s s' w D E) ⟨cn,λ_ _=>rfl⟩ (λr hm=>by simp[AV.names]at hm) A;cases f;have e:=z _ (vI.2 rfl);rw[<- e];exact zA5 (C:=Rf s w D E) (C':=ctx1 s s' w D E) ⟨cn,λ_ _=>rfl⟩ (λr hm=>by simp[AV.names]at hm) A;split at f;rename_i et;subst et;obtain⟨u,e,g⟩:=A;exact⟨u,e,ny h V f z g⟩;cases f;rename_i g x';split at f;rename_i ns' hns;cases f;have hg:g=true:=z _ (by simp);exact ny h V hns (λq hq=>z q (by simp[hq])) (A.1 hg);cases f
  ·
   rename_i r g i c b';split at f;case h_2=>cases f
   rename_i cs O;obtain⟨hm,L,hf⟩:=iz O;split at f;case h_2=>cases f
   rename_i x rest hdr;split at f;case isFalse=>cases f
   rename_i hnl;cases f;have e1:1=g:=z _ (by simp);have e2:i=0:=z _ (by simp);have e3:x=b':=z _ (by simp);subst e2 e3;obtain⟨_,q2,q3⟩:=(A _ hm).2 e1;have G:(E r).isNil=false:=q2;obtain⟨_,us,el,r1,r2⟩:=h.bl r _ hm;have hd:=zB2 r2 c;rw[hdr]at hd;obtain⟨u,us',e,p1,p2⟩:=hd;have T:v=.pointer (some ⟨(E r).b,c,none⟩):=by
    rw[q3];show Value.pointer (some ⟨(E r).b,0*_+c,none⟩)=_;rw[xX,zQ]
   refine⟨(E r).b,c,u,T,.inr (.inl ⟨r,_,hm,L,hf,G,rfl⟩),?_,tI (C:=Rf s w D E) (C':=ctx1 s s' w D E) hnl ⟨cn,λ_ _=>rfl⟩ p1⟩;have r1':w.heap[(E r).b]?=some (.cells us el (0,0)):=r1;show w.cell? ⟨(E r).b,c,none⟩=some u;rw[qDx w _ _ us el (0,0) r1'];have:(us.toList.drop c)[0]?=some u:=by rw[e];rfl
   rw[vM]at this;simpa using this
  ·
   rename_i r g i t y;split at f;case h_2=>cases f
   rename_i el t' xs O;obtain⟨hm,L,hf⟩:=iz O;split at f;case isFalse=>cases f
   rename_i ht;subst ht;cases f;have e1:xs.length=g:=z _ (by simp);have e2:i=0:=z _ (by simp);have e3:xs=y:=z _ (by simp);subst e2 e3;obtain⟨_,q2,q3⟩:=(A _ hm).2 e1;have G:(E r).isNil=false:=q2;have hp:=nM (s':=s') h O;have e4:(E r).handle xs.length=.slice (some ⟨(E r).b,0,none⟩) xs.length (E r).cap:=by unfold Ent.handle;rw[G];rfl
   rw[e4]at hp;have T:v=.pointer (some ⟨(E r).b,0,none⟩):=by
    rw[q3];show Value.pointer (some ⟨(E r).b,0*_+0,none⟩)=_;rw[xX]
   exact⟨(E r).b,0,T,Ia hp _ (qM _)⟩
  obtain⟨b,off,u,g1,g2,g3,g4⟩:=A;exact⟨b,off,u,g1,.inl g2,g3,ny h V f z g4⟩;obtain⟨b,off,us,g1,g2,g3,g4⟩:=A;exact⟨b,off,us,g1,.inl g2,g3,nw h V f z g4⟩;obtain⟨b,off,us,g1,g2,g3,g4⟩:=A;have g5:=nw h V f z g4;have el:=(zA3 g4).trans (zA3 g5).symm;exact⟨b,off,us,by rw[g1,el],.inl g2,g3,g5⟩;split at f;rename_i ht;cases f;subst ht;have e:=z _ (vI.2 rfl);simp only at e;subst e;obtain⟨b,off,g1,g2⟩:=A;exact⟨b,off,g1,ax cn (λ_ _=>rfl) g2⟩;cases f;cases f;have e:=z _ (vI.2 rfl);subst e;exact A;split at f;rename_i ht;cases f;subst ht;have e:=z _ (vI.2 rfl);simp only at e;subst e;obtain⟨us,g1,g2,g3⟩:=A;exact⟨us,g1,g2,λi y hy=>ax cn (λ_ _=>rfl) (g3 i y hy)⟩;cases f;split at f;rename_i ns' hns;cases f;exact⟨A.1.trans (z _ (by simp)),ny h V hns (λq hq=>z q (by simp[hq])) A.2⟩;cases f;cases f
def nw(h:aQ S s.sig a w D E)(r:Names s.mem s'.mem):∀{xs ys:List AV}{ns:List Prop}{vs:Lv},leL s.mem s'.mem xs ys=some ns->(∀q∈ns,q)->zA1 S.P (Rf s w D E) xs vs->zA1 S.P (ctx1 s s' w D E) ys vs
 |[],[],ns,vs,b,g,f=>f|x::xs,y::ys,ns,vs,b,g,f=>by
  simp only[leL]at b;split at b;rename_i p q A u;cases b;obtain⟨v,i,e,g1,g2⟩:=f;exact⟨v,i,e,ny h r A (λz j=>g z (qJ.2 (.inl j))) g1,nw h r u (λz j=>g z (qJ.2 (.inr j))) g2⟩;cases b
 |[],_::_,ns,vs,b,g,f=>by simp[leL]at b|_::_,[],ns,vs,b,g,f=>by simp[leL]at b
end
end
end Go.Eng
namespace Go.Eng
open Go.RowKit
def BZ{m m':Mem}:∀{xs ys:List AV}{ns:List Prop},leL m m' xs ys=some ns->xs.length=ys.length
 |[],[],_,_=>rfl|x::xs,y::ys,ns,h=>by
  simp only[leL]at h;split at h;rename_i p q e b;simp[BZ b];cases h
 |[],_::_,_,h=>by simp[leL]at h|_::_,[],_,h=>by simp[leL]at h
def xS{m m':Mem}:∀{xs ys:List AV}{ns:List Prop}{i:Nat}{y:AV},leL m m' xs ys=some ns->ys[i]?=some y->∃x p,xs[i]?=some x/\leA m m' x y=some p/\∀q∈p,q∈ns
 |[],[],_,i,y,_,h=>by simp at h|x::xs,y::ys,ns,i,z,h,hi=>by
  simp only[leL]at h;split at h;rename_i p q j g;cases h;cases i with
  |zero=>simp at hi;subst hi;exact⟨x,p,rfl,j,λz b=>qJ.2 (.inl b)⟩|succ i=>
   simp at hi;obtain⟨e,f,g1,g2,g3⟩:=xS g hi;exact⟨e,f,by simpa using g1,g2,λz b=>qJ.2 (.inr (g3 z b))⟩
  cases h
 |[],_::_,_,_,_,h,_=>by simp[leL]at h|_::_,[],_,_,_,h,_=>by simp[leL]at h
def aCP{m m':Mem}{b i:Blk}{ns:List Prop}(h:leB m m' b i=some ns)(f:∀q∈ns,q):b.len=i.len/\b.es=i.es:=by
 unfold leB at h;split at h;exact⟨rfl,BZ h⟩;split at h;case isFalse=>cases h
 split at h;case isFalse=>cases h
 rename_i g;subst g;split at h;cases h;have e:=f _ (vI.2 rfl);simp only at e;subst e;exact⟨rfl,rfl⟩;split at h;cases h;have e:=f _ (wF);simp only at e;subst e;exact⟨rfl,rfl⟩;cases h;unfold aDT at h;split at h;split at h;cases h;have e:=f _ (qJ.2 (.inr (vI.2 rfl)));subst e;exact⟨by simp[Blk.len,Em],rfl⟩;cases h;cases h;cases h;split at h;case isFalse=>cases h
 unfold Y0 at h;split at h;case isFalse=>cases h
 rename_i g;subst g;split at h;case isFalse=>cases h
 cases h;have e:=f _ wF;simp only at e;subst e;exact⟨rfl,rfl⟩;split at h;case isFalse=>cases h
 split at h;case isFalse=>cases h
 rename_i g;subst g;split at h;cases h;have e:=f _ (vI.2 rfl);simp only at e;subst e;exact⟨rfl,rfl⟩;split at h;cases h;have e:=f _ (wF);simp only at e;subst e;exact⟨rfl,rfl⟩;cases h;unfold Oi at h;split at h;split at h;split at h;case isFalse=>cases h
 split at h;case isFalse=>cases h
 rename_i j;subst j;cases h;have e:=f _ (zA _ (vI.2 rfl));subst e;exact⟨by simp[Blk.len,Em],rfl⟩;cases h;cases h;cases h;cases h
section
variable {S:Base}{s s':St}{a:Act}{w:World}{D:Nat->Prop}{E:Nat->Ent}
def Oh{m m':Mem}:∀{l:Mem}{ns:List Prop}{f:Nat}{j:Blk},leM m m' l=some ns->l.lookup f=some j->(∀q∈ns,q)->
  (∃b p,m.lookup f=some b/\leB m m' b j=some p/\∀q∈p,q)\/(m.lookup f=none/\∃el t,j=.buf el t [] [])
 |[],_,_,_,_,h,_=>by simp at h|(k,y)::r,ns,f,j,h,i,v=>by
  simp only[leM]at h;split at h;case h_2=>cases h
  rename_i p q g x;cases h;simp only[List.lookup]at i;split at i;rename_i e;cases i;have e:f=k:=by simpa using e
  subst e;split at g;rename_i b hb;exact .inl ⟨b,p,hb,g,λz u=>v z (qJ.2 (.inl u))⟩;rename_i hb;split at g;cases g;have e:_=[]:=v _ (qJ.2 (.inl (vI.2 rfl)));subst e;exact .inr ⟨hb,_,_,rfl⟩;cases g;exact Oh x i (λz u=>v z (qJ.2 (.inr u)))
def YL{p:List Prop}(h:leM s.mem s'.mem s'.mem=some p)(g:∀q∈p,q):Names s.mem s'.mem:=by
 intro u b v hb f;rcases Oh h f g with⟨c,r,e,j,i⟩|⟨e,_⟩;rw[hb]at e;cases e;exact aCP j i;rw[hb]at e;cases e
def YZ(h:aQ S s.sig a w D E){t:Ty}{xs ys:List t.den}{i:Nat}{v:AV}{ns:List Prop}{e:Ent}{el:TypeId}{raw:Lv}(f:aDT s.mem s'.mem t xs ys i v=some ns)(G:∀q∈ns,q)
  (O:w.ownsRow 0 el t.sz (e.handle xs.length) xs.length raw) (L:ct S.P (Rf s w D E) t xs [(i,v)] raw):
  fe S.P 0 (ctx1 s s' w D E) e (.buf el t ys []):=by
 cases t with
 |sl A=>
  cases v with
  |buf V n2=>
   simp only[aDT]at f;split at f;case h_2=>cases f
   rename_i T zs X;cases f;have ex:Em (α:=List A.den) xs i zs=ys:=G _ (qJ.2 (.inr (vI.2 rfl)));subst ex;refine⟨raw,by rw[Em,yJ];exact O,λk y hy=>?_⟩;have b:(List.set xs i zs)[k]?=some y:=hy;have x:k<xs.length:=by have:=(qG.1 b).1;rwa [yJ]at this
   have g:=L k _ (qB x);simp only[List.lookup];rw[yK]at b;split at b;rename_i z;subst z;rw[if_pos x]at b;cases b;simp only[List.lookup,xE]at g;obtain⟨_,u,hu,_,j⟩:=g;have e4:(raw.drop (i*(Ty.sl A).sz)).take (Ty.sl A).sz=[u]:=by
    simp only[Ty.sz,xG];apply xM;intro q;rw[vX];cases q with
    |zero=>simp[hu]|succ q=>simp
   rw[e4];exact Ek h X (λq hq=>G q (qJ.2 (.inl hq))) j;rename_i r;have hb:(k==i)=false:=by simpa using λe=>r e.symm
   simp only[List.lookup,hb]at g;have:y=xs[k]:=by rw[qB x]at b;exact(wZ b).symm
   rw[this];exact ax cn (λ_ _=>rfl) g
  |_=>simp[aDT]at f
 |_=>simp[aDT]at f
def zv{b k i:Nat}{v:AV}{el e:TypeId}{t:Ty}{xss:List (List t.den)}(f:k≠i):aC5 E b (.mat el e t xss [(i,v)]) k=(E b).rb k:=by
 cases v<;>first
  |rfl
  |(show(if k=i then _ else(E b).rb k)=_;rw[if_neg f])
def Ua{b k:Nat}{X:TypeId}{t:Ty}{row:List t.den}{u:Value}(e:(AB s.mem E b).rb k=(E b).rb k)(y:J9 S.P 0 (Rf s w D E) (E b) X t k row u):J9 S.P 0 (ctx1 s s' w D E) (AB s.mem E b) X t k row u:=by
 obtain⟨A,cap,f,i,j,g⟩:=y;refine⟨A,cap,f,i,j,λz=>?_⟩;obtain⟨x,v,r⟩:=g z;exact⟨by rw[e];exact x,v,bv (C:=Rf s w D E) (C':=ctx1 s s' w D E) ⟨cn,λ_ _=>rfl⟩ (λb h=>by cases h) r⟩
def aCO(h:aQ S s.sig a w D E)(hN:Names s.mem s'.mem){X:Nat}{b b':Blk}{ns:List Prop}(hm:s.mem.lookup X=some b)(f:leB s.mem s'.mem b b'=some ns)(A:∀q∈ns,q):
  fe S.P 0 (ctx1 s s' w D E) (AB s.mem E X) b':=by
 have hb:fe S.P 0 (Rf s w D E) (E X) b:=h.bl X b hm;have hE:=Jv (E:=E) hm;have hH:=zu (E:=E) hm;unfold leB at f;split at f;obtain⟨h0,us,el,h1,h2⟩:=hb;exact⟨by rw[hE];exact h0,us,el,by rw[hE];exact h1,nw h hN f A h2⟩;split at f;case isFalse=>cases f
 rename_i he;subst he;split at f;case isFalse=>cases f
 rename_i ht;subst ht;obtain⟨raw,L,G⟩:=hb;split at f;cases f;have ex:=A _ (vI.2 rfl);simp only at ex;subst ex;refine⟨raw,by rw[hH];exact L,λi y hy=>?_⟩;have g:=G i y hy;simp only[List.lookup]at g ⊢;exact ax cn (λ_ _=>rfl) g;rename_i i v i' v';split at f;rename_i ns' hv;cases f;have ex:=A _ (wF);have ei:i=i':=A _ (by simp);simp only at ex;subst ex ei;refine⟨raw,by rw[hH];exact L,λk y hy=>?_⟩;have g:=G k y hy;by_cases x:(k==i)=true;simp only[List.lookup,x]at g ⊢;obtain⟨g1,u,g2,g3,g4⟩:=g;exact⟨g1,u,g2,g3,ny h hN hv (λq hq=>A q (by simp[hq])) g4⟩;have x:(k==i)=false:=by simpa using x
 simp only[List.lookup,x]at g ⊢;exact ax cn (λ_ _=>rfl) g;cases f;exact YZ h f A (by rw[hH];exact L) G;cases f
 ·
  split at f;case isFalse=>cases f
  rename_i he;subst he;unfold Y0 at f;split at f;case isFalse=>cases f
  rename_i ht;subst ht;split at f;case isFalse=>cases f
  rename_i hz;cases f;have e1:=A _ wF;have e2:∀r∈_,r=[]:=A _ (zA _ (vI.2 rfl));simp only at e1;subst e1;obtain⟨raw,L,G⟩:=hb;refine⟨hz,raw,by rw[hH];exact L,λi row hi=>?_⟩;have e3:=e2 row (yA hi);subst e3;have g:=G i [] hi;simp only[List.lookup]at g ⊢;obtain⟨ao,cap,q1,q2,q3,_⟩:=g;refine⟨.slice ao 0 cap,?_,ao,cap,[],rfl,q3,λh=>absurd h (xY _)⟩;have:((raw.drop (i*1)).take 1)[0]?=some (.slice ao 0 cap):=by
   have q1':(raw.drop (i*1)).take 1=[.slice ao (List.length ([]:List _)) cap]:=q1;rw[q1'];rfl
  rw[vX,if_pos (by decide),vM]at this;simpa using this
 ·
  split at f;case isFalse=>cases f
  rename_i he;obtain⟨he1,he2⟩:=he;subst he1 he2;split at f;case isFalse=>cases f
  rename_i ht;subst ht;obtain⟨hz,raw,L,G⟩:=hb;split at f;cases f;have ex:=A _ (vI.2 rfl);simp only at ex;subst ex;refine⟨hz,raw,by rw[hH];exact L,λi row hi=>?_⟩;obtain⟨u,g1,g2⟩:=G i row hi;simp only[List.lookup]at g2 ⊢;exact⟨u,g1,Ua (by rw[hE];rfl) g2⟩;rename_i i v i' v';split at f;rename_i ns' hv;cases f;have ex:=A _ (wF);have ei:i=i':=A _ (by simp);simp only at ex;subst ex ei;refine⟨hz,raw,by rw[hH];exact L,λk row hk=>?_⟩;obtain⟨u,g1,g2⟩:=G k row hk;refine⟨u,g1,?_⟩;by_cases x:(k==i)=true;simp only[List.lookup,x]at g2 ⊢;exact⟨g2.1,ny h hN hv (λq hq=>A q (by simp[hq])) g2.2⟩;have x:(k==i)=false:=by simpa using x
  simp only[List.lookup,x]at g2 ⊢;exact Ua (by rw[hE];exact zv (by simpa using x)) g2;cases f;rename_i i v;unfold Oi at f;split at f;case h_2=>cases f
  rename_i j n2;split at f;case h_2=>cases f
  rename_i el2 e2 zs hno2 hm2;split at f;case isFalse=>cases f
  rename_i hel;subst hel;split at f;case isFalse=>cases f
  rename_i ht2;subst ht2;cases f;have ex:=A _ (zA _ (vI.2 rfl));have V:zs.length=n2:=A _ wF;simp only at ex;subst ex;refine⟨hz,raw,by rw[hH,Em,yJ];exact L,λk row hk=>?_⟩;have z:(List.set _ i zs)[k]?=some row:=hk;have O:=(qG.1 z).1;rw[yJ]at O;obtain⟨u,g1,g2⟩:=G k _ (qB O);refine⟨u,g1,?_⟩;simp only[List.lookup];rw[yK]at z;split at z;rename_i eik;subst eik;rw[if_pos O]at z;cases z;simp only[List.lookup,xE]at g2;obtain⟨_,hur⟩:=g2;have hu:=(hur _ hm2).2 V;obtain⟨raw2,p1,p2⟩:=h.bl j _ hm2;have hu:u=(E j).handle zs.length:=by rw[V];exact hu
  have hrb:(AB s.mem E X).rb i=((E j).b,(E j).cap):=by rw[hE];show(if i=i then((E j).b,(E j).cap)else(E X).rb i)=_;rw[if_pos rfl]
  cases T:(E j).isNil with
  |true=>
   have e3:(E j).handle zs.length=.slice none 0 0:=by unfold Ent.handle;rw[T];rfl
   rw[e3]at p1;rcases p1.2 with⟨_,hz0⟩|⟨g,cap,cur,hq,_⟩;have hz0':zs.length=0:=hz0;exact⟨none,0,[],by rw[hu,e3,hz0'],λ_=>rfl,λhp=>Z⟩;cases hq
  |false=>
   have e3:(E j).handle zs.length=.slice (some ⟨(E j).b,0,none⟩) zs.length (E j).cap:=by unfold Ent.handle;rw[T];rfl
   rw[hz]at p1;refine⟨_,_,raw2,by rw[hu,e3],λh=>by(cases h),λhp=>⟨by rw[hrb],by rw[hu];exact p1,?_⟩⟩;exact bv (C:=Rf s w D E) (C':=ctx1 s s' w D E) ⟨cn,λ_ _=>rfl⟩ (λX h=>by cases h) p2
  rename_i hne;have hb:(k==i)=false:=by simpa using λe=>hne e.symm
  simp only[List.lookup,hb]at g2;rw[qB O]at z;have erow:=wZ z;rw[erow]at g2;exact Ua (by rw[hE];exact if_neg (show ¬k=i by simpa using hb)) g2;cases f
 cases f
def Ul{p:List Prop}(hq:leM s.mem s'.mem s'.mem=some p)(hn:∀q∈p,q){T i k:Nat}(hp:cB (λx=>s'.mem.lookup x) (AB s.mem E) T i k):
  cB (λx=>s.mem.lookup x) E T i k\/∃el eli t xss g n2 L,s.mem.lookup T=some (.mat el eli t xss [(i,.buf g n2)])/\s'.mem.lookup g=none/\s.mem.lookup g=some L/\(L.len≠0->True)/\0<L.len/\(∃el2 t2 zs,L=.buf el2 t2 zs [])/\k=(E g).b:=by
 obtain⟨el,eli,t,xss,ov,row,h1,h2,h3,X,A⟩:=hp;rcases Oh hq h1 hn with⟨b,ps,hm,f,y⟩|⟨_,_,_,G⟩;rw[Jv hm]at A;simp only at A;unfold leB at f;split at f;rename_i G;cases G;rename_i G;cases G;rename_i hb G;cases G;split at f;case isFalse=>cases f
 unfold Y0 at f;split at f;case isFalse=>cases f
 split at f;case isFalse=>cases f
 cases f;have e2:∀r∈_,r=[]:=y _ (zA _ (vI.2 rfl));have:=e2 row (yA h3);subst this;exact absurd X (xY _);rename_i el0 eli0 e0 xs0 ov0 el1 eli1 e1 ys1 ov1 G;cases G;split at f;case isFalse=>cases f
 split at f;case isFalse=>cases f
 rename_i ht;subst ht;split at f;cases f;have ex:=y _ (vI.2 rfl);simp only at ex;subst ex;left;replace A:k=((E T).rb i).1:=A;exact⟨_,_,_,_,_,row,hm,rfl,h3,X,A⟩;rename_i j v j' v';split at f;rename_i ns' hv;cases f;have ex:=y _ (wF);have ei:j=j':=y _ (by simp);simp only at ex;subst ex ei;left;have u:i≠j:=λe=>by subst e;simp[List.lookup]at h2
 rw[zv u]at A;have z:(i==j)=false:=by simpa using u
 exact⟨_,_,_,_,_,row,hm,by simp[List.lookup,z],h3,X,A⟩;cases f;rename_i j v;unfold Oi at f;split at f;case h_2=>cases f
 rename_i g n2;split at f;case h_2=>cases f
 rename_i el2 e2 zs V hm2;split at f;case isFalse=>cases f
 split at f;case isFalse=>cases f
 rename_i ht2;subst ht2;cases f;have ex:=y _ (zA _ (vI.2 rfl));simp only at ex;subst ex;have h:(List.set _ j zs)[i]?=some row:=h3;rw[yK]at h;by_cases u:j=i;subst u;rw[if_pos rfl]at h;split at h;cases h;right;refine⟨_,_,_,_,g,n2,_,hm,V,hm2,λ_=>trivial,X,⟨_,_,_,rfl⟩,?_⟩;rw[A];show(if j=j then((E g).b,(E g).cap)else(E T).rb j).1=_;rw[if_pos rfl];cases h;rw[if_neg u]at h;left;have O:i≠j:=λe=>u e.symm;rw[zv O]at A;have z:(i==j)=false:=by simpa using O
 exact⟨_,_,_,_,_,row,hm,by simp[List.lookup,z],h,X,A⟩;cases f;cases f;cases G
def su:∀{m:Mem}{i:Nat}{el g:TypeId}{t:Ty}{xss:List (List t.den)}{p:Nat×AV}{r:List (Nat×AV)},m.lookup i=some (.mat el g t xss (p::r))->i∈BP m
 |[],_,_,_,_,_,_,_,h=>by cases h
 |(k,b)::m,i,el,g,t,xss,p,r,h=>by
  simp only[List.lookup]at h;split at h;rename_i e;have e:i=k:=by simpa using e
  subst e;cases h;simp[BP];have j:=su h;unfold BP;split;rename_i f;cases f;rename_i f;cases f;exact zA _ j;rename_i f;cases f;exact j
def aCx{l:List Nat}(h:l.length<=1){a b:Nat}(e:a∈l)(hb:b∈l):a=b:=by
 match l,h with
 |[],_=>cases e
 |[x],_=>rw[vI.1 e,vI.1 hb]
def aJ(m:Nat->Option Blk)(E:Nat->Ent)(b:Nat):Prop:=bA m E b\/∃nm i,cB m E nm i b
def aQ.ownAll{S:Base}{σ:Sig}{a:Act}{w:World}{D:Nat->Prop}{E:Nat->Ent}(h:aQ S σ a w D E){b:Nat}(hb:aJ σ.m E b):(S.w0.heap.size<=b\/S.O b)/\b<w.heap.size/\¬D b:=by
 rcases hb with⟨e,f,g1,g2,g3⟩|⟨e,i,g⟩;rw[g3];exact h.own e f g1 g2;exact h.pv.own e i b g
def ET{ns:List Prop}(h:aQ S s.sig a w D E)(hc:WM s s'=some ns)(hn:∀q∈ns,q):
  ∃D' E',aQ S s'.sig a w D' E'/\(∀b,D b->D' b)/\(∀b,D' b->D b\/aJ s.sig.m E b)/\∀b,aJ s'.sig.m E' b->aJ s.sig.m E b:=by
 unfold WM at hc;split at hc;case isFalse=>cases hc
 rename_i hone;obtain⟨_,hone⟩:=hone;split at hc;case h_2=>cases hc
 rename_i p q r hp hq hsv;cases hc;have hnp:∀z∈p,z:=λz hz=>hn z (qJ.2 (.inl (qJ.2 (.inl hz))));have hnq:∀z∈q,z:=λz hz=>hn z (qJ.2 (.inl (qJ.2 (.inr hz))));have hnr:∀z∈r,z:=λz hz=>hn z (qJ.2 (.inr hz));have hN:=YL hq hnq;have keep:∀A,(AB s.mem E A).isNil=false->((AB s.mem E A).b=(E A).b/\(E A).isNil=false)/\∃b,s.mem.lookup A=some b:=λA hm=>by
  unfold AB at hm ⊢;split at hm;rename_i b hb;exact⟨⟨rfl,hm⟩,b,hb⟩;cases hm
 have foldIn:∀A el eli t xss i f n2,s.mem.lookup A=some (.mat el eli t xss [(i,.buf f n2)])->pH s.mem f=true:=λA el eli t xss i f n2 hm=>by
  unfold pH;rw[xI];exact⟨_,x7 hm,by simp[zA2,AV.names]⟩
 have hpv:fU S.w0.heap.size S.O s'.sig.m (AB s.mem E) w.heap.size (aAg s.mem s'.mem D E):=by
  have src:=λ{A i k:Nat} (hk:cB s'.sig.m (AB s.mem E) A i k)=>Ul (s:=s) (s':=s') (E:=E) hq hnq hk;have aCC:∀{f u},s.mem.lookup f=some u->0<u.len->(∃el2 t2 zs,u=.buf el2 t2 zs [])->(E f).isNil=false:=by
   rintro f u hm2 hl ⟨el2,t2,zs,rfl⟩;obtain⟨raw,_,_,r3⟩:=kA h hm2;rcases r3 with⟨_,hx,_⟩|⟨hx,_⟩;subst hx;exact absurd hl (xY _);exact hx
  refine⟨λA i k hk=>?_,λA i k hk L b' X hi e=>?_,λA i k L j h1 h2=>?_⟩;have notD:∀(hD:¬D k) (hent:∀v u,s.mem.lookup v=some u->(E v).isNil=false->(E v).b=k->pH s.mem v=true) (hrow:∀v j,s'.mem.lookup v=none->cB s.sig.m E v j k->False),¬aAg s.mem s'.mem D E k:=by
   rintro hD hent hrow (hd|⟨v,u,G,T,k3,V,k5⟩|⟨v,j,G,T⟩);exact hD hd;rw[hent v u G V k5.symm]at k3;cases k3;exact hrow v j G T
  rcases src hk with g|⟨el,eli,t,xss,f,n2,u,g1,g2,g3,_,g4,g5,rfl⟩;obtain⟨q1,q2,q3⟩:=h.pv.own A i k g;refine⟨q1,q2,notD q3 (λv u G V k5=>(h.pv.ent A i k g v u G V k5).elim) λv j G T=>?_⟩;obtain⟨e1,_⟩:=h.pv.inj A i k v j g T;subst e1;obtain⟨_,_,_,_,_,_,hx,_⟩:=hk;have hx':s'.mem.lookup A=some _:=hx;rw[G]at hx';cases hx';have hi2:=aCC g3 g4 g5;obtain⟨q1,q2,q3⟩:=h.own f u g3 hi2;refine⟨q1,q2,notD q3 (λv blk3 G V k5=>?_) λv j G T=>h.pv.ent v j _ T f u g3 hi2 rfl⟩;have:=h.inj v f blk3 u G g3 V hi2 k5;subst this;exact foldIn _ _ _ _ _ _ _ _ g1;obtain⟨⟨e1,e2⟩,c1,G⟩:=keep L hi;rw[e1]at e;rcases src hk with g|⟨el,eli,t,xss,f,n2,u,g1,g2,g3,_,g4,g5,rfl⟩;exact h.pv.ent A i k g L c1 G e2 e;have:=h.inj L f c1 u G g3 e2 (aCC g3 g4 g5) e;subst this;have hb2:s'.mem.lookup L=some b':=X;rw[g2]at hb2;cases hb2;rcases src h1 with g|⟨el,eli,t,xss,f,n2,u,g1,g2,g3,_,g4,g5,g6⟩<;>rcases src h2 with q|⟨el',eli',t',xss',nm2',n2',blk',q1,q2,q3,_,q4,q5,q6⟩
  exact h.pv.inj A i k L j g q;exact(h.pv.ent A i k g nm2' blk' q3 (aCC q3 q4 q5) q6.symm).elim;exact(h.pv.ent L j k q f u g3 (aCC g3 g4 g5) g6.symm).elim;have:A=L:=aCx hone (su g1) (su q1);subst this;rw[g1]at q1;cases q1;exact⟨rfl,rfl⟩
 refine⟨aAg s.mem s'.mem D E,AB s.mem E,⟨h.sz,⟨h.df.1,λd hd=>?_⟩,λt=>?_,λA b' X=>?_,λA b' X hi=>?_,λA L b b' hb X hi hi' e=>?_,h.low,λb hb=>?_,λb hb=>.inl (h.dlo b hb),λb hb=>?_,me.mono (C:=⟨w,D,s.sig.m,E⟩) ⟨λb hb=>.inl hb,λ_ _=>rfl⟩ h.gl,nw h hN hsv hnr h.svr,hpv⟩,λb hb=>.inl hb,λb hb=>?_,λb hb=>?_⟩;rcases h.df.2 d hd with g|⟨k,g1,g2,g3,g4⟩;exact .inl g;exact .inr ⟨k,g1,g2,.inl g3,g4⟩;show(s'.tm.getD t .top).rel S.P (ctx1 s s' w D E) (a.tmps.getD t undef);rw[qA];cases ht:s'.tm[t]? with
 |none=>trivial|some y=>
  obtain⟨x,ps,g1,g2,g3⟩:=xS hp ht;have hx:(s.tm.getD t .top).rel S.P (Rf s w D E) (a.tmps.getD t undef):=h.tm t;rw[qA,g1]at hx;exact ny h hN g2 (λz hz=>hnp z (g3 z hz)) hx
 rcases Oh hq X hnq with⟨b,ps,h1,h2,h3⟩|⟨h1,el,t,rfl⟩;exact aCO h hN h1 h2 h3;have ek:AB s.mem E A=⟨0,0,true,noR⟩:=by unfold AB;rw[h1]
 rw[ek];exact⟨[],⟨by simp,.inl ⟨rfl,rfl⟩⟩,λi y hy=>by simp at hy⟩;obtain⟨⟨e1,e2⟩,b,hb⟩:=keep A hi;rw[e1];obtain⟨g1,g2,g3⟩:=h.own A b hb e2;refine⟨g1,g2,λhd=>?_⟩;rcases hd with hd|⟨f,b2,G,T,_,k3,V⟩|⟨f,i,G,T⟩;exact g3 hd;have:A=f:=h.inj A f b b2 hb G e2 k3 V;subst this;have hb2:s'.mem.lookup A=some b':=X;rw[T]at hb2;cases hb2;exact h.pv.ent f i _ T A b hb e2 rfl;obtain⟨⟨e1,i1⟩,c1,h1⟩:=keep A hi;obtain⟨⟨e2,i2⟩,c2,h2⟩:=keep L hi';rw[e1,e2]at e;exact h.inj A L c1 c2 h1 h2 i1 i2 e;rcases hb with hb|⟨f,b2,G,T,_,k3,V⟩|⟨f,i,G,T⟩;exact h.dlt b hb;rw[V];exact(h.own f b2 G k3).2.1;exact(h.pv.own f i b T).2.1;rcases hb with hb|⟨f,b2,G,T,_,k3,V⟩|⟨f,i,G,T⟩;exact h.dhi b hb;rw[V];exact .inr (h.own f b2 G k3).1;exact .inr (h.pv.own f i b T).1;rcases hb with hb|⟨f,b2,G,T,_,k3,V⟩|⟨f,i,G,T⟩;exact .inl hb;exact .inr (.inl ⟨f,b2,G,k3,V⟩);exact .inr (.inr ⟨f,i,T⟩);rcases hb with⟨A,u,g1,g2,g3⟩|⟨A,i,g⟩;obtain⟨⟨e1,e2⟩,c1,h1⟩:=keep A g2;rw[e1]at g3;exact .inl ⟨A,c1,h1,e2,g3⟩;rcases Ul (s:=s) (s':=s') (E:=E) hq hnq g with g|⟨el,eli,t,xss,f,n2,u,g1,g2,g3,_,g4,⟨el2,t2,zs,rfl⟩,g6⟩;exact .inr ⟨A,i,g⟩;refine .inl ⟨f,_,g3,?_,g6⟩;obtain⟨raw,_,_,r3⟩:=kA h g3;rcases r3 with⟨_,hx,_⟩|⟨hx,_⟩;subst hx;exact absurd g4 (xY _);exact hx
def ND{ns:List Prop}(h:Sim S s.sig a w)(e:WM s s'=some ns)(b:∀q∈ns,q):Sim S s'.sig a w:=by
 obtain⟨D,E,h⟩:=h;obtain⟨D',E',f,_⟩:=ET h e b;exact⟨D',E',f⟩
end
end Go.Eng
namespace Go.Eng
open Go.RowKit
structure Spec where
 α:Type
 inv:α->Prop
 st:α->St
 μ:α->Nat
 fin:List α:=[]
structure Ann where
 loop:Nat->St->Option Spec
 pre:Nat->St->Option St
 cut:Nat->St->Option Spec
def all:List Prop->Prop->Prop|[],q=>q|p::ps,q=>p/\all ps q
def bR:∀{l:List Prop}{q:Prop},all l q->(∀p∈l,p)/\q
 |[],_,h=>⟨λ_ h=>absurd h List.not_mem_nil,h⟩|p::f,q,h=>by
  obtain⟨g1,g2⟩:=bR h.2;refine⟨λr b=>?_,g2⟩;rcases zH.1 b with e|e;exact e▸h.1;exact g1 r e
def leP(s s':St):Prop:=match WM s s' with|some ns=>all ns True|none=>False
def fG:Code->Option Nat
 |.region id _ _=>some id|.seq a b=>match fG a with|some i=>some i|none=>fG b
 |.cond _ a b=>match fG a with|some i=>some i|none=>fG b
 |.block _ b=>fG b|.loop b=>fG b|.scope b=>fG b|.rangeFunc _ _ a b=>match fG a with|some i=>some i|none=>fG b
 |_=>none
def dstsOf:Code->List Tmp|.region _ ops _=>ops.toList.filterMap (·.dst)|.seq a b=>dstsOf a++dstsOf b|.cond _ a b=>dstsOf a++dstsOf b|.block _ b=>dstsOf b|.loop b=>dstsOf b|.scope b=>dstsOf b|_=>[]
def pX:List Tmp->List AV->List AV|[],l=>l|t::ts,l=>pX ts (l.set t .top)
def aD7:AV->AV|.val (.tuple _)=>.top|.grd _ _=>.top|a=>a
def O1(b:Code)(s:St):St:={s with tm:=pX (dstsOf b) (s.tm.map aD7)}
def aFq(b:Code)(s:St):St:={O1 b s with tm:=(O1 b s).tm++s.tm}
def aIK(n:Nat)(s:St):St:={s with tm:=s.tm.take n}
def aFr(A:Ann)(id:Nat)(b:Code)(s:St):Option Spec:=match A.loop (id+1000000) (aFq b s)with|some sp=>some {α:=sp.α,inv:=sp.inv,st:=λx=>aIK s.tm.length (sp.st x),μ:=sp.μ}|none=>A.loop id (O1 b s)
def Zz(b:Bool)(p q:Prop):Prop:=(b=true->p)/\(b=false->q)
def Zy:AV->Option (List Prop×Bool)|.dat .bool b=>some ([],b)|.grd g (.dat .bool b)=>some ([g=true],b)|_=>none
def aDP(c:Cfg)(ops:Array Oper)(draw:Bool)(s:St)(Q:St->Prop):Prop:=match aFc c ops draw s with|some (ns,s')=>all ns (Q s')|none=>False
def nB{α:Type}(xs:List α)(k:Nat)(x:α):Prop:=xs[k]?=some x
def setSlot(d:Option Tmp)(v:AV)(s:St):St:={s with tm:=match d with|some d=>s.tm.set d v|none=>s.tm}
def pI(d:Option Tmp)(n:Nat):Bool:=match d with|some d=>decide (d<n)|none=>true
def Iz(r:Rec)(s:St):Bool:=match r.new with|some k=>unB k s|none=>true
def valOf:AV->Option Value
 |.dat t x=>match t,x with
  |.int k,x=>some (.int k x)|_,_=>none
 |.val v=>some v|_=>none
def aCR:Op->Bool|.panic _=>true|_=>false
def BW(c:Cfg)(o:Oper):Bool:=match o.op with|.panic _=>true|.call ⟨.value (.func f),_,_⟩=>c.pf f|_=>false
def lv(c:Cfg)(T:Nat->AV)(g:Bool)(args:List Operand):List (AV×List Prop):=args.map λx=>ug g (evT c.G T x)
def AU(c:Cfg)(T:Nat->AV)(m:Nat->Option Blk)(g:Bool)(o:Op):Option (List Prop×AH×List Nat):=match o with
 |.panic x=>match ug g (evT c.G T x)with
  |(.ifc t a,ns)=>match valOf a with
   |some v=>some (ns,⟨True,false,.iface t v⟩,[])|none=>none
  |_=>none
 |.call ⟨.value (.func f),args,_⟩=>if c.pf f&&goes c.P f then
   match c.KP f (AX c.P (mh c.P f) ((lv c T g args.toList).map (·.1))) (fq m (cQ m (zA2 (AX c.P (mh c.P f) ((lv c T g args.toList).map (·.1))))))with
   |some r=>some ((lv c T g args.toList).flatMap (·.2),r,cQ m (zA2 (AX c.P (mh c.P f) ((lv c T g args.toList).map (·.1)))))|none=>none
   else none
 |_=>none
def GI(ns:List Nat)(s:St):St:={s with mem:=s.mem.filter λp=>!ns.contains p.1}
def GK(ns:List Nat)(σ:Sig):Sig:=⟨σ.T,λk=>if ns.contains k=true then none else σ.m k,σ.sv⟩
def nF(ns:List Nat)(k:Nat):∀m:Mem,(m.filter λp=>!ns.contains p.1).lookup k=if ns.contains k=true then none else m.lookup k
 |[]=>by simp|p::m=>by
  obtain⟨q,b⟩:=p;simp only[yR];by_cases f:ns.contains q=true;simp only[f,yL,wG,xW];rw[nF ns k m];by_cases e:k=q;subst e;rw[if_pos f,if_pos f];have:(k==q)=false:=by simpa using e
  simp only[List.lookup,this];have g:ns.contains q=false:=by simpa using f
  simp only[g,yX,kT,List.lookup];by_cases e:k=q;subst e;rw[if_neg f];simp;have:(k==q)=false:=by simpa using e
  simp only[this];exact nF ns k m
def JD(ns:List Nat)(s:St):(GI ns s).sig=GK ns s.sig:=by
 have:(GI ns s).sig.m=(GK ns s.sig).m:=funext λk=>nF ns k s.mem;cases h:(GI ns s).sig with
 |mk T m sv=>
  cases g:GK ns s.sig with
  |mk i m' f=>
   have e:(GI ns s).sig.T=(GK ns s.sig).T:=rfl;have b:(GI ns s).sig.sv=(GK ns s.sig).sv:=rfl;rw[h,g]at this e b;simp only at this e b;rw[this,e,b]
def aQ.dropped{S:Base}{σ:Sig}{a:Act}{w w':World}{D:Nat->Prop}{E:Nat->Ent}(h:aQ S σ a w D E){ns:List Nat}(r:Chg (bA (bN (fq σ.m ns)) E) w w'):aQ S (GK ns σ) a w' D E:=by
 have mem:∀k,bN (fq σ.m ns) k=if k∈ns then σ.m k else none:=λk=>fm σ.m k ns;have G:∀b,bA (bN (fq σ.m ns)) E b->∃f j,f∈ns/\σ.m f=some j/\(E f).isNil=false/\b=(E f).b:=λb ⟨f,j,g1,g2,g3⟩=>by
  rw[mem]at g1;split at g1;rename_i O;exact⟨f,j,O,g1,g2,g3⟩;cases g1
 have y:∀f b,(GK ns σ).m f=some b->f∉ns/\σ.m f=some b:=λf b hb=>by
  replace hb:(if ns.contains f=true then none else σ.m f)=some b:=hb;split at hb;cases hb;rename_i hn;exact⟨by simpa using hn,hb⟩
 refine h.go (m':=(GK ns σ).m) (D':=D) (E':=E) ⟨λ_ g=>g,λb hb=>r.block b (h.dlt b hb) λg=>?_⟩ (λf=>.inl λA x=>⟨A,(y f A x).2,rfl,qM _,λ_=>rfl⟩)
  (λf b hm=>?_) (λf b hm hi=>?_) (λf z b A hb x hi T e=>h.inj f z b A (y f b hb).2 (y z A x).2 hi T e)
  (h.low.step r.os r.tape r.output r.size λk hk L=>r.block k (qZ hk h.low.size) λg=>?_) (λb hb=>qZ (h.dlt b hb) r.size) (λb hb=>.inl hb)
  (h.pv.step (λf i b g=>?_) r.size (λb hb=>.inl hb) λf j hm hi=>.inr ⟨f,j,(y f j hm).2,hi,rfl⟩)
 obtain⟨f,j,_,g2,g3,g4⟩:=G b g;exact(h.own f j g2 g3).2.2 (g4▸hb);obtain⟨V,v⟩:=y f b hm;refine .inl ⟨v,rfl,λhi=>r.block _ (h.own f b v hi).2.1 λg=>?_,λi k X=>r.block k (h.pv.lt v X) λg=>?_⟩;obtain⟨u,j,g1,g2,g3,g4⟩:=G _ g;exact V (h.inj f u b j v g2 hi g3 g4▸g1);obtain⟨u,j,g1,g2,g3,g4⟩:=G _ g;exact h.pv.ent f i k (aR.2 ⟨b,v,X⟩) u j g2 g3 g4.symm;obtain⟨V,v⟩:=y f b hm;obtain⟨g1,g2,g3⟩:=h.own f b v hi;exact⟨g1,qZ g2 r.size,g3⟩;obtain⟨f,j,g1,g2,g3,g4⟩:=G _ g;rcases(h.own f j g2 g3).1 with q|q;rw[<- g4]at q;omega;rw[<- g4]at q;exact L q;obtain⟨bb,g1,g2⟩:=aR.1 g;exact aR.2 ⟨bb,(y f bb g1).2,g2⟩
def gS(c:Cfg)(ops:Array Oper):List Oper->St->(Exit->St->Prop)->Prop
 |[],s,Q=>Q .normal s|o::os,s,Q=>match RO s.sig.T ops o.guard with
  |some g=>match AU c s.sig.T s.sig.m g o.op with
   |some (ns,r,nms)=>(g=true->all ns (r.pre/\(r.ok=false->Q (.panic (chainOf r.pan)) (GI nms s))))/\
     (if aCR o.op=true then(if o.guard.isNone=true then True else pI o.dst s.tm.length=true/\(g=false->gS c ops os (setSlot o.dst (.grd g .top) s) Q))
      else match iZ c.P c.G c.K (c.mt o) ops s.nx s.sig o with
      |some q=>if iJ q s.tm.length=true/\Iz q s=true then(g=true->r.ok=true)->all q.need (gS c ops os (cV q s) Q)else False|none=>False)
   |none=>match iZ c.P c.G c.K (c.mt o) ops s.nx s.sig o with
    |some q=>if iJ q s.tm.length=true/\Iz q s=true then all q.need (gS c ops os (cV q s) Q)else False|none=>False
  |none=>False
def Up(tbl:List Nat)(q:Nat)(rs:List Rec):Bool:=(List.range rs.length).all λj=>j==q||(tbl.getD j 0).testBit q||((rs.getD j dflt).upd.isEmpty&&(rs.getD j dflt).new.isNone)
def IJ(tbl:List Nat)(q:Nat)(rs:List Rec):List Prop:=(List.range rs.length).flatMap λj=>if(j==q||(tbl.getD j 0).testBit q)=true then[]else(rs.getD j dflt).need
def aAN(ops:Array Oper)(s:St):St:={s with tm:=pX (ops.toList.filterMap (·.dst)) s.tm}
def aDa(c:Cfg)(ops:Array Oper)(s:St)(Q:Exit->St->Prop):Prop:=match iB c ops ops.toList s,ops[ops.toList.findIdx (BW c)]? with
 |some rs,some o=>if xn true (jV [] ops.toList) s rs=true/\o8 (jV [] ops.toList) ops.toList rs=true/\Up (jV [] ops.toList) (ops.toList.findIdx (BW c)) rs=true/\o.guard.isNone=true then
   match AU c (ie rs s (ops.toList.findIdx (BW c))).sig.T s.sig.m true o.op with
   |some (ns,r,nms)=>all (IJ (jV [] ops.toList) (ops.toList.findIdx (BW c)) rs) (all ns (r.pre/\(r.ok=true->all (rs.flatMap (·.need)) (Q .normal (ie rs s rs.length)))/\(r.ok=false->Q (.panic (chainOf r.pan)) (aAN ops (GI nms s)))))|none=>False
  else False
 |_,_=>False
def aGM(c:Cfg)(ops:Array Oper)(draw:Bool)(s:St)(Q:Exit->St->Prop):Prop:=
 if ops.toList.any (BW c)=true then(if draw=true then aDa c ops s Q else gS c ops ops.toList s Q)else aDP c ops draw s (Q .normal)
def wy(p:Tmp)(t:Ty)(y:t.den)(s:St):St:={s with tm:=s.tm.set p (.dat t y),sv:=s.tm}
def aGT:Ty->Bool|.pair _ _=>true|_=>false
def tz(t:Ty)(x:t.den):AV:=if aGT t then .agg (cellsOf t x)else .dat t x
def LG:(t:Ty)->t.den->List AV|.pair a b,x=>[tz a x.1,tz b x.2]|t,x=>[.dat t x]
def J0:List Tmp->List AV->List AV->List AV|p::ps,v::vs,tm=>J0 ps vs (tm.set p v)|_,_,tm=>tm
def NL(ps:List Tmp)(t:Ty)(y:t.den)(s:St):St:={s with tm:=J0 ps (LG t y) s.tm,sv:=s.tm++s.sv}
def vD(s:St):St:={s with tm:=s.sv.take s.tm.length,sv:=s.sv.drop s.tm.length}
def EL(s:St):St:={s with tm:=s.sv,sv:=[]}
def one1(t:Ty):Bool:=!aGT t&&decide (t.sz=1)
def Yt(t:Ty)(n:Nat):Bool:=match t with|.pair _ _=>n==2|t=>n==1&&decide (t.sz=1)
def A1:Nat:=1000000
def Gu:Ty->Bool|.int _=>true|.bool=>true|_=>false
def YU(m:Mem):AV->AV
 |.ptr nm 1 0 0=>match m.lookup nm with
  |some (.var cs)=>.ips (uU cs)|_=>.top
 |.ipv a=>.ipv (YU m a)|a=>lR a
def L2(m:Mem)(l:List AV):List AV:=l.map (YU m)
def Oe(G:List (Nat×AV))(g:Operand)(gf:FuncId)(s:St):Option (List AV):=match evT G s.sig.T g with|.fn gf' caps=>if gf'=gf then some (L2 s.mem caps)else none|_=>none
def aIC(c:Cfg)(m:Mem)(gf:FuncId)(caps:List AV):Option jX:=if(zA2 caps).isEmpty=true then c.KI gf caps else c.KI (gf+A1) (L2 m caps)
def UR(G:List (Nat×AV))(g:Operand)(gf:FuncId)(caps:List AV)(m:Mem){α:Type}(inv:α->Prop)(st:α->St)(t:Ty)(X:Prop):Prop:=
 if(zA2 caps).isEmpty=true then X else Gu t=true/\(∀x,inv x->Oe G g gf (st x)=some (L2 m caps))/\X
def Zc(P:Program)(f:FuncId):Bool:=goes P f&&decide (f<A1)
def aIH{α:Type}(R:α->Prop):List α->Prop|[]=>True|x::l=>R x/\aIH R l
def aJH{α:Type}(inv R:α->Prop):List α->Prop|[]=>∀x,inv x->R x|x::l=>(∀y,inv y->y∈x::l)/\aIH (λy=>inv y->R y) (x::l)
def Vt{α:Type}{R:α->Prop}:∀{l:List α},aIH R l->∀x∈l,R x
 |y::l,h,x,b=>by
  rcases zH.1 b with rfl|g;exact h.1;exact Vt h.2 x g
def Z2{α:Type}{inv R:α->Prop}{l:List α}(h:aJH inv R l):∀x,inv x->R x:=by
 cases l with
 |nil=>exact h|cons y l=>exact λx b=>Vt h.2 x (h.1 x b) b
def ev(c:Cfg)(A:Ann):Code->St->(Exit->St->Prop)->Prop
 |.skip,s,Q=>Q .normal s|.region id ops draw,s,Q=>match A.pre id s with
  |none=>aGM c ops draw s Q|some s1=>match WM s s1 with
   |some ms=>all ms (aGM c ops draw s1 Q)|none=>False
 |.seq a b,s,Q=>match fG b with
  |some id=>match A.cut id s with
   |some sp=>ev c A a s (λe s'=>match e with|.normal=>∃y,sp.inv y/\leP s' (sp.st y)|e=>Q e s')/\∀x,sp.inv x->ev c A b (sp.st x) Q
   |none=>ev c A a s (λe s'=>match e with|.normal=>ev c A b s' Q|e=>Q e s')
  |none=>ev c A a s (λe s'=>match e with|.normal=>ev c A b s' Q|e=>Q e s')
 |.cond t a b,s,Q=>match Zy (evT c.G s.sig.T t)with
  |some (ns,x)=>all ns (Zz x (ev c A a s Q) (ev c A b s Q))|none=>False
 |.block id b,s,Q=>ev c A b s (λe s'=>match e with|.exit id'=>if id'=id then Q .normal s' else Q (.exit id') s'|e=>Q e s')
 |.exit id,s,Q=>Q (.exit id) s|.scope b,s,Q=>ev c A b s (λe s'=>match e with|.goto _=>False|e=>Q e s')
 |.label _,s,Q=>Q .normal s|.ret,s,Q=>Q .ret s|.loop b,s,Q=>match fG b with
  |some id=>match aFr A id b s with
   |some sp=>(∃x,sp.inv x/\leP s (sp.st x))/\aJH sp.inv (λx=>ev c A b (sp.st x) (λe s'=>match e with|.normal=>∃y,sp.inv y/\leP s' (sp.st y)/\sp.μ y<sp.μ x|e=>Q e s')) sp.fin
   |none=>False
  |none=>False
 |.rangeFunc g ps aa b,s,Q=>match evT c.G s.sig.T g,fG (.seq aa b)with
  |.fn gf caps,some id=>match aIC c s.mem gf caps,A.loop id s with
   |some it,some sp=>if Zc c.P gf&&decide (s.sv.length<s.tm.length)&&c.rng&&Yt it.t ps.toList.length&&ps.toList.all (λp=>decide (p<s.tm.length))then
     UR c.G g gf caps s.mem sp.inv sp.st it.t (it.pre/\(∃x,sp.inv x/\sp.μ x=0/\leP s (sp.st x))/\
     (∀x y,sp.inv x->nB it.L (sp.μ x) y->ev c A aa (NL ps.toList it.t y (sp.st x)) (λe s1=>match e with
      |.normal=>ev c A b s1 (λe s2=>match e with
       |.normal=>∃z,sp.inv z/\sp.μ z=sp.μ x+1/\leP (vD s2) (sp.st z)|.ret=>Q .ret (vD s2)|.exit i=>Q (.exit i) (vD s2)|.panic ch=>Q (.panic ch) (vD s2)|_=>False)
      |_=>False))/\
     (∀x,sp.inv x->sp.μ x=it.L.length->Q .normal (sp.st x)))
    else False
   |_,_=>False
  |_,_=>False
 |_,_,_=>False
def oi{s s':St}{ns:List Prop}(h:WM s s'=some ns):s.tm.length=s'.tm.length:=by
 unfold WM at h;split at h;rename_i b;exact b.1;cases h
def yh{s s':St}(h:leP s s'):s.tm.length=s'.tm.length:=by
 unfold leP at h;split at h;rename_i ns b;exact oi b;exact h.elim
def F3{S:Base}{s s':St}{a:Act}{w:World}(b:leP s s')(h:Sim S s.sig a w):Sim S s'.sig a w:=by
 unfold leP at b;split at b;rename_i ns e;exact ND h e (bR b).1;exact b.elim
abbrev noV:Nat->Prop:=λ_=>False
def mU(P:Program)(G:List (Nat×AV))(gf:FuncId)(caps:List AV)(it:jX):Prop:=
 it.pre->∀(l:Nat) (J:Nat->World->(Nat->Prop)->(Nat->Prop)->Prop) (JX:World->(Nat->Prop)->(Nat->Prop)->Prop) (JP:List PanicEntry->World->(Nat->Prop)->(Nat->Prop)->Prop) (w:World) (D:Nat->Prop) (us:Lv),
  (∀b,D b->b<w.heap.size)->me P ⟨w,D,noM,noE⟩ G->zA1 P ⟨w,D,noM,noE⟩ caps us->
  (∀k w1 w2 D1 V,J k w1 D1 V->Below w1.heap.size w1 w2->∀X:Nat->Prop,J k w2 (λb=>D1 b\/(iV w1 w2 b/\¬X b)) (λb=>V b\/(iV w1 w2 b/\X b)))->
  (∀k w1 (D1 D2 V V2:Nat->Prop),J k w1 D1 V->(∀b,D2 b->D1 b)->(∀b,V2 b->V b)->J k w1 D2 V2)->
  (∀k w1 w2 D1 V,J k w1 D1 V->Chg V w1 w2->w2.heap.size=w1.heap.size->J k w2 D1 V)->
  (∀w1 w2 D1 V,JX w1 D1 V->Below w1.heap.size w1 w2->∀X:Nat->Prop,JX w2 (λb=>D1 b\/(iV w1 w2 b/\¬X b)) (λb=>V b\/(iV w1 w2 b/\X b)))->
  (∀w1 (D1 D2 V V2:Nat->Prop),JX w1 D1 V->(∀b,D2 b->D1 b)->(∀b,V2 b->V b)->JX w1 D2 V2)->
  (∀w1 w2 D1 V,JX w1 D1 V->Chg V w1 w2->w2.heap.size=w1.heap.size->JX w2 D1 V)->
  (∀ch w1 w2 D1 V,JP ch w1 D1 V->Chg V w1 w2->w2.heap.size=w1.heap.size->JP ch w2 D1 V)->
  (∀k y W D1 V vs,it.L[k]?=some y->J k W D1 V->(∀b,D1 b->b<W.heap.size)->zA1 P ⟨W,D1,noM,noE⟩ (LG it.t y) vs->YieldAt Fence.wide 0 P l vs.toArray W λe W' =>
   W.heap.size<=W'.heap.size/\(∀b,D1 b\/V b->W'.heap[b]?=W.heap[b]?)/\((e=.returned (.bool true)/\J (k+1) W' D1 V)\/(e=.returned (.bool false)/\JX W' D1 V)\/∃ch,e=.panicked ch/\JP ch W' D1 V))->
  J 0 w D noV->
  CallsIn Fence.wide 0 P gf (#[.func (.yield l) #[] #[]]++us.toArray) w λe W'=>((∃v,e=.returned v)/\((∃D2,J it.L.length W' D2 noV)\/∃D2,JX W' D2 noV))\/∃ch,e=.panicked ch/\∃D2 V2,JP ch W' D2 V2
def Kr(P:Program)(G:List (Nat×AV))(gf:FuncId)(caps:List AV)(it:jX):Prop:=
 it.pre->∀(l:Nat) (J:Nat->World->Prop) (JX:World->Prop) (JP:List PanicEntry->World->Prop) (w:World) (us:Lv),
  (∀k w1,J k w1->∃D:Nat->Prop,(∀b,D b->b<w1.heap.size)/\me P ⟨w1,D,noM,noE⟩ G/\zA1 P ⟨w1,D,noM,noE⟩ caps us)->
  (∀w1,JX w1->∃D:Nat->Prop,(∀b,D b->b<w1.heap.size)/\me P ⟨w1,D,noM,noE⟩ G)->
  (∀k w1 w2,J k w1->Below w1.heap.size w1 w2->J k w2)->
  (∀w1 w2,JX w1->Below w1.heap.size w1 w2->JX w2)->
  (∀k y W u,it.L[k]?=some y->J k W->ag W noV it.t y [u]->YieldAt Fence.wide 0 P l #[u] W λe W' =>
   W.heap.size<=W'.heap.size/\((e=.returned (.bool true)/\J (k+1) W')\/(e=.returned (.bool false)/\JX W')\/∃ch,e=.panicked ch/\JP ch W'))->
  J 0 w->
  CallsIn Fence.wide 0 P gf (#[.func (.yield l) #[] #[]]++us.toArray) w λe W'=>((∃v,e=.returned v)/\(J it.L.length W'\/JX W'))\/∃ch,e=.panicked ch/\JP ch W'
def bh(P:Program)(G:List (Nat×AV))(KI:FuncId->List AV->Option jX):Prop:=∀gf caps it,KI gf caps=some it->if gf<A1 then mU P G gf caps it else Kr P G (gf-A1) caps it
def bh.at{P:Program}{G:List (Nat×AV)}{KI:FuncId->List AV->Option jX}(h:bh P G KI){gf:FuncId}{caps:List AV}{it:jX}(e:gf<A1)(b:KI gf caps=some it):mU P G gf caps it:=by
 have:=h gf caps it b;rwa [if_pos e]at this
def aCQ{q:Nat->Prop}{p:Prop}{g N:Nat}(h:if g+N<N then p else q (g+N-N)):q g:=by
 rw[if_neg Z,Nat.add_sub_cancel]at h;exact h
def bh.lent{P:Program}{G:List (Nat×AV)}{KI:FuncId->List AV->Option jX}(h:bh P G KI){gf:FuncId}{caps:List AV}{it:jX}(b:KI (gf+A1) caps=some it):Kr P G gf caps it:=by
 unfold bh at h;generalize A1=N at h b;exact aCQ (q:=λg=>Kr P G g caps it) (h _ caps it b)
section
variable {S:Base}{c:Cfg}
def Sim.draw{σ:Sig}{a:Act}{w:World}(h:Sim S σ a w):Sim S σ a {w with drawn:=w.drawn+1}:=by
 obtain⟨D,E,h⟩:=h;exact⟨D,E,h.world (D':=D) (by constructor<;>first|rfl|exact qM _|exact λ_ _=>rfl|exact Nat.le_succ _) (λb=>⟨.inl,λg=>g.elim id (·.2)⟩) h.dlt⟩
def Uf{ops:Array Oper}{draw:Bool}{s s':St}{ns:List Prop}(h:aFc c ops draw s=some (ns,s')):s'.tm.length=s.tm.length:=by
 unfold aFc at h;split at h;rename_i rs _;dsimp only at h;generalize (if draw=true then jV [] ops.toList else[])=b at h;by_cases e:xn draw b s rs=true/\(draw=true->o8 b ops.toList rs=true);rw[if_pos e]at h;cases h;exact l9 _ _ _;rw[if_neg e]at h;cases h;cases h
def oF(z:c.P=S.P)(A:c.G=S.G)(v:ai S.P S.G c.K)(hm:S.P.follows .mixedOrders=true){id:Nat}{ops:Array Oper}{draw:Bool}{s s':St}{ns:List Prop}(h:aFc c ops draw s=some (ns,s'))(V:∀q∈ns,q)
  (X:s.tm.length=S.N) {a:Act}{w:World} (x:Sim S s.sig a w) {Q:Exit->Act->World->Prop} (y:∀L w',Sim S s'.sig L w'->Q .normal L w'):(Code.region id ops draw).wpIn S.F 0 S.P Q a w:=by
 unfold aFc at h;split at h;case h_2=>cases h
 rename_i rs g;dsimp only at h;generalize (if draw=true then jV [] ops.toList else[])=e at h;by_cases b:xn draw e s rs=true/\(draw=true->o8 e ops.toList rs=true);case neg=>rw[if_neg b]at h;cases h
 rw[if_pos b]at h;cases h;obtain⟨P,G,K,mb,KI,rng,KP,pf⟩:=c;simp only at z A v;subst z A;obtain⟨f,u⟩:=wq g;have H:Ko S K mb ops s rs:=⟨by simpa using f,λj o r T i=>u j o r (by simpa using T) i,X,λj r i q O=>V q (xH.2 ⟨r,yA i,O⟩)⟩;cases draw with
 |false=>exact Ib v H b.1 x y|true=>exact xd v hm H b.1 (b.2 rfl) x.draw y
def aQ.putL{σ:Sig}{a:Act}{w:World}{D:Nat->Prop}{E:Nat->Ent}(h:aQ S σ a w D E){l:Nat}(o:Obj)(z:S.w0.heap.size<=l)(x:¬D l)(u:¬aJ σ.m E l):aQ S σ a (w.putObj l o) D E:=by
 have same:∀k,k≠l->(w.putObj l o).heap[k]?=w.heap[k]?:=λk r=>World.putObj_heap_other r;exact h.go (m':=σ.m) ⟨λ_ g=>g,λb hb=>same b λe=>x (e▸hb)⟩ (λk=>.inl λy j=>⟨y,j,rfl,qM _,λ_=>rfl⟩)
  (λf b hm=>.inl ⟨hm,rfl,λhi=>same _ λe=>u (.inl ⟨f,b,hm,hi,e.symm⟩),λi k v=>same k λe=>u (.inr ⟨f,i,aR.2 ⟨b,hm,e▸v⟩⟩)⟩) (λf b hm hi=>by simpa using h.own f b hm hi) h.inj
  (h.low.step rfl rfl rfl (by simp) λk r _=>same k Z) (λb hb=>by simpa using h.dlt b hb) (λb hb=>.inl hb)
  (h.pv.step (λ_ _ _ g=>g) (by simp) (λ_ g=>.inl g) λf b hm hi=>.inr ⟨f,b,hm,hi,rfl⟩)
def aQ.lay{σ:Sig}{a:Act}{w w':World}{D:Nat->Prop}{E:Nat->Ent}(h:aQ S σ a w D E){V:Nat->Prop}(f:Chg V w w')(r:w'.heap.size=w.heap.size)(j:∀b,V b->S.w0.heap.size<=b/\¬D b/\¬aJ σ.m E b):aQ S σ a w' D E:=by
 have lt:∀e b,σ.m e=some b->(E e).isNil=false->(E e).b<w.heap.size:=λe b hm hi=>(h.own e b hm hi).2.1;exact h.go (m':=σ.m) ⟨λ_ g=>g,λb hb=>f.block b (h.dlt b hb) λg=>(j b g).2.1 hb⟩ (λk=>.inl λy u=>⟨y,u,rfl,qM _,λ_=>rfl⟩)
  (λe b hm=>.inl ⟨hm,rfl,λhi=>f.block _ (lt e b hm hi) λg=>(j _ g).2.2 (.inl ⟨e,b,hm,hi,rfl⟩),λi k v=>f.block k (h.pv.lt hm v) λg=>(j _ g).2.2 (.inr ⟨e,i,aR.2 ⟨b,hm,v⟩⟩)⟩)
  (λe b hm hi=>by rw[r];exact h.own e b hm hi) h.inj
  (h.low.step f.os f.tape f.output f.size λk x _=>f.block k (qZ x h.low.size) λg=>by have:=(j k g).1;omega) (λb hb=>by rw[r];exact h.dlt b hb) (λb hb=>.inl hb)
  (h.pv.step (λ_ _ _ g=>g) (xO r.symm) (λ_ g=>.inl g) λe b hm hi=>.inr ⟨e,b,hm,hi,rfl⟩)
def aQ.enter{σ:Sig}{a:Act}{w:World}{D:Nat->Prop}{E:Nat->Ent}(h:aQ S σ a w D E)(l:Nat){tm:Nat->AV}{tmps:Array Value}(j:tmps.size=S.N)
  (f:∀t,(tm t).rel S.P ⟨w,D,σ.m,E⟩ (tmps.getD t undef)) {sv:List AV}{vs:Lv} (r:zA1 S.P ⟨w,D,σ.m,E⟩ sv vs):
  aQ {P:=S.P,w0:=w,D0:=D,N:=S.N,O:=aJ σ.m E,G:=S.G,sv:=vs,rd:=some l,nod:=true} ⟨tm,σ.m,sv⟩ {tmps:=tmps,defers:=[]} w D E:=
 ⟨j,⟨⟨λ_=>rfl,⟨[],rfl⟩,yZ⟩,λd hd=>by cases hd⟩,f,h.bl,λe b hm hi=>⟨.inr (.inl ⟨e,b,hm,hi,rfl⟩),(h.own e b hm hi).2⟩,h.inj,Chg.refl _ _,h.dlt,λ_ g=>g,λ_ g=>.inl g,h.gl,r,
  ⟨λe i b g=>⟨.inr (.inr ⟨e,i,g⟩),(h.pv.own e i b g).2⟩,h.pv.ent,h.pv.inj⟩⟩
def aQ.again{σ:Sig}{a:Act}{w:World}{D:Nat->Prop}{E:Nat->Ent}(h:aQ S σ a w D E){l:Nat}(o:Obj)(u:S.gd=[])(f:a.defers=[])(A:¬D l)(x:¬aJ σ.m E l):
  aQ {S with w0:=w.putObj l o,D0:=D,O:=aJ σ.m E} σ a (w.putObj l o) D E:=by
 have same:∀k,k≠l->(w.putObj l o).heap[k]?=w.heap[k]?:=λk z=>World.putObj_heap_other z;have L:Later ⟨w,D,σ.m,E⟩ ⟨w.putObj l o,D,σ.m,E⟩:=⟨λ_ g=>g,λb hb=>same b λe=>A (e▸hb)⟩;have j:∀k,pn ⟨w,D,σ.m,E⟩ ⟨w.putObj l o,D,σ.m,E⟩ k:=λk G v=>⟨G,v,rfl,qM _,λ_=>rfl⟩;refine⟨h.sz,⟨⟨λ_=>f.trans u.symm,⟨[],f.trans u.symm⟩,by rw[f];exact yZ⟩,λd hd=>by rw[f]at hd;cases hd⟩,λt=>zA5 L (λk _=>j k) (h.tm t),λk b hm=>?_,λk b hm hi=>⟨.inr (.inl ⟨k,b,hm,hi,rfl⟩),by simpa using(h.own k b hm hi).2⟩,h.inj,Chg.refl _ _,
  λb hb=>by simpa using h.dlt b hb,λ_ g=>g,λ_ g=>.inl g,h.gl.mono L,zA4 L (λk _=>j k) h.svr,
  ⟨λj i b g=>⟨.inr (.inr ⟨j,i,g⟩),by simpa using(h.pv.own j i b g).2⟩,h.pv.ent,h.pv.inj⟩⟩
 exact fe.mono L (λk _=>j k) (λhi=>same _ λe=>x (.inl ⟨k,b,hm,hi,e.symm⟩)) (λi r y=>same r λe=>x (.inr ⟨k,i,aR.2 ⟨b,hm,e▸y⟩⟩)) (h.bl k b hm)
def aQ.leave{f:Base}{σ:Sig}{a a0:Act}{w:World}{D:Nat->Prop}{E:Nat->Ent}(h:aQ f σ a w D E)(L:f.P=S.P)(hG:f.G=S.G)(hv:f.sv=a0.tmps.toList)(r:a0.tmps.size=S.N)
  (V:∀b,f.w0.heap.size<=b\/f.O b->S.w0.heap.size<=b\/S.O b) (j:Chg S.O S.w0 w) (A:∀b,S.D0 b->D b) (y:∀b,D b->S.D0 b\/S.w0.heap.size<=b\/S.O b) (z:Marks S.nod S.w0.heap.size D w S.gd a0.defers)
  (v:S.sv=[]):aQ S ⟨λt=>σ.sv.getD t .top,σ.m,[]⟩ a0 w D E:=by
 refine⟨r,z,λt=>?_,λe b hm=>L▸h.bl e b hm,λe b hm hi=>⟨V _ (h.own e b hm hi).1,(h.own e b hm hi).2⟩,h.inj,j,h.dlt,A,y,?_,?_,⟨λe i b g=>⟨V _ (h.pv.own e i b g).1,(h.pv.own e i b g).2⟩,h.pv.ent,h.pv.inj⟩⟩;have T:=h.svr;rw[hv,L]at T;show(σ.sv.getD t .top).rel S.P ⟨w,D,σ.m,E⟩ _;rw[qA];cases X:σ.sv[t]? with
 |none=>trivial|some x=>
  obtain⟨u,g1,g2⟩:=zA6 T X;have:a0.tmps.getD t undef=u:=by
   rw[qV];simp only[yP]at g1;rw[g1];rfl
  rw[this];exact g2
 have:=h.gl;rw[L,hG]at this;exact this;rw[v];rfl
def aQ.leaveN{j:Base}{σ:Sig}{a a0:Act}{w:World}{D:Nat->Prop}{E:Nat->Ent}(h:aQ j σ a w D E)(T:j.P=S.P)(hG:j.G=S.G)(hv:j.sv=a0.tmps.toList++S.sv)(r:a0.tmps.size=S.N)
  (V:∀b,j.w0.heap.size<=b\/j.O b->S.w0.heap.size<=b\/S.O b) (v:Chg S.O S.w0 w) (L:∀b,S.D0 b->D b) (z:∀b,D b->S.D0 b\/S.w0.heap.size<=b\/S.O b) (A:Marks S.nod S.w0.heap.size D w S.gd a0.defers):
  aQ S ⟨λt=>(σ.sv.take S.N).getD t .top,σ.m,σ.sv.drop S.N⟩ a0 w D E:=by
 have y:=h.svr;rw[hv,T]at y;have e:a0.tmps.toList.length=S.N:=by rw[vU];exact r
 have h1:=zC4 y S.N;have X:=zB2 y S.N;have e1:(a0.tmps.toList++S.sv).take S.N=a0.tmps.toList:=by rw[<- e];exact qEa
 have e2:(a0.tmps.toList++S.sv).drop S.N=S.sv:=by rw[<- e];exact qBz
 rw[e1]at h1;rw[e2]at X;refine⟨r,A,λt=>?_,λf b hm=>T▸h.bl f b hm,λf b hm hi=>⟨V _ (h.own f b hm hi).1,(h.own f b hm hi).2⟩,h.inj,v,h.dlt,L,z,?_,X,⟨λf i b g=>⟨V _ (h.pv.own f i b g).1,(h.pv.own f i b g).2⟩,h.pv.ent,h.pv.inj⟩⟩;show((σ.sv.take S.N).getD t .top).rel S.P ⟨w,D,σ.m,E⟩ _;rw[qA];cases hx:(σ.sv.take S.N)[t]? with
 |none=>trivial|some x=>
  obtain⟨u,g1,g2⟩:=zA6 h1 hx;have:a0.tmps.getD t undef=u:=by
   rw[qV];simp only[yP]at g1;rw[g1];rfl
  rw[this];exact g2
 have:=h.gl;rw[T,hG]at this;exact this
end
end Go.Eng
namespace Go.Eng
open Go.RowKit
structure OkS(c:Cfg)(S:Base):Prop where
 P:c.P=S.P
 G:c.G=S.G
 K:ai S.P S.G c.K
 I:bh S.P S.G c.KI
 m:S.P.follows .mixedOrders=true
 rd:S.rd≠none->S.N<=S.sv.length
 nod:S.rd=none->S.nod=!c.rng
 KP:bJ S.P S.G c.KP
def aQ.mark{S:Base}{σ:Sig}{a:Act}{w:World}{D:Nat->Prop}{E:Nat->Ent}(h:aQ S σ a w D E)(f:S.nod=false){k:Nat}(g:S.w0.heap.size<=k)(i:D k)(hw:w.heap[k]?=some (.deferred (some [])))(b:∀d∈a.defers,d.target≠.collected k):
  aQ S σ {a with defers:={target:=.collected k,args:=#[]}::a.defers} w D E:=
 ⟨h.sz,⟨⟨λe=>(by rw[f]at e;cases e),⟨_::h.df.1.2.1.choose,yS (_::·) h.df.1.2.1.choose_spec⟩,List.Pairwise.cons (λd hd=>(b d hd).symm) h.df.1.2.2⟩,λd hd=>by
  rcases zH.1 hd with e|e;exact .inr ⟨k,e,g,i,hw⟩;exact h.df.2 d e⟩,h.tm,h.bl,h.own,h.inj,h.low,h.dlt,h.dlo,h.dhi,h.gl,h.svr,h.pv⟩
variable {S:Base}{a:Act}{w:World}{R:Exit->Act->World->Prop}
def ZV{x:Code}(h:x.wpIn S.F 0 S.P R a w):At S.P S.rd x R a w:=Wi S.F_round S.F_fn S.F_depth h
def aHc(c:Cfg)(A:Ann)(x:Code):Prop:=∀(S:Base) (s:St) (Q:Exit->St->Prop) (R:Exit->Act->World->Prop),OkS c S->
  ev c A x s Q->s.tm.length=S.N->(∀e s',Q e s'->s'.tm.length=S.N->∀a w,Sim S s'.sig a w->R e a w)->∀a w,Sim S s.sig a w->At S.P S.rd x R a w
variable {s:St}{D:Nat->Prop}{E:Nat->Ent}
mutual
def IN(h:aQ S s.sig a w D E):∀{x:AV}{v:Value},x.rel S.P ⟨w,D,s.sig.m,E⟩ v->(YU s.mem x).rel S.P ⟨w,ri s.sig.m E D,noM,noE⟩ v:=λ{x v} z=>by
 have L:Later ⟨w,D,s.sig.m,E⟩ ⟨w,ri s.sig.m E D,noM,noE⟩:=⟨λ_ g=>.inl g,λ_ _=>rfl⟩;have i:∀{y:AV}{u:Value},y.rel S.P ⟨w,D,s.sig.m,E⟩ u->(lR y).rel S.P ⟨w,ri s.sig.m E D,noM,noE⟩ u:=λ{y u} V=>
  zA5 L (λe f=>by rw[gb]at f;cases f) (zB5 V)
 unfold YU;split;rename_i e;split;rename_i cs hm;obtain⟨_,q⟩:=z _ hm;obtain⟨_,T,O⟩:=q rfl;obtain⟨_,us,el,G,A⟩:=h.bl e _ hm;refine⟨(E e).b,0,us.toList,?_,.inr ⟨e,_,hm,T,rfl⟩,λj u X=>?_,?_⟩;rw[O];show Value.pointer (some ⟨(E e).b,0*_+0,none⟩)=_;rw[xX];have r:w.heap[(E e).b]?=some (.cells us el (0,0)):=G;show w.cell? ⟨(E e).b,0+j,none⟩=some u;rw[qDx w _ _ us el (0,0) r,zQ];simpa using X;exact zA4 L (λe f=>by rw[fu]at f;cases f) (zB1 A);trivial;rename_i y;obtain⟨b,off,u,h1,h2,h3,h5⟩:=z;exact⟨b,off,u,h1,.inl h2,h3,IN h h5⟩;exact i z
end
def IM(h:aQ S s.sig a w D E):∀{xs:List AV}{vs:Lv},zA1 S.P ⟨w,D,s.sig.m,E⟩ xs vs->zA1 S.P ⟨w,ri s.sig.m E D,noM,noE⟩ (L2 s.mem xs) vs|[],_,b=>b|_::_,_,⟨u,us,e,g,f⟩=>⟨u,us,e,IN h g,IM h f⟩
variable {gf:FuncId}{G:List (Nat×AV)}{g:Operand}
def QM{l:List AV}(h:Oe G g gf s=some l):∃caps,evT G s.sig.T g=.fn gf caps/\L2 s.mem caps=l:=by
 unfold Oe at h;split at h;rename_i b caps e;split at h;rename_i f;subst f;cases h;exact⟨caps,e,rfl⟩;cases h;cases h
variable {caps:List AV}
def QL{m:Mem}{α:Type}{inv:α->Prop}{st:α->St}{t:Ty}{X:Prop}(h:UR G g gf caps m inv st t X):
  X/\(zA2 caps≠[]->Gu t=true/\∀x,inv x->Oe G g gf (st x)=some (L2 m caps)):=by
 unfold UR at h;split at h;rename_i e;exact⟨h,λg=>(g (zB.1 e)).elim⟩;exact⟨h.2.2,λ_=>⟨h.1,h.2.1⟩⟩
variable {P:Program}
def Un{t:Ty}{y:t.den}{u:Value}(h:Gu t=true)(e:ag w D t y [u]):zA1 P ⟨w,D,noM,noE⟩ (LG t y) [u]:=by
 cases t with
 |pair a b=>cases h
 |_=>exact⟨u,[],rfl,e,rfl⟩
def Yv{t:Ty}{y:t.den}{n:Nat}(h:Yt t n=true):(LG t y).length=n:=by
 cases t with
 |pair a b=>simp only[Yt,kN]at h;subst h;rfl|_=>simp only[Yt,qC,kN]at h;rw[h.1];rfl
def BO(t:Ty)(y:t.den):zA2 (LG t y)=[]:=by
 have one:∀(t:Ty) (x:t.den),(tz t x).names=[]:=λt x=>by
  unfold tz;split;exact jw t x;rfl
 cases t with
 |pair a b=>show(tz a y.1).names++((tz b y.2).names++[])=[];rw[one,one];rfl|_=>rfl
def JZ:∀(b:List Tmp) (vs tm:List AV),(J0 b vs tm).length=tm.length
 |[],_,_=>by unfold J0;rfl|_::_,[],_=>rfl|p::b,v::vs,tm=>by
  show(J0 b vs (tm.set p v)).length=_;rw[JZ b vs,yJ]
def JY{C:Ctx}:∀{b:List Tmp}{vs tm:List AV}{us:Lv}{tmps:Array Value},b.length=vs.length->zA1 P C vs us->tm.length=tmps.size->(∀p∈b,p<tm.length)->(∀t,(tm.getD t .top).rel P C (tmps.getD t undef))->
  ∀t,((J0 b vs tm).getD t .top).rel P C (((b.zip us).foldl (λt (p,v)=>t.setIfInBounds p v) tmps).getD t undef)
 |[],[],_,_,_,_,j,_,_,h=>by
  cases j;exact h
 |p::b,v::vs,tm,us,tmps,g,j,y,z,h=>by
  obtain⟨u,i,rfl,L,G⟩:=j;show ∀t,((J0 b vs (tm.set p v)).getD t .top).rel P C (((b.zip i).foldl (λt (p,v)=>t.setIfInBounds p v) (tmps.setIfInBounds p u)).getD t undef);have f:=z p (by simp);refine JY (by simpa using g) G (by simpa using y) (λq A=>by rw[yJ];exact z q (by simp[A])) λt=>?_;by_cases e:t=p;subst e;have x:(tm.set t v).getD t .top=v:=by rw[qA,qCd f];rfl
  have r:(tmps.setIfInBounds t u).getD t undef=u:=by simp[Array.getD,<- y,f]
  rw[x,r];exact L;have x:(tm.set p v).getD t .top=tm.getD t .top:=by
   simp only[qA];rw[qBr (λh=>e h.symm)]
  have r:(tmps.setIfInBounds p u).getD t undef=tmps.getD t undef:=by
   simp only[qV,zW];rw[if_neg (λh=>e h.symm)]
  rw[x,r];exact h t
 |[],_::_,_,_,_,g,_,_,_,_=>by cases g
 |_::_,[],_,_,_,g,_,_,_,_=>by cases g
variable {c:Cfg}
def Y1(hI:bh P G c.KI){m:Mem}{it:jX}(hgf:gf<A1)(A:aIC c m gf caps=some it)
  (O:it.pre) (l:Nat) (J:Nat->World->(Nat->Prop)->(Nat->Prop)->Prop) (JX:World->(Nat->Prop)->(Nat->Prop)->Prop) (JP:List PanicEntry->World->(Nat->Prop)->(Nat->Prop)->Prop) (w:World) (D:Nat->Prop) (us:Lv)
  (hD:∀b,D b->b<w.heap.size) (hG:me P ⟨w,D,noM,noE⟩ G) (hcaps:zA2 caps=[]->zA1 P ⟨w,D,noM,noE⟩ caps us)
  (T:zA2 caps≠[]->(∀k f i V,J k f i V->∃D:Nat->Prop,(∀b,D b->b<f.heap.size)/\me P ⟨f,D,noM,noE⟩ G/\zA1 P ⟨f,D,noM,noE⟩ (L2 m caps) us)/\Gu it.t=true/\∀f i V,JX f i V->∃D:Nat->Prop,(∀b,D b->b<f.heap.size)/\me P ⟨f,D,noM,noE⟩ G)
  (c1:∀k f j i V,J k f i V->Below f.heap.size f j->∀X:Nat->Prop,J k j (λb=>i b\/(iV f j b/\¬X b)) (λb=>V b\/(iV f j b/\X b)))
  (c2:∀k f (i z V V2:Nat->Prop),J k f i V->(∀b,z b->i b)->(∀b,V2 b->V b)->J k f z V2)
  (c3:∀k f j i V,J k f i V->Chg V f j->j.heap.size=f.heap.size->J k j i V)
  (x1:∀f j i V,JX f i V->Below f.heap.size f j->∀X:Nat->Prop,JX j (λb=>i b\/(iV f j b/\¬X b)) (λb=>V b\/(iV f j b/\X b)))
  (x2:∀f (i z V V2:Nat->Prop),JX f i V->(∀b,z b->i b)->(∀b,V2 b->V b)->JX f z V2)
  (x3:∀f j i V,JX f i V->Chg V f j->j.heap.size=f.heap.size->JX j i V)
  (p3:∀r f j i V,JP r f i V->Chg V f j->j.heap.size=f.heap.size->JP r j i V)
  (hy:∀k y W i V vs,it.L[k]?=some y->J k W i V->(∀b,i b->b<W.heap.size)->zA1 P ⟨W,i,noM,noE⟩ (LG it.t y) vs->YieldAt Fence.wide 0 P l vs.toArray W λe x=>
   W.heap.size<=x.heap.size/\(∀b,i b\/V b->x.heap[b]?=W.heap[b]?)/\((e=.returned (.bool true)/\J (k+1) x i V)\/(e=.returned (.bool false)/\JX x i V)\/∃r,e=.panicked r/\JP r x i V))
  (h0:J 0 w D noV):
  CallsIn Fence.wide 0 P gf (#[.func (.yield l) #[] #[]]++us.toArray) w λe x=>((∃v,e=.returned v)/\((∃z,J it.L.length x z noV)\/∃z,JX x z noV))\/∃r,e=.panicked r/\∃z V2,JP r x z V2:=by
 unfold aIC at A;split at A;rename_i e;exact hI.at hgf A O l J JX JP w D us hD hG (hcaps (zB.1 e)) c1 c2 c3 x1 x2 x3 p3 hy h0;rename_i e;obtain⟨l1,lf,l2⟩:=T λg=>e (zB.2 g);refine(hI.lent A O l (λk W=>J k W noV noV) (λW=>JX W noV noV) (λr W=>JP r W noV noV) w us (λk f h=>l1 k f _ _ h) (λf h=>l2 f _ _ h)
  (λk f j h hb=>c2 _ _ _ _ _ _ (c1 k f j _ _ h hb noV) (λ_ g=>g.elim) λ_ g=>g.elim) (λf j h hb=>x2 _ _ _ _ _ (x1 f j _ _ h hb noV) (λ_ g=>g.elim) λ_ g=>g.elim)
  (λk y W u h1 h2 h3=>?_) (c2 _ _ _ _ _ _ h0 (λ_ g=>g.elim) λ_ g=>g)).mono ?_
 obtain⟨fn,tmps,aa,body,g1,g2⟩:=hy k y W noV noV [u] h1 h2 (λ_ g=>g.elim) (Un lf h3);exact⟨fn,tmps,aa,body,g1,g2.mono λe x g=>⟨g.1,g.2.2⟩⟩;rintro e x (⟨g1,g2⟩|⟨r,g1,g2⟩);exact .inl ⟨g1,g2.imp (λg=>⟨_,g⟩) λg=>⟨_,g⟩⟩;exact .inr ⟨r,g1,_,_,g2⟩
def aE7{A:Ann}{ps:Array Tmp}{aa b:Code}(iha:aHc c A aa)(ihb:aHc c A b):aHc c A (.rangeFunc g ps aa b):=by
 intro S s Q R H h hl hR a w hs;unfold ev at h;split at h;case h_2=>exact h.elim
 rename_i gf caps rid hev hid;obtain⟨pl,hps⟩:∃pl,ps.toList=pl:=⟨_,rfl⟩;rw[hps]at h;split at h;case h_2=>exact h.elim
 rename_i it sp hki hsp;split at h;case isFalse=>exact h.elim
 rename_i hc;obtain⟨⟨hpre,⟨x0,i1,i2,i3⟩,hround,hdone⟩,hlo⟩:=QL h;simp only[Zc,qC,qE]at hc;obtain⟨⟨⟨⟨⟨hgoes,hgf⟩,hsv⟩,hrng⟩,hone⟩,hp⟩:=hc;have hp:∀p∈pl,p<s.tm.length:=λp g=>vT (qQ.1 hp p g);obtain⟨D,E,hd⟩:=hs;have hrd:S.rd=none:=by
  cases hr:S.rd with
  |none=>rfl|some l=>
   have h1:=H.rd (by rw[hr];simp);have h2:=zA3 hd.svr;have e:s.sig.sv=s.sv:=rfl;rw[e]at h2;omega
 have hnod:S.nod=false:=by rw[H.nod hrd,hrng];rfl
 have hgv:=fy hd g;rw[<- H.G,hev]at hgv;obtain⟨cs,hga,hcaps⟩:=hgv;unfold leP at i3;split at i3;case h_2=>exact i3.elim
 rename_i ns0 hle0;have hlen0:=oi hle0;obtain⟨D1,E1,hd1,up1,dn1,bl1⟩:=ET hd hle0 (bR i3).1;obtain⟨dk,hdk⟩:∃dk,dk=w.heap.size:=⟨_,rfl⟩;rw[hrd];refine at_range λfn hfn=>?_;obtain⟨rec,hrec⟩:∃rec:LoopState->Option Code->Loop,rec=λst pe=>{state:=st,pending:=pe,fn,tmps:=a.tmps,params:=ps,assign:=aa,body:=b,defers:=w.heap.size}:=⟨_,rfl⟩;obtain⟨W1,hW1⟩:∃W1,(w.alloc (.deferred (some []))).alloc (.loop (rec .ready none))=W1:=⟨_,rfl⟩;have hsz1:W1.heap.size=w.heap.size+2:=by rw[<- hW1];simp
 have hL1:W1.heap[w.heap.size+1]?=some (.loop (rec .ready none)):=by
  rw[<- hW1];have:=World.alloc_heap_new (w.alloc (.deferred (some []))) (.loop (rec .ready none));rwa [yG]at this
 have hK1:W1.heap[w.heap.size]?=some (.deferred (some [])):=by
  rw[<- hW1];exact(Below.heap_alloc _ _ _ (by simp)).trans (World.alloc_heap_new w _)
 have hb1:Below w.heap.size w W1:=by
  rw[<- hW1];exact((Below.refl _ w).alloc (qM _) _).alloc (by simp) _
 have hbase:S.w0.heap.size<=w.heap.size:=hd1.low.size;have hne1:∀d∈a.defers,d.target≠.collected w.heap.size:=λd hd e=>by
  rcases hd1.df.2 d hd with⟨_,g⟩|⟨k,g1,_,g3,_⟩;exact g _ e;rw[g1]at e;injection e with e
  have:=hd1.dlt k g3;omega
 have hd2:aQ S (sp.st x0).sig {a with defers:={target:=.collected w.heap.size,args:=#[]}::a.defers} W1 (λb=>D1 b\/b=w.heap.size) E1:=by
  refine(hd1.world (D':=λb=>D1 b\/b=w.heap.size) hb1 (λb=>⟨λg=>?_,λg=>?_⟩) (λb g=>?_)).mark hnod hbase (.inr rfl) hK1 hne1;rcases g with g|g;exact .inl g;exact .inr ⟨⟨Z,Z⟩,.inr g⟩;rcases g with g|⟨_,g⟩;exact .inl g;exact g;rcases g with g|g;have:=hd1.dlt b g;omega;omega
 refine⟨w.heap.size+1,[{target:=.collected w.heap.size,args:=#[]}],W1,{target:=.fn (.func gf) cs.toArray,args:=#[.func (.yield (w.heap.size+1)) #[] #[]]},W1,gf,
  #[.func (.yield (w.heap.size+1)) #[] #[]]++cs.toArray,W1,?_,?_,?_,?_⟩
 rw[<- hW1,hrec];exact run_enterLoop_outer _ _ _ _ _;simp only[resolve,hga];simp[go_sem];have:=lQ (P:=S.P) (by rw[<- H.P];exact hgoes) W1 (#[.func (.yield (w.heap.size+1)) #[] #[]]++cs.toArray);simp only[invoke];exact this;have hcaps1:zA2 caps=[]->zA1 S.P ⟨W1,(λb=>D1 b\/b=w.heap.size),noM,noE⟩ caps cs:=λhnm=>
  zA4 (C:=⟨w,D,s.sig.m,E⟩) (C':=⟨W1,(λb=>D1 b\/b=w.heap.size),noM,noE⟩) ⟨λb g=>.inl (up1 b g),λb g=>hb1.block b (hd.dlt b g)⟩ (λk hk=>by rw[hnm]at hk;cases hk) hcaps
 have hl2:∀b,D1 b\/b=w.heap.size->b≠w.heap.size+1:=λb g e=>by
  rcases g with g|g;have:=hd1.dlt b g;omega;omega
 have he2:¬aJ (sp.st x0).sig.m E1 (w.heap.size+1):=λg0=>by
  have:=(hd1.ownAll g0).2.1;omega
 have hsz0:a.tmps.size=S.N:=hd.sz;obtain⟨J,hJ⟩:∃J:Nat->World->(Nat->Prop)->(Nat->Prop)->Prop,J=λk W Dit V=>∃x D E,sp.inv x/\sp.μ x=k/\
   aQ S (sp.st x).sig {a with defers:={target:=.collected w.heap.size,args:=#[]}::a.defers} W D E/\(∀b,Dit b->D b)/\
   W.heap[w.heap.size+1]?=some (.loop (rec .ready none))/\¬D (w.heap.size+1)/\¬aJ (sp.st x).sig.m E (w.heap.size+1)/\(sp.st x).tm.length=S.N/\(∀b,V b->w.heap.size+1<b/\b<W.heap.size/\¬D b/\¬aJ (sp.st x).sig.m E b):=⟨_,rfl⟩
 obtain⟨JX,hJX⟩:∃JX:World->(Nat->Prop)->(Nat->Prop)->Prop,JX=λW Dit V=>∃cc s2 D E,((cc=Code.ret/\Q .ret s2)\/∃i,cc=Code.exit i/\Q (.exit i) s2)/\s2.tm.length=S.N/\
   aQ S s2.sig {a with defers:={target:=.collected w.heap.size,args:=#[]}::a.defers} W D E/\(∀b,Dit b->D b)/\
   W.heap[w.heap.size+1]?=some (.loop (rec .done (some cc)))/\¬D (w.heap.size+1)/\¬aJ s2.sig.m E (w.heap.size+1)/\(∀b,V b->w.heap.size+1<b/\b<W.heap.size/\¬D b/\¬aJ s2.sig.m E b):=⟨_,rfl⟩
 obtain⟨JP,hJP⟩:∃JP:List PanicEntry->World->(Nat->Prop)->(Nat->Prop)->Prop,JP=λch W _ V=>∃s2 D E,Q (.panic ch) s2/\s2.tm.length=S.N/\
   aQ S s2.sig {a with defers:={target:=.collected w.heap.size,args:=#[]}::a.defers} W D E/\(∀b,V b->w.heap.size+1<b/\b<W.heap.size/\¬D b/\¬aJ s2.sig.m E b):=⟨_,rfl⟩
 have grow:∀{W W2:World}{σ:Sig}{D:Nat->Prop}{E:Nat->Ent},aQ S σ {a with defers:={target:=.collected w.heap.size,args:=#[]}::a.defers} W D E->Below W.heap.size W W2->∀X:Nat->Prop,
   aQ S σ {a with defers:={target:=.collected w.heap.size,args:=#[]}::a.defers} W2 (λb=>D b\/(iV W W2 b/\¬X b)) E:=λ{W W2 σ D E} h hb X=>
  h.world (D':=λb=>D b\/(iV W W2 b/\¬X b)) hb (λb=>⟨λg=>g.imp id λg=>⟨g.1,.inr g⟩,λg=>g.elim .inl (·.2)⟩) λb g=>by
   rcases g with g|g;exact qZ (h.dlt b g) hb.size;exact g.1.2
 have notAll:∀{W:World}{σ:Sig}{D:Nat->Prop}{E:Nat->Ent},aQ S σ {a with defers:={target:=.collected w.heap.size,args:=#[]}::a.defers} W D E->∀b,W.heap.size<=b->¬aJ σ.m E b:=λh b hb g=>by
  have:=(h.ownAll g).2.1;omega
 have hbase0:S.w0.heap.size<=w.heap.size:=hbase;refine(Y1 H.I hgf hki hpre (w.heap.size+1) J JX JP W1 (λb=>D1 b\/b=w.heap.size) cs (λb g=>?_) ?_ hcaps1 (λhnm=>⟨?_,(hlo hnm).1,?_⟩) ?_ ?_ ?_ ?_ ?_ ?_ ?_ ?_ ?_).mono ?_;rcases g with g|g;have:=hd1.dlt b g;omega;omega;exact me.mono (C:=⟨w,D,s.sig.m,E⟩) (C':=⟨W1,(λb=>D1 b\/b=w.heap.size),noM,noE⟩) ⟨λb g=>.inl (up1 b g),λb g=>hb1.block b (hd.dlt b g)⟩ hd.gl;subst hJ;rintro k W Dit V ⟨x,D',E',j1,j2,j3,_⟩;obtain⟨capx,q1,q2⟩:=QM ((hlo hnm).2 x j1);have hv:=fy j3 g;rw[<- H.G,q1]at hv;obtain⟨cs',g1,g2⟩:=hv;have g1':a.eval g=.func (.func gf) #[] cs'.toArray:=g1;rw[hga]at g1';have e:cs=cs':=by
  have:=(Value.func.injEq ..▸g1':_/\_/\_).2.2;simpa using yS Array.toList this
 subst e;refine⟨ri (sp.st x).sig.m E' D',λb hb=>?_,me.mono (C:=⟨W,D',(sp.st x).sig.m,E'⟩) (C':=⟨W,ri (sp.st x).sig.m E' D',noM,noE⟩) ⟨λ_ g=>.inl g,λ_ _=>rfl⟩ j3.gl,q2▸IM j3 g2⟩;rcases hb with hb|⟨nm,blk,b1,b2,rfl⟩;exact j3.dlt b hb;exact(j3.own nm blk b1 b2).2.1;subst hJX;rintro W Dit V ⟨cc,s2,D',E',j1,j2,j3,_⟩;exact⟨D',j3.dlt,me.mono (C:=⟨W,D',s2.sig.m,E'⟩) (C':=⟨W,D',noM,noE⟩) ⟨λ_ g=>g,λ_ _=>rfl⟩ j3.gl⟩;subst hJ;rintro k W W2 Dit V ⟨x,D',E',j1,j2,j3,j4,j5,j6,j7,j8,j9⟩ hb X;have hlt:w.heap.size+1<W.heap.size:=(vV.1 j5).1;refine⟨x,_,E',j1,j2,grow j3 hb X,λb g=>g.imp (j4 b) (λg=>g),(hb.block _ hlt).trans j5,λg=>?_,j7,j8,λb g=>?_⟩;rcases g with g|g;exact j6 g;have:=g.1.1;omega;rcases g with g|⟨g,gx⟩;obtain⟨v1,v2,v3,v4⟩:=j9 b g;refine⟨v1,qZ v2 hb.size,λg2=>?_,v4⟩;rcases g2 with g2|g2;exact v3 g2;have:=g2.1.1;omega;refine⟨qZ hlt g.1,g.2,λg2=>?_,notAll j3 b g.1⟩;rcases g2 with g2|g2;have:=j3.dlt b g2;have:=g.1;omega;exact g2.2 gx;subst hJ;rintro k W Dit Dit2 V V2 ⟨x,D',E',j1,j2,j3,j4,j5,j6,j7,j8,j9⟩ hsub hsubV;exact⟨x,D',E',j1,j2,j3,λb g=>j4 b (hsub b g),j5,j6,j7,j8,λb g=>j9 b (hsubV b g)⟩;subst hJ;rintro k W W2 Dit V ⟨x,D',E',j1,j2,j3,j4,j5,j6,j7,j8,j9⟩ hc hsz;have hlt:w.heap.size+1<W.heap.size:=(vV.1 j5).1;refine⟨x,D',E',j1,j2,j3.lay hc hsz λb g=>?_,j4,(hc.block _ hlt λg=>?_).trans j5,j6,j7,j8,λb g=>?_⟩;obtain⟨v1,v2,v3,v4⟩:=j9 b g;exact⟨Z,v3,v4⟩;have:=(j9 _ g).1;omega;rw[hsz];exact j9 b g
 subst hJX;rintro W W2 Dit V ⟨cc,s2,D',E',j1,j2,j3,j4,j5,j6,j7,j9⟩ hb X;have hlt:w.heap.size+1<W.heap.size:=(vV.1 j5).1;refine⟨cc,s2,_,E',j1,j2,grow j3 hb X,λb g=>g.imp (j4 b) (λg=>g),(hb.block _ hlt).trans j5,λg=>?_,j7,λb g=>?_⟩;rcases g with g|g;exact j6 g;have:=g.1.1;omega;rcases g with g|⟨g,gx⟩;obtain⟨v1,v2,v3,v4⟩:=j9 b g;refine⟨v1,qZ v2 hb.size,λg2=>?_,v4⟩;rcases g2 with g2|g2;exact v3 g2;have:=g2.1.1;omega;refine⟨qZ hlt g.1,g.2,λg2=>?_,notAll j3 b g.1⟩;rcases g2 with g2|g2;have:=j3.dlt b g2;have:=g.1;omega;exact g2.2 gx;subst hJX;rintro W Dit Dit2 V V2 ⟨cc,s2,D',E',j1,j2,j3,j4,j5,j6,j7,j9⟩ hsub hsubV;exact⟨cc,s2,D',E',j1,j2,j3,λb g=>j4 b (hsub b g),j5,j6,j7,λb g=>j9 b (hsubV b g)⟩;subst hJX;rintro W W2 Dit V ⟨cc,s2,D',E',j1,j2,j3,j4,j5,j6,j7,j9⟩ hc hsz;have hlt:w.heap.size+1<W.heap.size:=(vV.1 j5).1;refine⟨cc,s2,D',E',j1,j2,j3.lay hc hsz λb g=>?_,j4,(hc.block _ hlt λg=>?_).trans j5,j6,j7,λb g=>?_⟩;obtain⟨v1,v2,v3,v4⟩:=j9 b g;exact⟨Z,v3,v4⟩;have:=(j9 _ g).1;omega;rw[hsz];exact j9 b g;subst hJP;rintro ch W W2 Dit V ⟨s2,D',E',j1,j2,j3,j9⟩ hc hsz;refine⟨s2,D',E',j1,j2,j3.lay hc hsz λb g=>?_,λb g=>?_⟩;obtain⟨v1,v2,v3,v4⟩:=j9 b g;exact⟨Z,v3,v4⟩;rw[hsz];exact j9 b g
 ·
  intro k y W Dit V vs hy hj hltd hu;rw[hJ]at hj;obtain⟨x,D',E',j1,j2,j3,j4,j5,j6,j7,j8,j9⟩:=hj;have hlt:w.heap.size+1<W.heap.size:=(vV.1 j5).1;have hpl:pl.length=(LG it.t y).length:=(Yv hone).symm;have hvl:vs.length=pl.length:=by rw[hpl];exact(zA3 hu).symm
  have hpsz:ps.size=vs.toArray.size:=by
   have e:ps.size=pl.length:=by rw[<- hps,vU]
   rw[e,qAe,hvl]
  have hyl:=run_yield (P:=S.P) (args:=vs.toArray) j5 (by rw[hrec];simpa using hpsz.symm);rw[hrec]at hyl;obtain⟨tq,htq⟩:∃tq:Array Value,tq=(pl.zip vs).foldl (λt (p,v)=>t.setIfInBounds p v) a.tmps:=⟨_,rfl⟩;have htm:(ps.zip vs.toArray).foldl (λt (p,v)=>t.setIfInBounds p v) a.tmps=tq:=by
   have e:ps=pl.toArray:=by apply yU;rw[hps]
   rw[e,htq,List.zip_toArray,List.foldl_toArray]
  refine⟨fn,_,aa,b,hyl,?_⟩;rw[htm];refine NK hfn ?_;have hu':zA1 S.P ⟨W,D',(sp.st x).sig.m,E'⟩ (LG it.t y) vs:=zA4 (C:=⟨W,Dit,noM,noE⟩) (C':=⟨W,D',(sp.st x).sig.m,E'⟩) ⟨j4,λ_ _=>rfl⟩ (λnm g=>by rw[BO]at g;cases g) hu;have tqs:tq.size=a.tmps.size:=by
   rw[htq];generalize a.tmps=t0;induction pl.zip vs generalizing t0 with
   |nil=>rfl|cons q r ih=>rw[kG,ih];simp
  have tms:∀t,((NL pl it.t y (sp.st x)).sig.T t).rel S.P ⟨W,D',(sp.st x).sig.m,E'⟩ (tq.getD t undef):=by
   rw[htq];exact JY hpl hu' (by rw[j8,hsz0]) (λp g=>by rw[j8,<- hl];exact hp p g) j3.tm
  have svs:zA1 S.P ⟨W,D',(sp.st x).sig.m,E'⟩ (sp.st x).tm a.tmps.toList:=by
   refine zB3 (by rw[j8,vU,hsz0]) λi av v hi hv=>?_;have:=j3.tm i;have e1:(sp.st x).sig.T i=av:=by show(sp.st x).tm.getD i .top=av;rw[qA,hi];rfl
   have e2:a.tmps.getD i undef=v:=by
    rw[qV];simp only[yP]at hv;rw[hv];rfl
   rw[e1]at this;simpa only[e2]using this
  have hent:=j3.enter (w.heap.size+1) (tm:=(NL pl it.t y (sp.st x)).sig.T) (tmps:=tq) (by rw[tqs];exact hsz0) tms (zA8 svs j3.svr);obtain⟨Sr,f⟩:∃Sr:Base,Sr={P:=S.P,w0:=W,D0:=D',N:=S.N,O:=aJ (sp.st x).sig.m E',G:=S.G,sv:=a.tmps.toList++S.sv,rd:=some (w.heap.size+1),nod:=true}:=⟨_,rfl⟩;rw[<- f]at hent;have hNpos:S.N<=(a.tmps.toList++S.sv).length:=by
   rw[qF,vU,hsz0];omega
  have HOr:OkS c Sr:=by
   subst f;exact⟨H.P,H.G,H.K,H.I,H.m,λ_=>hNpos,λh=>(by cases h),H.KP⟩
  have hrr:Sr.rd=some (w.heap.size+1):=by rw[f]
  have hrx:=hround x y j1 (by rw[j2];exact hy);have hlr:(NL pl it.t y (sp.st x)).tm.length=Sr.N:=by
   subst f;show(J0 pl (LG it.t y) (sp.st x).tm).length=S.N;rw[JZ];exact j8
  rw[<- hrr];have hPr:Sr.P=S.P:=by rw[f]
  rw[<- hPr];refine iha Sr _ _ _ HOr hrx hlr (λe s1 hq hl1 a1 w1 hs1=>?_) _ W ⟨D',E',hent⟩;cases e<;>first
   |exact hq.elim
   |skip
  obtain⟨D3,E3,h3⟩:=hs1;have nl3:¬D3 (w.heap.size+1):=λg=>by
   have:=h3.dhi _ g;rw[f]at this;rcases this with g1|g1|g1;exact j6 g1;simp only at g1;omega;exact j7 g1
  have ne3:¬aJ s1.sig.m E3 (w.heap.size+1):=λg0=>by
   have:=(h3.ownAll g0).1;rw[f]at this;rcases this with g4|g4;simp only at g4;omega;exact j7 g4
  have hl3:w1.heap[w.heap.size+1]?=some (.loop (rec .ready none)):=by
   have:=h3.low.block (w.heap.size+1) (by rw[f];exact hlt) (by rw[f];exact j7);rw[this,f];exact j5
  have out3:∀q,q<W.heap.size->¬D' q->¬aJ (sp.st x).sig.m E' q->¬D3 q/\¬aJ s1.sig.m E3 q/\w1.heap[q]?=W.heap[q]?:=λq q1 q2 q3=>by
   refine⟨λg=>?_,λg=>?_,?_⟩;have:=h3.dhi _ g;rw[f]at this;rcases this with g1|g1|g1;exact q2 g1;simp only at g1;omega;exact q3 g1;have:=(h3.ownAll g).1;rw[f]at this;rcases this with g4|g4;simp only at g4;omega;exact q3 g4;have:=h3.low.block q (by rw[f];exact q1) (by rw[f];exact q3);rw[this,f]
  have hdef3:a1.defers=[]:=(h3.df.1.1 (by rw[f])).trans (by rw[f]);have hlt3:w.heap.size+1<w1.heap.size:=(vV.1 hl3).1;have hbr:=run_beginRound (P:=S.P) hl3 (by rw[hrec]);refine⟨_,hPr▸hbr,?_⟩;have h4:=h3.again (.loop {rec .ready none with state:=.busy}) (by rw[f]) hdef3 nl3 ne3;obtain⟨Sq,u⟩:∃Sq:Base,Sq={Sr with w0:=w1.putObj (w.heap.size+1) (.loop {rec .ready none with state:=.busy}),D0:=D3,O:=aJ s1.sig.m E3}:=⟨_,rfl⟩;rw[<- u]at h4;have HOq:OkS c Sq:=by
   rw[u];exact⟨HOr.P,HOr.G,HOr.K,HOr.I,HOr.m,HOr.rd,HOr.nod,HOr.KP⟩
  have hrq:Sq.rd=Sr.rd:=by rw[u]
  have hPq:Sq.P=Sr.P:=by rw[u]
  rw[<- hrq,<- hPq];have hlq:s1.tm.length=Sq.N:=by rw[u];exact hl1
  refine ihb Sq _ _ _ HOq hq hlq (λe s2 hq2 hl2 a2 w2 hs2=>?_) _ _ ⟨D3,E3,h4⟩;obtain⟨D5,E5,h5⟩:=hs2;have nl5:¬D5 (w.heap.size+1):=λg=>by
   have:=h5.dhi _ g;rw[u]at this;rcases this with g1|g1|g1;exact nl3 g1;simp only[World.putObj_size]at g1;omega;exact ne3 g1
  have ne5:¬aJ s2.sig.m E5 (w.heap.size+1):=λg0=>by
   have:=(h5.ownAll g0).1;rw[u]at this;rcases this with g4|g4;simp only[World.putObj_size]at g4;omega;exact ne3 g4
  have hl5:w2.heap[w.heap.size+1]?=some (.loop {rec .ready none with state:=.busy}):=by
   have:=h5.low.block (w.heap.size+1) (by rw[u];simpa using hlt3) (by rw[u];exact ne3);rw[this,u];exact World.putObj_heap_same hlt3
  have out5:∀q,q<W.heap.size->¬D' q->¬aJ (sp.st x).sig.m E' q->q≠w.heap.size+1->¬D5 q/\¬aJ s2.sig.m E5 q/\w2.heap[q]?=W.heap[q]?:=λq q1 q2 q3 q4=>by
   obtain⟨o1,o2,o3⟩:=out3 q q1 q2 q3;have sz1:W.heap.size<=w1.heap.size:=by have:=h3.low.size;rw[f]at this;exact this
   refine⟨λg=>?_,λg=>?_,?_⟩;have:=h5.dhi _ g;rw[u]at this;rcases this with g1|g1|g1;exact o1 g1;simp only[World.putObj_size]at g1;omega;exact o2 g1;have:=(h5.ownAll g).1;rw[u]at this;rcases this with g4|g4;simp only[World.putObj_size]at g4;omega;exact o2 g4;have:=h5.low.block q (by rw[u];simpa using qZ q1 sz1) (by rw[u];exact o2);rw[this,u,<- o3];exact World.putObj_heap_other q4
  have outV:∀q,V q->w.heap.size+1<q/\q<W.heap.size/\¬D5 q/\¬aJ s2.sig.m E5 q/\w2.heap[q]?=W.heap[q]?:=λq g=>by
   obtain⟨v1,v2,v3,v4⟩:=j9 q g;exact⟨v1,v2,out5 q v2 v3 v4 Z⟩
  have keepD:∀j,D' j->w2.heap[j]?=W.heap[j]?:=λj L=>by
   have hbl:j<W.heap.size:=j3.dlt j L;have no1:¬aJ (sp.st x).sig.m E' j:=λg0=>(j3.ownAll g0).2.2 L;have e1:w1.heap[j]?=W.heap[j]?:=by
    have:=h3.low.block j (by rw[f];exact hbl) (by rw[f];exact no1);rw[this,f]
   have hd3:D3 j:=h3.dlo j (by rw[f];exact L);have no3:¬aJ s1.sig.m E3 j:=λg0=>(h3.ownAll g0).2.2 hd3;have hb3:j<w1.heap.size:=h3.dlt j hd3;have e2:w2.heap[j]?=(w1.putObj (w.heap.size+1) (.loop {rec .ready none with state:=.busy})).heap[j]?:=by
    have:=h5.low.block j (by rw[u];simpa using hb3) (by rw[u];exact no3);rw[this,u]
   rw[e2,World.putObj_heap_other (λe=>j6 (by rw[<- e];exact L)),e1]
  have subD:∀j,D' j->D5 j:=λj L=>h5.dlo j (by rw[u];exact h3.dlo j (by rw[f];exact L));have own1:∀j,aJ (sp.st x).sig.m E' j->S.w0.heap.size<=j\/S.O j:=λj g0=>(j3.ownAll g0).1;have hbW:S.w0.heap.size<=W.heap.size:=j3.low.size;have own3:∀j,aJ s1.sig.m E3 j->S.w0.heap.size<=j\/S.O j:=λj g0=>by
   have:=(h3.ownAll g0).1;rw[f]at this;rcases this with g4|g4;simp only at g4;exact .inl Z;exact own1 j g4
  have sz31:W.heap.size<=w1.heap.size:=by have:=h3.low.size;rw[f]at this;exact this
  have sz52:w1.heap.size<=w2.heap.size:=by have:=h5.low.size;rw[u]at this;simpa using this
  have low1:Chg S.O S.w0 w1:=j3.low.step (by have:=h3.low.os;rw[f]at this;exact this) (by have:=h3.low.tape;rw[f]at this;exact this) (by have:=h3.low.output;rw[f]at this;exact this) sz31 λq hq hno=>by
   have:=h3.low.block q (by rw[f];exact qZ hq hbW) (by
    rw[f];intro g;rcases own1 q g with g|g;omega;exact hno g)
   rw[this,f]
  have low2:Chg S.O S.w0 w2:=low1.step (by have:=h5.low.os;rw[u]at this;exact this) (by have:=h5.low.tape;rw[u]at this;exact this) (by have:=h5.low.output;rw[u]at this;exact this) sz52 λq hq hno=>by
   have:=h5.low.block q (by rw[u];simpa using(by omega:q<w1.heap.size)) (by
    rw[u];intro g;rcases own3 q g with g|g;omega;exact hno g)
   rw[this,u];exact World.putObj_heap_other Z
  have dh:∀j,D5 j->S.D0 j\/S.w0.heap.size<=j\/S.O j:=λj L=>by
   have h6:=h5.dhi j L;rw[u]at h6;rcases h6 with g|g|g;have h7:=h3.dhi j g;rw[f]at h7;rcases h7 with g|g|g;exact j3.dhi j g;simp only at g;exact .inr (.inl Z);exact(own1 j g).elim (λg=>.inr (.inl g)) (λg=>.inr (.inr g));simp only[World.putObj_size]at g;exact .inr (.inl Z);exact(own3 j g).elim (λg=>.inr (.inl g)) (λg=>.inr (.inr g))
  have hmarks:Marks S.nod S.w0.heap.size D5 w2 S.gd ({target:=.collected w.heap.size,args:=#[]}::a.defers):=
   ⟨j3.df.1,λd hd=>by
    rcases j3.df.2 d hd with g|⟨q,q1,q2,q3,q4⟩;exact .inl g;refine .inr ?_;exact⟨q,q1,q2,subD q q3,(keepD q q3).trans q4⟩⟩
  have hNS:s2.tm.length=S.N:=by rw[hl2,u,f]
  have hout:aQ S (vD s2).sig {a with defers:={target:=.collected w.heap.size,args:=#[]}::a.defers} w2 D5 E5:=
   by
   have h9:=h5.leaveN (S:=S) (a0:={a with defers:={target:=.collected w.heap.size,args:=#[]}::a.defers}) (by rw[u,f]) (by rw[u,f]) (by rw[u,f]) hsz0 (λj g=>by
    rw[u]at g;rcases g with g|g;simp only[World.putObj_size]at g;exact .inl Z;exact own3 j g) low2 (λj g=>subD j (j3.dlo j g)) dh hmarks
   unfold vD;rw[hNS];exact h9
  have hlun:(vD s2).tm.length=S.N:=by
   have:=zA3 h5.svr;show(s2.sv.take s2.tm.length).length=S.N;have e:s2.sig.sv=s2.sv:=rfl;rw[e]at this;rw[qP,this,hNS,u,f,qF,vU,hsz0];omega
  have hbase2:S.w0.heap.size<=w.heap.size+1:=Z;have hput:=λ(o:Obj)=>hout.putL (l:=w.heap.size+1) o hbase2 nl5 ne5;have hlt5:w.heap.size+1<w2.heap.size:=(vV.1 hl5).1;have sameD:∀(o:Obj) (j:Nat),D' j->(w2.putObj (w.heap.size+1) o).heap[j]?=W.heap[j]?:=λo j L=>by
   rw[World.putObj_heap_other (λe=>j6 (by rw[<- e];exact L))];exact keepD j L
  have szo:∀o:Obj,W.heap.size<=(w2.putObj (w.heap.size+1) o).heap.size:=λo=>by simp;omega
  have sameV:∀(o:Obj) (j:Nat),Dit j\/V j->(w2.putObj (w.heap.size+1) o).heap[j]?=W.heap[j]?:=λo j L=>by
   rcases L with L|L;exact sameD o j (j4 j L);obtain⟨v1,_,_,_,v5⟩:=outV j L;rw[World.putObj_heap_other Z];exact v5
  have fin:∀(jump:Option Code),(Instr.endRound (w.heap.size+1) jump).run S.P w2=.ok (.bool jump.isNone) (w2.putObj (w.heap.size+1) (.loop (rec (if jump.isNone then .ready else .done) jump))):=λjump=>by
   have:=run_endRound (P:=S.P) jump hl5;rw[hrec]at this ⊢;exact this
  have stop:∀cc,((cc=Code.ret/\Q .ret (vD s2))\/∃i,cc=Code.exit i/\Q (.exit i) (vD s2))->
    ∃v w',(Instr.endRound (w.heap.size+1) (some cc)).run S.P w2=.ok v w'/\(W.heap.size<=w'.heap.size/\(∀b,Dit b\/V b->w'.heap[b]?=W.heap[b]?)/\
     ((Ending.returned v=.returned (.bool true)/\J (k+1) w' Dit V)\/(Ending.returned v=.returned (.bool false)/\JX w' Dit V)\/∃ch,Ending.returned v=.panicked ch/\JP ch w' Dit V)):=λcc hcc=>by
   refine⟨_,_,fin (some cc),szo _,sameV _,.inr (.inl ⟨rfl,?_⟩)⟩;rw[hJX];exact⟨cc,vD s2,D5,E5,hcc,hlun,hput _,λj L=>subD j (j4 j L),World.putObj_heap_same hlt5,nl5,ne5,λb g=>by
    obtain⟨v1,v2,v3,v4,_⟩:=outV b g;exact⟨v1,qZ v2 (szo _),v3,v4⟩⟩
  have hPP:Sq.P=S.P:=by rw[hPq,hPr]
  rw[hPP];cases e with
  |normal=>
   obtain⟨z,z1,z2,z3⟩:=hq2;unfold leP at z3;split at z3;case h_2=>exact z3.elim
   rename_i nsz hlez;obtain⟨D6,E6,h6,u6,n6,b6⟩:=ET (hput (.loop (rec .ready none))) hlez (bR z3).1;refine⟨_,_,fin none,szo _,sameV _,.inl ⟨rfl,?_⟩⟩;rw[hJ];refine⟨z,D6,E6,z1,Z,h6,λj L=>u6 j (subD j (j4 j L)),World.putObj_heap_same hlt5,λg=>?_,λg=>ne5 (b6 _ g),?_,λb g=>?_⟩;rcases n6 _ g with g|g;exact nl5 g;exact ne5 g;rw[<- oi hlez];exact hlun;obtain⟨v1,v2,v3,v4,_⟩:=outV b g;refine⟨v1,qZ v2 (szo _),λg2=>?_,λg2=>v4 (b6 _ g2)⟩;rcases n6 _ g2 with g2|g2;exact v3 g2;exact v4 g2
  |ret=>exact stop .ret (.inl ⟨rfl,hq2⟩)|exit i=>exact stop (.exit i) (.inr ⟨i,rfl,hq2⟩)|goto t=>exact hq2.elim|panic ch=>
   refine⟨(h5.df.1.1 (by rw[u,f])).trans (by rw[u,f]),wJ sz31 sz52,λj L=>L.elim (λg=>keepD j (j4 j g)) λg=>(outV j g).2.2.2.2,.inr (.inr ⟨ch,rfl,?_⟩)⟩;rw[hJP];exact⟨vD s2,D5,E5,hq2,hlun,hout,λb g=>by
    obtain⟨v1,v2,v3,v4,_⟩:=outV b g;exact⟨v1,qZ v2 (wJ sz31 sz52),v3,v4⟩⟩
  |outgrown=>exact hq2.elim
 rw[hJ];exact⟨x0,_,E1,i1,i2,hd2,λ_ g=>g,hL1,λg=>hl2 _ g rfl,he2,by rw[<- hlen0];exact hl,λ_ g=>g.elim⟩
 ·
  rintro e W2 (⟨⟨v,rfl⟩,hj⟩|⟨ch,rfl,D2,V2,hj⟩);case inr=>
   rw[hJP]at hj;obtain⟨s2,D',E',q1,q2,q3,_⟩:=hj;exact hR (.panic ch) s2 q1 q2 _ _ ⟨D',E',q3⟩
  rcases hj with⟨D2,hj⟩|⟨D2,hj⟩;rw[hJ]at hj;obtain⟨x,D',E',j1,j2,j3,j4,j5,j6,j7,j8,_⟩:=hj;have hel:=run_endLoop (P:=S.P) j5 (by rw[hrec];simp);refine⟨none,_,(by rw[hrec]at hel;exact hel),?_⟩;exact hR .normal (sp.st x) (hdone x j1 j2) j8 _ _ ⟨D',E',j3.putL _ Z j6 j7⟩;rw[hJX]at hj;obtain⟨cc,s2,D',E',j1,j2,j3,j4,j5,j6,j7,_⟩:=hj;have hel:=run_endLoop (P:=S.P) j5 (by rw[hrec];simp);refine⟨some cc,_,(by rw[hrec]at hel;exact hel),?_⟩;rcases j1 with⟨rfl,hq⟩|⟨i,rfl,hq⟩;exact Wi (F:=Fence.wide) (n:=0) rfl (λ_=>trivial) rfl (wpIn_ret (hR .ret s2 hq j2 _ _ ⟨D',E',j3.putL _ Z j6 j7⟩));exact Wi (F:=Fence.wide) (n:=0) rfl (λ_=>trivial) rfl (wpIn_exit (hR (.exit i) s2 hq j2 _ _ ⟨D',E',j3.putL _ Z j6 j7⟩))
def aQ.slot{S:Base}{s:St}{a:Act}{w:World}{D:Nat->Prop}{E:Nat->Ent}(h:aQ S s.sig a w D E){d:Option Tmp}{v:Value}{x:AV}(i:s.tm.length=S.N)(hd:pI d s.tm.length=true)
  (j:x.rel S.P ⟨w,D,s.sig.m,E⟩ v):aQ S (setSlot d x s).sig (a.put d v) w D E:=by
 have b:∀t,d=some t->t<S.N:=λt e=>by subst e;unfold pI at hd;rw[<- i];simpa using hd
 have r:=h.put (d:=d) (v:=v) (x:=x) b j;have e:(setSlot d x s).sig=⟨upT s.sig.T d x,s.sig.m,s.sig.sv⟩:=by
  unfold St.sig setSlot;congr 1;funext t;cases d with
  |none=>simp[upT]|some d=>
   unfold upT;have f:d<s.tm.length:=by rw[i];exact b d rfl
   by_cases e:t=d;subst e;simp[qA,f];have:¬d=t:=λg=>e g.symm;simp[qA,yK,this,e]
 rw[e];exact r
variable {m:Nat->Option Blk}{ns:List Prop}
def QB{T:Nat->AV}{g:Bool}{o:Op}{r:AH}{b:List Nat}(h:AU c T m g o=some (ns,r,b)):∀d,o≠.defer d:=λd e=>by rw[e]at h;cases h
def LH{T b:Nat->AV}{g:Bool}{o:Op}(h:∀x∈o.operands.toList,evT c.G b x=evT c.G T x):AU c b m g o=AU c T m g o:=by
 unfold AU;split;rename_i x;rw[h x (by simp[Op.operands])];rename_i f args _;have e:lv c b g args.toList=lv c T g args.toList:=by
  unfold lv;apply zK;intro x i;rw[h x (by simp[Op.operands,Call.operands];exact .inr (by simpa using i))]
 rw[e];rfl
variable {σ:Sig}
def Bl(i:c.G=S.G)(h:aQ S σ a w D E):∀{args:List Operand},(∀q∈(lv c σ.T true args).flatMap (·.2),q)->
  zA1 S.P ⟨w,D,σ.m,E⟩ ((lv c σ.T true args).map (·.1)) (args.map a.eval)
 |[],_=>rfl|x::args,f=>by
  have e:=fy h x;rw[<- i]at e;refine⟨_,_,rfl,oR (g:=true) rfl (λq b=>f q ?_) e,Bl i h λq b=>f q ?_⟩;simp only[lv,zO,qAh,qJ];exact .inl b;simp only[lv,zO,qAh,qJ];exact .inr b
def W7{C:Ctx}{a:AV}{v u:Value}(h:valOf a=some v)(b:a.rel P C u):u=v:=by
 unfold valOf at h;split at h;split at h;cases h;simpa only[AV.rel,ag,vH,vW]using b;cases h;cases h;exact b;cases h
def Uo(H:OkS c S)(hd:aQ S σ a w D E){o:Oper}{r:AH}{O:List Nat}(i:AU c σ.T σ.m true o.op=some (ns,r,O))(X:∀q∈ns,q)(V:r.pre)
  (hrk:r.ok=false) {K:Act->World->Prop} (hR:∀w',Sim S (GK O σ) a w'->R (.panic (chainOf r.pan)) a w'):o.wpIn S.F 0 S.P a w K R:=by
 unfold Oper.wpIn;refine⟨λf _=>S.F_fn f,?_⟩;rw[Oper.semAt_eq _ _ _ (QB i)];unfold AU at i;split at i;rename_i x y;split at i;case h_2=>cases i
 rename_i t av ns' hx;split at i;case h_2=>cases i
 rename_i v hv;cases i;have b:=fy hd x;rw[<- H.G]at b;have b:=oR (g:=true) rfl (λq hq=>X q (by rw[hx]at hq;exact hq)) b;rw[hx]at b;obtain⟨u,hu,A⟩:=b;have A:=W7 hv A;subst A;have e:(execOp a.eval o).run S.P w=.halt (.panic (.iface t u)) w:=by
  obtain⟨dst,op,ty,pos,after,guard⟩:=o;simp only at y;subst y;simp only[execOp,hu];rfl
 rw[e];refine hR w ⟨D,E,?_⟩;exact hd.dropped (ns:=[]) ⟨rfl,rfl,rfl,qM _,λ_ _ _=>rfl⟩;rename_i f args at_ y;split at i;case isFalse=>cases i
 rename_i hc;simp only[qC,zB]at hc;obtain⟨_,hgo⟩:=hc;split at i;case h_2=>cases i
 rename_i r' hkp;cases i;have z:=xp (ts:=mh c.P f) (Bl H.G hd X);rw[<- H.P]at z;have j:=BI (cQ σ.m (zA2 (AX c.P (mh c.P f) ((lv c σ.T true args.toList).map (·.1))))) z;have hG0:me S.P ⟨w,D,bN (fq σ.m (cQ σ.m (zA2 (AX c.P (mh c.P f) ((lv c σ.T true args.toList).map (·.1)))))),E⟩ S.G:=me.mono (C:=⟨w,D,σ.m,E⟩) ⟨λ_ g=>g,λ_ _=>rfl⟩ hd.gl;rw[H.P]at j;have L:=H.KP _ _ _ _ (by rw[H.P]at hkp;exact hkp) V hrk w D E (args.toList.map a.eval) hd.dlt (by rw[H.P]at hG0;exact hG0) j (hd.heldOf _);have e:(execOp a.eval o).run S.P w=.ok (.enter f (args.toList.map a.eval).toArray) w:=by
  obtain⟨dst,op,ty,pos,after,guard⟩:=o;simp only at y;subst y;have hg2:=lQ (P:=S.P) (by rw[<- H.P];exact hgo) w (args.map a.eval);have e1:(args.toList.map a.eval).toArray=args.map a.eval:=by rw[toList_map]
  rw[e1];simp only[execOp,resolve,Act.eval,Deferred.ofValue,wV,yN,vZ,invoke,Array.append_empty,jA];simpa using hg2
 rw[e,Oper.uponIn_enter];refine⟨λh=>(by rw[S.F_depth]at h;cases h),zC8 (L.mono λe2 w2 he=>?_)⟩;obtain⟨rfl,hb⟩:=he;refine hR w2 ⟨D,E,?_⟩;rw[H.P];exact hd.dropped hb;cases i
variable {ops:Array Oper}{Q:Exit->St->Prop}
def KZ(H:OkS c S)(hR:∀e s',Q e s'->s'.tm.length=S.N->∀a w,Sim S s'.sig a w->R e a w):
  ∀(os:List Oper) (j:Nat) (s:St),(∀i o,os[i]?=some o->ops[j+i]?=some o)->gS c ops os s Q->s.tm.length=S.N->∀a w,Sim S s.sig a w->wpOpsIn S.F 0 S.P ops R (List.range' j os.length) a w
 |[],j,s,_,h,hl,a,w,hs=>by
  simp only[xR,qCh,wpOpsIn];simp only[gS]at h;exact hR _ s h hl a w hs
 |o::os,j,s,O,h,hl,a,w,hs=>by
  have ho:ops[j]?=some o:=by simpa using O 0 o rfl
  have hos:∀i o',os[i]?=some o'->ops[j+1+i]?=some o':=λi o' hi=>by
   have:=O (i+1) o' (by simpa using hi);rw[show j+1+i=j+(i+1) by omega];exact this
  obtain⟨D,E,hd⟩:=hs;simp only[gS]at h;split at h;case h_2=>exact h.elim
  rename_i g A;have y:=GH (o:=o) hd A;rw[wO,qBp,wpOpsIn_cons];have step:∀{q:Rec},iZ c.P c.G c.K (c.mt o) ops s.nx s.sig o=some q->iJ q s.tm.length=true/\Iz q s=true->all q.need (gS c ops os (cV q s) Q)->wpOpIn S.F 0 S.P ops R j (wpOpsIn S.F 0 S.P ops R (List.range' (j+1) os.length)) a w:=by
   intro q u v hall;obtain⟨V,b⟩:=bR hall;have hdst:∀d,o.dst=some d->d<S.N:=by
    intro d hdd;have e:q.dst=o.dst:=by
     unfold iZ at u;split at u;split at u;unfold LQ at u;split at u;cases u;rfl;split at u;cases u;rfl;cases u;cases u;cases u
    have x:=v.1;unfold iJ at x;simp only[qC]at x;have:=x.1;rw[e,hdd]at this;rw[<- hl];simpa using this
   have hq':iZ S.P S.G c.K (c.mt o) ops s.nx s.sig o=some q:=by rw[<- H.P,<- H.G];exact u
   have:=qb (Q:=R) H.K ho ⟨D,E,hd⟩ hdst hq' V (λk hk=>by
    have:=v.2;unfold Iz at this;rw[hk]at this;exact Nr this)
   refine wpOpIn_mono (λa' w' h'=>KZ H hR os (j+1) _ hos b (by rw[jU];exact hl) a' w' ?_) this;show Sim S (cV q s).sig a' w';rw[iL v.1];exact h'
  split at h
  ·
   rename_i ns r nms z;obtain⟨h1,x⟩:=h;by_cases L:g=true/\r.ok=false;obtain⟨rfl,hrk⟩:=L;obtain⟨V,hpre,b⟩:=bR (h1 rfl);have b:=b hrk;unfold wpOpIn;rw[ho];simp only;rw[y];simp only[kT];exact Uo H hd z V hpre hrk λw' hs'=>hR _ (GI nms s) b hl a w' (by rw[JD];exact hs');have hgo:g=true->r.ok=true:=λe=>by
    cases hk:r.ok with
    |true=>rfl|false=>exact(L ⟨e,hk⟩).elim
   split at x
   ·
    rename_i T;have hg:g=false:=by
     cases hg:g with
     |false=>rfl|true=>
      have:=hgo hg;unfold AU at z;split at z;split at z;split at z;cases z;cases this;cases z;cases z;rename_i hop;rw[hop]at T;cases T;cases z
    split at x;rename_i X;have:o.guard=none:=by simpa using X
    rw[this]at A;simp only[RO,wQ]at A;rw[<- A]at hg;cases hg;obtain⟨hdo,b⟩:=x;unfold wpOpIn;rw[ho];simp only;rw[y,hg];simp only[wG,xW];refine⟨λf _=>S.F_fn f,KZ H hR os (j+1) _ hos (b hg) (by simp[setSlot];split<;>simp[hl]) _ _ ⟨D,E,?_⟩⟩;exact hd.slot hl hdo ⟨λe=>(by rw[hg]at e;cases e),λ_=>rfl⟩
   split at x;case h_2=>exact x.elim
   rename_i q u;split at x;case isFalse=>exact x.elim
   rename_i v;exact step u v (x hgo)
  split at h;case h_2=>exact h.elim
  rename_i q u;split at h;case isFalse=>exact h.elim
  rename_i v;exact step u v h
def Hk(t:Nat):∀(ts:List Tmp) (l:List AV),(pX ts l).getD t .top=if t∈ts then .top else l.getD t .top
 |[],l=>by simp[pX]|d::ts,l=>by
  simp only[pX];rw[Hk t ts];by_cases b:t∈ts;rw[if_pos b,if_pos (zA _ b)];rw[if_neg b];by_cases g:t=d;subst g;rw[if_pos wF,qA,yK];split;split<;>rfl;rename_i f;exact(f rfl).elim;rw[if_neg (λh=>(zH.1 h).elim g b),qA,qA,qBr (λe=>g e.symm)]
def aB0(h:Sim S σ a w)(hm:σ.m=s.sig.m)(b:σ.sv=s.sig.sv)(f:∀t,σ.T t=s.sig.T t\/t∈ops.toList.filterMap (·.dst)):Sim S (aAN ops s).sig a w:=by
 obtain⟨D,E,hd⟩:=h;obtain⟨T,m,sv⟩:=σ;simp only at hm b f;subst hm b;refine⟨D,E,hd.sz,hd.df,λt=>?_,hd.bl,hd.own,hd.inj,hd.low,hd.dlt,hd.dlo,hd.dhi,hd.gl,hd.svr,hd.pv⟩;show((pX (ops.toList.filterMap (·.dst)) s.tm).getD t .top).rel S.P _ _;rw[Hk];split;trivial;rename_i g;rcases f t with e|e;have i:=hd.tm t;show(s.sig.T t).rel S.P ⟨w,D,s.sig.m,E⟩ _;rw[<- e];exact i;exact(g e).elim
def lC{K:Kt}{mt:Bool}{nx:Nat}{o:Oper}{r:Rec}(h:iZ P G K mt ops nx σ o=some r):r.dst=o.dst/\∀x∈o.op.operands.toList,∀t,x=.tmp t->t∈r.reads:=by
 have this:r.dst=o.dst/\r.reads=o.op.operands.toList.flatMap R7++vk ops o.guard:=by
  unfold iZ at h;split at h;split at h;unfold LQ at h;split at h;cases h;exact⟨rfl,rfl⟩;split at h;cases h;exact⟨rfl,rfl⟩;cases h;cases h;cases h
 refine⟨this.1,λx b t e=>?_⟩;rw[this.2,qJ,xH];exact .inl ⟨x,b,by rw[e];simp[R7]⟩
def BE{rs:List Rec}{done:Nat->Bool}{dsts:List Tmp}{s:Sig}:∀n,(∀j r,j<n->done j=true->rs[j]?=some r->r.upd=[]/\∀d,r.dst=some d->d∈dsts)->
  (fY (cq rs) done n s).m=s.m/\(fY (cq rs) done n s).sv=s.sv/\∀t,(fY (cq rs) done n s).T t=s.T t\/t∈dsts
 |0,_=>⟨rfl,rfl,λ_=>.inl rfl⟩|n+1,h=>by
  obtain⟨g,f,b⟩:=BE n λj r x=>h j r Z;simp only[fY];split;rename_i hd;unfold cq;cases i:rs[n]? with
  |none=>exact⟨g,f,b⟩|some r=>
   obtain⟨v,u⟩:=h n r Z hd i;simp only[fC];refine⟨?_,f,λt=>?_⟩;rw[v];exact g;unfold upT;split;rename_i e;exact .inr (u t e.symm);exact b t
  exact⟨g,f,b⟩
def Zp(H:OkS c S)(hR:∀e s',Q e s'->s'.tm.length=S.N->∀a w,Sim S s'.sig a w->R e a w)
  (h:aDa c ops s Q) (hl:s.tm.length=S.N) (hs:Sim S s.sig a w) {id:Nat}:(Code.region id ops true).wpIn S.F 0 S.P R a w:=by
 unfold aDa at h;split at h;case h_2=>exact h.elim
 rename_i rs o hrs z;obtain⟨q,hq⟩:∃q,q=ops.toList.findIdx (BW c):=⟨_,rfl⟩;obtain⟨y,htbl⟩:∃y,y=jV [] ops.toList:=⟨_,rfl⟩;rw[<- hq]at z;rw[<- hq,<- htbl]at h;split at h;case isFalse=>exact h.elim
 rename_i hc;obtain⟨k1,k2,k3,k4⟩:=hc;split at h;case h_2=>exact h.elim
 rename_i ns r A hp;obtain⟨hlive,h⟩:=bR h;obtain⟨hns,hpre,hyes,hno⟩:=bR h;obtain⟨b,hat⟩:=wq hrs;have b:rs.length=ops.size:=by simpa using b
 have f:∀(j:Nat) o r,ops[j]?=some o->rs[j]?=some r->iZ S.P S.G c.K (aDS c.mb o) ops (ie rs s j).nx (ie rs s j).sig o=some r/\iJ r s.tm.length=true:=λj o r z g=>by
  have:=hat j o r (by simpa using z) g;rw[H.P,H.G]at this;exact this
 have hok:∀(j:Nat) (r:Rec),rs[j]?=some r->iJ r s.tm.length=true:=λj r g=>by
  have V:j<ops.size:=by rw[<- b];exact(qG.1 g).1
  exact(f j _ r (yB V) g).2
 have hqs:q<ops.size:=(vV.1 z).1;have hdst:∀(j:Nat) o r,ops[j]?=some o->rs[j]?=some r->∀d,o.dst=some d->d<S.N:=λj o r z g d hd=>by
  obtain⟨h1,h2⟩:=f j o r z g;unfold iJ at h2;simp only[qC]at h2;have h3:=h2.1;rw[(lC h1).1,hd]at h3;rw[<- hl];simpa using h3
 cases hk:r.ok with
 |true=>
  obtain⟨g1,g2⟩:=bR (hyes hk);have HR:Ko S c.K c.mb ops s rs:=⟨b,f,hl,λj r g p hp=>g1 p (xH.2 ⟨r,yA g,hp⟩)⟩;exact xd H.K H.m HR k1 k2 hs.draw λa' w' hs'=>hR _ _ g2 ((l9 _ _ _).trans hl) a' w' hs'
 |false=>
  refine wpIn_region_any H.m ?_;have u:∀j r,rs[j]?=some r->j≠q->(y.getD j 0).testBit q=false->(∀p∈r.need,p)/\r.upd=[]:=λj r g O hb=>by
   have V:=(qG.1 g).1;have e:rs.getD j dflt=r:=zq g;refine⟨λp hp=>hlive p ?_,?_⟩;unfold IJ;rw[xH];refine⟨j,by simpa using V,?_⟩;rw[if_neg (by simp[O];rw[<- xJ]at hb;simpa using hb),e];exact hp;unfold Up at k3;rw[qQ]at k3;have:=k3 j (by simpa using V);rw[e]at this;simp only[yH,kN,O,false_or,hb,wG,qC,zB]at this;exact this.1
  refine GL (mb:=c.mb) (k:=0) (q:=q) H.K b hl (λj o r z g hlv=>⟨(f j o r z g).1,hdst j o r z g,(u j r g hlv.2.1 hlv.2.2).1⟩) hok k1 k2 (λh=>absurd hqs Z)
   (λ_ n listed a1 w1 hsz hqf hcnt hanc hdesc hrok hsim=>?_) ops.size (Array.replicate ops.size false) a _ (by simp) ?_ (λi hi=>Z) (λ_=>?_) (λi j hij V hb hl=>?_) ?_
  .obtain⟨rq,hrq⟩:∃rq,rs[q]?=some rq:=⟨_,qB (by rw[b];exact hqs)⟩;obtain⟨g1,_⟩:=hrok rq hrq;have hgd:o.guard=none:=by simpa using k4
   obtain⟨D,E,hd⟩:=(show Sim _ _ _ _ from hsim);unfold wpOpIn;rw[z];simp only;rw[show Region.wanted o (yielded ops a1.tmps)=true by unfold Region.wanted;rw[hgd]];simp only[kT];have L:=BE (rs:=rs) (done:=λi=>listed.getD i false) (dsts:=ops.toList.filterMap (·.dst)) (s:=s.sig) ops.size λj r V X g=>by
    have hoj:=yB V;have O:j≠q:=λe=>by subst e;rw[hqf]at X;cases X
    have hb:(y.getD j 0).testBit q=false:=by
     cases hb:(y.getD j 0).testBit q with
     |false=>rfl|true=>have:=hdesc j hb V;rw[this]at X;cases X
    refine⟨(u j r g O hb).2,λd hd=>?_⟩;rw[(lC (f j _ r hoj g).1).1]at hd;rw[List.mem_filterMap];exact⟨ops[j],by simp,hd⟩
   have hp':AU c (fY (cq rs) (λi=>listed.getD i false) ops.size s.sig).T (fY (cq rs) (λi=>listed.getD i false) ops.size s.sig).m true o.op=some (ns,r,A):=by
    rw[<- hp,L.1];refine LH λx hx=>?_;cases x with
    |tmp t=>exact yS KN (g1 t ((lC (f q o rq z hrq).1).2 _ hx t rfl))|_=>rfl
   refine Uo H hd hp' hns hpre hk λw' hs'=>hR _ (aAN ops (GI A s)) (hno hk) ?_ a1 w' (aB0 hs' ?_ ?_ ?_);have:∀(ts:List Tmp) (l:List AV),(pX ts l).length=l.length:=by
    intro ts;induction ts with
    |nil=>intro l;rfl
    |cons d ts ih=>intro l;simp[pX,ih]
   exact(this _ _).trans hl;rw[JD];show(λk=>if A.contains k=true then none else _)=(λk=>if A.contains k=true then none else _);rw[L.1];exact L.2.1;exact L.2.2
  exact wJ (zU _ _) (by simp);rw[qV];simp[hqs];rw[qV]at hl;simp[V]at hl;have:∀n,fY (cq rs) (λi=>(Array.replicate ops.size false).getD i false) n s.sig=s.sig:=by
   intro n;induction n with
   |zero=>rfl|succ n ih=>
    have:(Array.replicate ops.size false).getD n false=false:=by
     rw[qV];cases h:(Array.replicate ops.size false)[n]? with
     |none=>rfl|some v=>rw[yY]at h;split at h<;>cases h;rfl
    simp only[fY,this,wG,xW];exact ih
  rw[this];exact hs.draw
def mB{A:Ann}:∀(x:Code),aHc c A x
 |.skip,S,s,Q,R,H,h,L,u,a,w,v=>ZV (wpIn_skip (u _ s h L a w v))|.region id ops draw,S,s,Q,R,H,h,L,u,a,w,v=>by
  have key:∀s1:St,s1.tm.length=S.N->Sim S s1.sig a w->aGM c ops draw s1 Q->At S.P S.rd (Code.region id ops draw) R a w:=by
   intro s1 hl1 hs1 j;unfold aGM at j;split at j;split at j;rename_i X;subst X;exact ZV (Zp H u j hl1 hs1);rename_i X;have X:draw=false:=by simpa using X
   subst X;refine ZV (wpIn_region ?_);have:=KZ H u ops.toList 0 s1 (λi o ho=>by simpa using ho) j hl1 a w hs1;rw[qBn];simpa using this;unfold aDP at j;split at j;rename_i ns s' he;obtain⟨g1,g2⟩:=bR j;exact ZV (oF H.P H.G H.K H.m he g1 hl1 hs1 λV w' f=>u _ s' g2 ((Uf he).trans hl1) V w' f);exact j.elim
  unfold ev at h;split at h;exact key s L v h;rename_i s1 _;split at h;rename_i ms hms;obtain⟨g1,g2⟩:=bR h;exact key s1 ((oi hms).symm.trans L) (ND v hms g1) g2;exact h.elim
 |.seq x y,S,s,Q,R,H,h,L,u,a,w,v=>by
  have key:ev c A x s (λe s'=>match e with|.normal=>ev c A y s' Q|e=>Q e s')->At S.P S.rd (Code.seq x y) R a w:=by
   intro h;refine As (mB x S s _ _ H h L (λe s' T r V w' f=>?_) a w v);cases e<;>first
    |exact mB y S s' Q R H T r u V w' f
    |exact u _ s' T r V w' f
  unfold ev at h;split at h;split at h;rename_i sp _;obtain⟨h1,h2⟩:=h;refine As (mB x S s _ _ H h1 L (λe s' T r V w' f=>?_) a w v);cases e<;>first
   |(obtain⟨y',g1,g2⟩:=T;exact mB y S _ Q R H (h2 y' g1) ((yh g2).symm.trans r) u V w' (F3 g2 f))
   |exact u _ s' T r V w' f
  exact key h;exact key h
 |.cond t x y,S,s,Q,R,H,h,L,u,a,w,v=>by
  unfold ev at h;split at h;case h_2=>exact h.elim
  rename_i ns b hc;obtain⟨g1,g2,g3⟩:=bR h;obtain⟨D,E,hs0⟩:=id v;have O:=fy hs0 t;rw[<- H.G]at O;have hb:a.eval t=.bool b:=by
   unfold Zy at hc;split at hc;rename_i b' hv;cases hc;rw[hv]at O;simpa only[AV.rel,ag,vH,vW]using O;rename_i g b' hv;cases hc;rw[hv]at O;have hg:g=true:=g1 _ (by simp);simpa only[AV.rel,ag,vH,vW]using O.1 hg;cases hc
  exact aDr hb (λe=>mB x S s Q R H (g2 e) L u a w v) (λe=>mB y S s Q R H (g3 e) L u a w v)
 |.block id x,S,s,Q,R,H,h,L,u,a,w,v=>by
  unfold ev at h;refine PS (mB x S s _ _ H h L (λe s' T r V w' f=>?_) a w v);cases e<;>first
   |exact u _ s' T r V w' f
   |(rename_i id';simp only[Exit.inBlock];simp only at T;split at T;rename_i e;rw[if_pos e];exact u _ s' T r V w' f;rename_i e;rw[if_neg e];exact u _ s' T r V w' f)
 |.exit id,S,s,Q,R,H,h,L,u,a,w,v=>ZV (wpIn_exit (u _ s h L a w v))|.ret,S,s,Q,R,H,h,L,u,a,w,v=>ZV (wpIn_ret (u _ s h L a w v))|.loop x,S,s,Q,R,H,h,L,u,a,w,v=>by
  unfold ev at h;split at h;case h_2=>exact h.elim
  split at h;case h_2=>exact h.elim
  rename_i sp _;obtain⟨⟨x0,i1,i2⟩,h2⟩:=h;refine at_loop (λn a w=>∃y,sp.inv y/\sp.μ y=n/\(sp.st y).tm.length=S.N/\Sim S (sp.st y).sig a w) (sp.μ x0) ⟨x0,i1,rfl,(yh i2).symm.trans L,F3 i2 v⟩ ?_;rintro n a w ⟨y,j1,rfl,j2,j3⟩;refine mB x S (sp.st y) _ _ H (Z2 h2 y j1) j2 (λe s' T r V w' f=>?_) a w j3;cases e<;>first
   |(obtain⟨z,k1,k2,k3⟩:=T;exact⟨sp.μ z,k3,z,k1,rfl,(yh k2).symm.trans r,F3 k2 f⟩)
   |exact u _ s' T r V w' f
 |.rangeFunc g ps x y,S,s,Q,R,H,h,L,u,a,w,v=>aE7 (mB x) (mB y) S s Q R H h L u a w v|.scope x,S,s,Q,R,H,h,L,u,a,w,v=>by
  unfold ev at h;refine ZU (mB x S s _ _ H h L (λe s' T r V w' f=>?_) a w v);cases e<;>first
   |exact T.elim
   |exact u _ s' T r V w' f
 |.label _,S,s,Q,R,H,h,L,u,a,w,v=>by
  unfold ev at h;exact ZV (wpIn_label (u _ s h L a w v))
 |.goto _,S,s,Q,R,_,h,_,_,_,_,_=>by unfold ev at h;exact h.elim|.refuse _,S,s,Q,R,_,h,_,_,_,_,_=>by unfold ev at h;exact h.elim
end Go.Eng
