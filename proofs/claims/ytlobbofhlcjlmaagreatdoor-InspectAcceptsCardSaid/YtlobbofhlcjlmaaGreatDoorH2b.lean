/- PeH2, PeH2b -/
import Derived.Test.YtlobbofhlcjlmaaGreatDoorH1
set_option linter.unusedSimpArgs false
set_option linter.unusedVariables false
/- The engine, part 2: the state and what it says of frame and world; how it goes on. -/
namespace Go.Eng
open Go.RowKit
def dV (P:Program) (C:Ctx) (t:Ty) (xs:List t.den) (ov:List (Nat×AV)) (raw:List Value):Prop :=
 ∀ (i:Nat) (y:t.den),xs[i]?=some y→match ov.lookup i with
  | none=>aF C.w C.D t y ((raw.drop (i * t.sz)).take t.sz)
  | some a=>t.sz=1∧∃ u,raw[i]?=some u∧u.oneCell'=true∧a.rel P C u
def aFF (P:Program) (base:Nat) (C:Ctx) (e:Ent) (eli:TypeId) (t:Ty) (i:Nat) (row:List t.den) (u:Value):Prop :=
 ∃ ao cap r2,u=.slice ao row.length cap∧(ao=none→cap=0)∧(0 < row.length→ao=some ⟨(e.rb i).1,0,none⟩∧C.w.ownsRow base eli 1 u row.length r2∧dV P C t row [] r2)
def aPj (P:Program) (base:Nat) (C:Ctx) (e:Ent) (eli:TypeId) (t:Ty) (xss:List (List t.den)) (ov:List (Nat×AV)) (raw:List Value):Prop :=
 ∀ (i:Nat) (row:List t.den),xss[i]?=some row→∃ u,raw[i]?=some u∧match ov.lookup i with
  | none=>aFF P base C e eli t i row u
  | some a=>u.oneCell'=true∧a.rel P C u
def dY (m:Nat→Option Blk) (E:Nat→Ent) (nm i b:Nat):Prop:=∃ (el eli:TypeId) (t:Ty) (xss:List (List t.den)) (ov:List (Nat×AV)) (row:List t.den),
 m nm=some (.mat el eli t xss ov)∧ov.lookup i=none∧xss[i]?=some row∧0 < row.length∧b=((E nm).rb i).1
structure jO (lo:Nat) (O:Nat→Prop) (m:Nat→Option Blk) (E:Nat→Ent) (n:Nat) (D:Nat→Prop):Prop where
 own:∀ nm i b,dY m E nm i b→(lo≤b∨O b)∧b < n∧¬ D b
 ent:∀ nm i b,dY m E nm i b→∀ nm' blk,m nm'=some blk→(E nm').isNil=false→(E nm').b≠b
 inj:∀ nm i b nm' j,dY m E nm i b→dY m E nm' j b→nm=nm'∧i=j
def iL (P:Program) (base:Nat) (C:Ctx) (e:Ent):Blk→Prop
 | .var cs=>e.isNil=false∧∃ us el,C.w.heap[e.b]?=some (.cells us el (0,0))∧AV.relL P C cs us.toList
 | .buf el t xs ov=>∃ raw,C.w.ownsRow base el t.sz (e.handle xs.length) xs.length raw∧dV P C t xs ov raw
 | .mat el eli t xss ov=>t.sz=1∧∃ raw,C.w.ownsRow base el 1 (e.handle xss.length) xss.length raw∧aPj P base C e eli t xss ov raw
structure Sig where
 T:Nat→AV
 m:Nat→Option Blk
 sv:List AV
structure Base where
 P:Program
 w0:World
 D0:Nat→Prop
 N:Nat
 O:Nat→Prop
 G:List (Nat×AV)
 sv:List Value
 rd:Option Nat
 nod:Bool
 gd:List Deferred:=[]
def Marks (nod:Bool) (base:Nat) (D:Nat→Prop) (w:World) (gd ds:List Deferred):Prop :=
 ((nod=true→ds=gd)∧(∃ ms,ds=ms ++ gd)∧ds.Pairwise fun d e=>d.target≠e.target)∧∀ d ∈ ds,(d ∈ gd∧∀ k,d.target≠.collected k)∨∃ k,d={ target:=.collected k,args:=#[] }∧base≤k∧D k∧w.heap[k]?=some (.deferred (some []))
structure Chg (O:Nat→Prop) (w w':World):Prop where
 os:w'.os=w.os
 tape:w'.tape=w.tape
 output:w'.output=w.output
 size:w.heap.size≤w'.heap.size
 block:∀ k,k < w.heap.size→¬ O k→w'.heap[k]?=w.heap[k]?
theorem Chg.refl (O:Nat→Prop) (w:World):Chg O w w:=⟨rfl,rfl,rfl,Nat.le_refl _,fun _ _ _=>rfl⟩
theorem Chg.step {O:Nat→Prop} {a b c:World} (h:Chg O a b) (ho:c.os=b.os) (ht:c.tape=b.tape) (hu:c.output=b.output) (hs:b.heap.size≤c.heap.size)
  (hb:∀ k,k < a.heap.size→¬ O k→c.heap[k]?=b.heap[k]?):Chg O a c :=
 ⟨ho.trans h.os,ht.trans h.tape,hu.trans h.output,Nat.le_trans h.size hs,fun k hk hno=>(hb k hk hno).trans (h.block k hk hno)⟩
theorem Chg.below {O:Nat→Prop} {a b c:World} (h:Chg O a b) (k:Below b.heap.size b c):Chg O a c :=
 h.step k.os k.tape k.output k.size fun i hi _=>k.block i (Nat.lt_of_lt_of_le hi h.size)
def rU (P:Program) (C:Ctx) (G:List (Nat×AV)):Prop:=∀ p ∈ G,p.2.names=[]∧p.2.rel P C (.pointer (some ⟨p.1,0,none⟩))
theorem rU.mono {P:Program} {C C':Ctx} {G:List (Nat×AV)} (L:Later C C') (h:rU P C G):rU P C' G:=fun p hp =>
 ⟨(h p hp).1,AV.rel_mono L (fun nm hm=>by rw [(h p hp).1] at hm;cases hm) (h p hp).2⟩
structure aZ (S:Base) (σ:Sig) (a:Act) (w:World) (D:Nat→Prop) (E:Nat→Ent):Prop where
 sz:a.tmps.size=S.N
 df:Marks S.nod S.w0.heap.size D w S.gd a.defers
 tm:∀ t,(σ.T t).rel S.P ⟨w,D,σ.m,E⟩ (a.tmps.getD t undef)
 bl:∀ nm b,σ.m nm=some b→iL S.P 0 ⟨w,D,σ.m,E⟩ (E nm) b
 own:∀ nm b,σ.m nm=some b→(E nm).isNil=false→(S.w0.heap.size≤(E nm).b∨S.O (E nm).b)∧(E nm).b < w.heap.size∧¬ D (E nm).b
 inj:∀ nm nm' b b',σ.m nm=some b→σ.m nm'=some b'→(E nm).isNil=false→(E nm').isNil=false→(E nm).b=(E nm').b→nm=nm'
 low:Chg S.O S.w0 w
 dlt:∀ b,D b→b < w.heap.size
 dlo:∀ b,S.D0 b→D b
 dhi:∀ b,D b→S.D0 b∨S.w0.heap.size≤b∨S.O b
 gl:rU S.P ⟨w,D,σ.m,E⟩ S.G
 svr:AV.relL S.P ⟨w,D,σ.m,E⟩ σ.sv S.sv
 pv:jO S.w0.heap.size S.O σ.m E w.heap.size D
def Sim (S:Base) (σ:Sig) (a:Act) (w:World):Prop:=∃ D E,aZ S σ a w D E
def upT (T:Nat→AV) (d:Option Tmp) (v:AV):Nat→AV:=fun t=>if some t=d then v else T t
def upM (m:Nat→Option Blk) (u:List (Nat×Blk)):Nat→Option Blk:=fun nm=>match u.lookup nm with | some b=>some b | none=>m nm
def Unm (nm:Nat) (σ:Sig):Prop:=σ.m nm=none∧(∀ t,nm ∉ (σ.T t).names)∧(∀ nm' b,σ.m nm'=some b→nm ∉ b.names)∧nm ∉ AV.namesL σ.sv
theorem aHk {ov:List (Nat×AV)} {i:Nat} {a:AV} (ho:ov.lookup i=some a) {nm:Nat} (h:nm ∈ a.names):nm ∈ AV.namesL (ov.map (·.2)):=by
 induction ov with
 | nil=>simp at ho
 | cons p ov ih =>
  obtain ⟨j,b⟩:=p
  simp only [List.lookup] at ho
  simp only [List.map_cons,AV.namesL,List.mem_append]
  split at ho
  ·cases ho;exact .inl h
  ·exact .inr (ih ho)
theorem bT {P:Program} {C C':Ctx} (L:Later C C') {t:Ty} {xs:List t.den} {ov:List (Nat×AV)} {raw:List Value}
  (hn:∀ nm ∈ AV.namesL (ov.map (·.2)),vJ C C' nm) (h:dV P C t xs ov raw):dV P C' t xs ov raw:=by
 intro i y hy
 have g:=h i y hy
 cases ho:ov.lookup i with
 | none=>rw [ho] at g;exact aH L.D L.w g
 | some a =>
  rw [ho] at g
  obtain ⟨g1,u,g2,g4,g3⟩:=g
  exact ⟨g1,u,g2,g4,AV.rel_mono L (fun nm h=>hn nm (aHk ho h)) g3⟩
def rowsOf (e:Ent) (b:Blk) (i k:Nat):Prop:=∃ (el eli:TypeId) (t:Ty) (xss:List (List t.den)) (ov:List (Nat×AV)) (row:List t.den),
 b=.mat el eli t xss ov∧ov.lookup i=none∧xss[i]?=some row∧0 < row.length∧k=(e.rb i).1
theorem aY {m:Nat→Option Blk} {E:Nat→Ent} {nm i k:Nat}:dY m E nm i k↔∃ b,m nm=some b∧rowsOf (E nm) b i k:=by
 constructor
 ·rintro ⟨el,eli,t,xss,ov,row,h1,h2⟩;exact ⟨_,h1,el,eli,t,xss,ov,row,rfl,h2⟩
 ·rintro ⟨b,h1,el,eli,t,xss,ov,row,rfl,h2⟩;exact ⟨el,eli,t,xss,ov,row,h1,h2⟩
theorem jW {w w':World} {base:Nat} {el:TypeId} {sz n:Nat} {v:Value} {raw:List Value} (hv:∀ g n' c,v=.slice (some ⟨g,0,none⟩) n' c→w'.heap[g]?=w.heap[g]?)
  (h:w.ownsRow base el sz v n raw):w'.ownsRow base el sz v n raw:=by
 refine ⟨h.1,?_⟩
 rcases h.2 with h | ⟨g,cap,cur,e,hg,hh,r⟩
 ·exact .inl h
 ·exact .inr ⟨g,cap,cur,e,hg,(hv g n cap e).trans hh,r⟩
theorem aFa {e:Ent} {n g n' c:Nat} (h:e.handle n=.slice (some ⟨g,0,none⟩) n' c):e.isNil=false∧g=e.b:=by
 unfold Ent.handle at h
 cases hn:e.isNil with
 | true=>rw [hn] at h;cases h
 | false =>
  rw [hn] at h
  simp at h
  exact ⟨rfl,h.1.symm⟩
theorem iL.mono {P:Program} {base:Nat} {C C':Ctx} (L:Later C C') {e:Ent} {b:Blk} (hn:∀ nm ∈ b.names,vJ C C' nm)
  (hw:e.isNil=false→C'.w.heap[e.b]?=C.w.heap[e.b]?) (hr:∀ i k,rowsOf e b i k→C'.w.heap[k]?=C.w.heap[k]?) (h:iL P base C e b):iL P base C' e b:=by
 cases b with
 | var cs =>
  obtain ⟨h0,us,el,h1,h2⟩:=h
  exact ⟨h0,us,el,(hw h0).trans h1,AV.relL_mono L hn h2⟩
 | buf el t xs ov =>
  obtain ⟨raw,h1,h2⟩:=h
  refine ⟨raw,⟨h1.1,?_⟩,bT L hn h2⟩
  rcases h1.2 with h | ⟨g,cap,cur,hv,hg,hh,r⟩
  ·exact .inl h
  ·refine .inr ⟨g,cap,cur,hv,hg,?_,r⟩
   unfold Ent.handle at hv
   split at hv
   ·cases hv
   ·rename_i hi
    simp only [Value.slice.injEq,Option.some.injEq,Addr.mk.injEq,and_true,true_and] at hv
    rw [← hv.1]
    rw [hw (by simpa using hi),hv.1]
    exact hh
 | mat el eli t xss ov =>
  obtain ⟨h0,raw,h1,h2⟩:=h
  refine ⟨h0,raw,?_,fun i row hi=>?_⟩
  ·refine jW (fun g' n' c h=>?_) h1
   obtain ⟨q1,rfl⟩:=aFa h
   exact hw q1
  ·obtain ⟨u,g1,g2⟩:=h2 i row hi
   refine ⟨u,g1,?_⟩
   cases ho:ov.lookup i with
   | some a =>
    rw [ho] at g2
    exact ⟨g2.1,AV.rel_mono L (fun nm h=>hn nm (aHk ho h)) g2.2⟩
   | none =>
    rw [ho] at g2
    obtain ⟨ao,cap,r2,q1,q0,q2⟩:=g2
    refine ⟨ao,cap,r2,q1,q0,fun hp=>?_⟩
    obtain ⟨k1,k2,k3⟩:=q2 hp
    refine ⟨k1,jW (fun g' n' c h=>?_) k2,bT L (fun nm h=>by cases h) k3⟩
    rw [q1,k1] at h
    simp at h
    rw [← h.1]
    exact hr i _ ⟨el,eli,t,xss,ov,row,rfl,ho,hi,hp,rfl⟩
theorem aZ.put {S:Base} {σ:Sig} {a:Act} {w:World} {D:Nat→Prop} {E:Nat→Ent} (h:aZ S σ a w D E) {d:Option Tmp} {v:Value} {x:AV}
  (hd:∀ t,d=some t→t < S.N) (hx:x.rel S.P ⟨w,D,σ.m,E⟩ v):aZ S ⟨upT σ.T d x,σ.m,σ.sv⟩ (a.put d v) w D E:=by
 cases d with
 | none=>exact ⟨h.sz,h.df,fun t=>by simpa [upT,Act.put] using h.tm t,h.bl,h.own,h.inj,h.low,h.dlt,h.dlo,h.dhi,h.gl,h.svr,h.pv⟩
 | some d =>
  refine ⟨by simpa [Act.put] using h.sz,h.df,fun t=>?_,h.bl,h.own,h.inj,h.low,h.dlt,h.dlo,h.dhi,h.gl,h.svr,h.pv⟩
  have hlt:d < a.tmps.size:=by rw [h.sz];exact hd d rfl
  by_cases e:t=d
  ·subst e
   have hgt:(a.tmps.setIfInBounds t v).getD t undef=v:=by simp [Array.getD,hlt]
   simp only [upT,if_true,Act.put]
   rw [hgt];exact hx
  ·have:(a.tmps.setIfInBounds d v).getD t undef=a.tmps.getD t undef:=by
    simp only [Array.getD_eq_getD_getElem?,Array.getElem?_setIfInBounds]
    rw [if_neg (fun h=>e h.symm)]
   simp only [upT,Option.some.injEq,e,if_false,Act.put]
   rw [this];exact h.tm t
def Outcome (S:Base) (σ:Sig) (a:Act) (x:AV) (v:Value) (w:World):Prop :=
 ∃ D E,aZ S σ a w D E∧x.rel S.P ⟨w,D,σ.m,E⟩ v
theorem aZ.go {S:Base} {σ:Sig} {a:Act} {w w':World} {D D':Nat→Prop} {E E':Nat→Ent} {m':Nat→Option Blk} (h:aZ S σ a w D E)
  (L:Later ⟨w,D,σ.m,E⟩ ⟨w',D',m',E'⟩)
  (hn:∀ nm,vJ ⟨w,D,σ.m,E⟩ ⟨w',D',m',E'⟩ nm∨Unm nm σ)
  (hb:∀ nm b,m' nm=some b→(σ.m nm=some b∧E' nm=E nm∧((E nm).isNil=false→w'.heap[(E nm).b]?=w.heap[(E nm).b]?)∧∀ i k,rowsOf (E nm) b i k→w'.heap[k]?=w.heap[k]?)∨iL S.P 0 ⟨w',D',m',E'⟩ (E' nm) b)
  (ho:∀ nm b,m' nm=some b→(E' nm).isNil=false→(S.w0.heap.size≤(E' nm).b∨S.O (E' nm).b)∧(E' nm).b < w'.heap.size∧¬ D' (E' nm).b)
  (hi:∀ nm nm' b b',m' nm=some b→m' nm'=some b'→(E' nm).isNil=false→(E' nm').isNil=false→(E' nm).b=(E' nm').b→nm=nm')
  (hl:Chg S.O S.w0 w') (h1:∀ b,D' b→b < w'.heap.size) (h2:∀ b,D' b→D b∨S.w0.heap.size≤b∨S.O b) (hp:jO S.w0.heap.size S.O m' E' w'.heap.size D') :
  aZ S ⟨σ.T,m',σ.sv⟩ a w' D' E':=by
 have hnm:∀ (l:List Nat),(∀ nm ∈ l,Unm nm σ→False)→∀ nm ∈ l,vJ ⟨w,D,σ.m,E⟩ ⟨w',D',m',E'⟩ nm :=
  fun l hu nm hm=>(hn nm).resolve_right (hu nm hm)
 refine ⟨h.sz,⟨h.df.1,fun d hd=>?_⟩,fun t=>?_,fun nm b hm=>?_,ho,hi,hl,h1,fun b hb=>L.D b (h.dlo b hb),fun b hb=>?_,h.gl.mono L,AV.relL_mono L (hnm _ (fun nm hm hu=>hu.2.2.2 hm)) h.svr,hp⟩
 ·rcases h.df.2 d hd with g | ⟨k,g1,g2,g3,g4⟩
  ·exact .inl g
  ·exact .inr ⟨k,g1,g2,L.D k g3,(L.w k g3).trans g4⟩
 ·exact AV.rel_mono L (hnm _ (fun nm hm hu=>hu.2.1 t hm)) (h.tm t)
 ·rcases hb nm b hm with ⟨g1,g2,g3,g4⟩ | g
  ·rw [g2]
   exact iL.mono L (hnm _ (fun nm' hm' hu=>hu.2.2.1 nm b g1 hm')) g3 g4 (h.bl nm b g1)
  ·exact g
 ·rcases h2 b hb with g | g
  ·exact h.dhi b g
  ·exact .inr g
theorem jO.step {lo:Nat} {O:Nat→Prop} {m m':Nat→Option Blk} {E E':Nat→Ent} {n n':Nat} {D D':Nat→Prop} (h:jO lo O m E n D)
  (hm:∀ nm i b,dY m' E' nm i b→dY m E nm i b) (hn:n≤n')
  (hD:∀ b,D' b→D b∨n≤b∨∃ nm blk,m nm=some blk∧(E nm).isNil=false∧b=(E nm).b)
  (hE:∀ nm blk,m' nm=some blk→(E' nm).isNil=false→n≤(E' nm).b∨∃ nm2 blk2,m nm2=some blk2∧(E nm2).isNil=false∧(E' nm).b=(E nm2).b):jO lo O m' E' n' D':=by
 refine ⟨fun nm i b hb=>?_,fun nm i b hb nm' blk hm' hi e=>?_,fun nm i b nm' j h1 h2=>h.inj nm i b nm' j (hm _ _ _ h1) (hm _ _ _ h2)⟩
 ·obtain ⟨g1,g2,g3⟩:=h.own nm i b (hm _ _ _ hb)
  refine ⟨g1,Nat.lt_of_lt_of_le g2 hn,fun hd=>?_⟩
  rcases hD b hd with q | q | ⟨nm2,blk,q1,q2,q3⟩
  ·exact g3 q
  ·omega
  ·exact h.ent nm i b (hm _ _ _ hb) nm2 blk q1 q2 q3.symm
 ·obtain ⟨g1,g2,g3⟩:=h.own nm i b (hm _ _ _ hb)
  rcases hE nm' blk hm' hi with q | ⟨nm2,blk2,q1,q2,q3⟩
  ·omega
  ·exact h.ent nm i b (hm _ _ _ hb) nm2 blk2 q1 q2 (q3.symm.trans e)
theorem jO.lt {lo:Nat} {O:Nat→Prop} {m:Nat→Option Blk} {E:Nat→Ent} {n:Nat} {D:Nat→Prop} (h:jO lo O m E n D) {nm i k:Nat} {b:Blk} (hm:m nm=some b) (hr:rowsOf (E nm) b i k):k < n :=
 (h.own nm i k (aY.2 ⟨b,hm,hr⟩)).2.1
theorem aZ.world {S:Base} {σ:Sig} {a:Act} {w w':World} {D D':Nat→Prop} {E:Nat→Ent} (h:aZ S σ a w D E)
  (hw:Below w.heap.size w w') (hD:∀ b,D' b↔D b∨(lI w w' b∧D' b)) (h1:∀ b,D' b→b < w'.heap.size):aZ S σ a w' D' E:=by
 have hs:=h.low.size
 refine h.go (m':=σ.m) ⟨fun b hb=>(hD b).2 (.inl hb),fun b hb=>hw.block b (h.dlt b hb)⟩ (fun nm=>.inl fun b hb=>⟨b,hb,rfl,Nat.le_refl _,fun _=>rfl⟩)
  (fun nm b hm=>.inl ⟨hm,rfl,fun hi=>hw.block _ (h.own nm b hm hi).2.1,fun i k hr=>hw.block _ (h.pv.lt hm hr)⟩) (fun nm b hm hi=>?_) h.inj (h.low.below hw) h1 (fun b hb=>?_)
  (h.pv.step (fun _ _ _ g=>g) hw.size (fun b hb=>((hD b).1 hb).imp id fun g=>.inl g.1.1) fun nm blk hm hi=>.inr ⟨nm,blk,hm,hi,rfl⟩)
 ·obtain ⟨g1,g2,g3⟩:=h.own nm b hm hi
  refine ⟨g1,Nat.lt_of_lt_of_le g2 hw.size,fun hd=>?_⟩
  rcases (hD _).1 hd with g | g
  ·exact g3 g
  ·exact Nat.lt_irrefl _ (Nat.lt_of_lt_of_le g2 g.1.1)
 ·rcases (hD b).1 hb with g | g
  ·exact .inl g
  ·exact .inr (.inl (Nat.le_trans hs g.1.1))
end Go.Eng

/- The engine, part 2b: entries, up to what they say; names told anew. -/
namespace Go.Eng
open Go.RowKit
def aD5 (e e':Ent):Prop:=e.isNil=e'.isNil∧(e.isNil=false→e.b=e'.b∧e.cap=e'.cap)
theorem aD5.handle {e e':Ent} (h:aD5 e e') (n:Nat):e.handle n=e'.handle n:=by
 unfold Ent.handle
 rw [← h.1]
 cases hn:e.isNil with
 | true=>rfl
 | false=>obtain ⟨g1,g2⟩:=h.2 hn;simp [g1,g2]
theorem aM9 {e e':Ent} {n:Nat} (h:e.handle n=e'.handle n):aD5 e e':=by
 unfold Ent.handle at h
 cases hn:e.isNil <;> cases hn':e'.isNil <;> simp [hn,hn'] at h
 ·exact ⟨hn.trans hn'.symm,fun _=>h⟩
 ·exact ⟨hn.trans hn'.symm,fun e=>by rw [hn] at e;cases e⟩
mutual
def AV.simple:AV→Bool
 | .agg cs=>AV.simpleL cs
 | .tup cs=>AV.simpleL cs
 | .fn _ cs=>AV.simpleL cs
 | .ifc _ a=>a.simple
 | .grd _ a=>a.simple
 | .ipv a=>a.simple
 | .ips cs=>AV.simpleL cs
 | .sel _ cs=>AV.simpleL cs
 | .row _ _ _ _=>false
 | .rptr _ _ _ _ _=>false
 | .pin _ a=>a.simple
 | _=>true
def AV.simpleL:List AV→Bool
 | []=>true
 | a :: as=>a.simple && AV.simpleL as
end
def Blk.simple:Blk→Bool
 | .var cs=>AV.simpleL cs
 | .buf _ _ _ ov=>AV.simpleL (ov.map (·.2))
 | .mat _ _ _ _ _=>false
mutual
theorem AV.rel_ent {P:Program} {w:World} {D:Nat→Prop} {m:Nat→Option Blk} {E E':Nat→Ent} {s:Bool} (L:∀ nm b,m nm=some b→aD5 (E nm) (E' nm)∧(s=true→(E nm).rb=(E' nm).rb)):∀ {a:AV} {v:Value},(s=false→a.simple=true)→a.rel P ⟨w,D,m,E⟩ v→a.rel P ⟨w,D,m,E'⟩ v
 | .top,_,_,_=>trivial
 | .dat _ _,_,_,h=>h
 | .agg cs,_,hs,h=>by obtain ⟨us,h1,h2⟩:=h;exact ⟨us,h1,AV.relL_ent L (by simpa [AV.simple] using hs) h2⟩
 | .tup cs,_,hs,h=>by obtain ⟨us,h1,h2⟩:=h;exact ⟨us,h1,AV.relL_ent L (by simpa [AV.simple] using hs) h2⟩
 | .val _,_,_,h=>h
 | .buf nm n,v,_,h=>fun b hb=>by
  obtain ⟨g1,g2⟩:=h b hb
  exact ⟨g1,fun e=>(g2 e).trans ((L nm b hb).1.handle n)⟩
 | .ptr nm g i c,v,_,h=>fun b hb=>by
  obtain ⟨g1,g2⟩:=h b hb
  refine ⟨g1,fun e=>?_⟩
  obtain ⟨q1,q2,q3⟩:=g2 e
  obtain ⟨r1,r2⟩:=(L nm b hb).1
  refine ⟨q1,r1.symm.trans q2,?_⟩
  show v=.pointer (some ⟨(E' nm).b,_,none⟩)
  rw [← (r2 q2).1];exact q3
 | .ip t x,_,_,h=>h
 | .fn f caps,_,hs,h=>by obtain ⟨us,h1,h2⟩:=h;exact ⟨us,h1,AV.relL_ent L (by simpa [AV.simple] using hs) h2⟩
 | .clo1 a r pre g,_,_,h=>h
 | .clo2 a b r pre g,_,_,h=>h
 | .ifc t a,_,hs,h=>by obtain ⟨u,h1,h2⟩:=h;exact ⟨u,h1,AV.rel_ent L (by simpa [AV.simple] using hs) h2⟩
 | .grd g a,_,hs,h=>⟨fun hg=>AV.rel_ent L (by simpa [AV.simple] using hs) (h.1 hg),h.2⟩
 | .ipv a,_,hs,h=>by
  obtain ⟨b,off,u,h1,h2,h3,h5⟩:=h
  exact ⟨b,off,u,h1,h2,h3,AV.rel_ent L (by simpa [AV.simple] using hs) h5⟩
 | .ips cs,_,hs,h=>by
  obtain ⟨b,off,us,h1,h2,h3,h5⟩:=h
  exact ⟨b,off,us,h1,h2,h3,AV.relL_ent L (by simpa [AV.simple] using hs) h5⟩
 | .ia t xs,_,_,h=>h
 | .yld _,_,_,h=>h
 | .view nm n,v,_,h=>fun b hb=>by
  obtain ⟨g1,g2⟩:=h b hb
  refine ⟨g1,fun e=>?_⟩
  obtain ⟨q1,c,q2,q3⟩:=g2 e
  obtain ⟨r1,r2⟩:=(L nm b hb).1
  refine ⟨r1.symm.trans q1,c,q2,?_⟩
  show v=.slice (some ⟨(E' nm).b,0,none⟩) n c
  rw [← (r2 q1).1];exact q3
 | .av _ _,_,_,h=>h
 | .sel i cs,_,hs,h=>by
  obtain ⟨us,h1,h2⟩:=h
  exact ⟨us,AV.relL_ent L (by simpa [AV.simple] using hs) h1,h2⟩
 | .row nm g i k,v,hs,h=>fun b hb=>by
  cases s with
  | false=>exact absurd (hs rfl) (by simp [AV.simple])
  | true =>
   obtain ⟨g1,g2⟩:=h b hb
   refine ⟨g1,fun e=>?_⟩
   have:=(L nm b hb).2 rfl
   show ∃ ao cap,v=.slice ao k cap∧(0 < k→ao=some ⟨((E' nm).rb i).1,0,none⟩)
   rw [← this];exact g2 e
 | .rptr nm g i k j,v,hs,h=>fun b hb=>by
  cases s with
  | false=>exact absurd (hs rfl) (by simp [AV.simple])
  | true =>
   obtain ⟨g1,g2⟩:=h b hb
   refine ⟨g1,fun e=>?_⟩
   have:=(L nm b hb).2 rfl
   show j < k∧v=.pointer (some ⟨((E' nm).rb i).1,j,none⟩)
   rw [← this];exact g2 e
 | .pin u a,_,hs,h=>⟨h.1,AV.rel_ent L (by simpa [AV.simple] using hs) h.2⟩
theorem AV.relL_ent {P:Program} {w:World} {D:Nat→Prop} {m:Nat→Option Blk} {E E':Nat→Ent} {s:Bool} (L:∀ nm b,m nm=some b→aD5 (E nm) (E' nm)∧(s=true→(E nm).rb=(E' nm).rb)):∀ {as:List AV} {us:List Value},(s=false→AV.simpleL as=true)→AV.relL P ⟨w,D,m,E⟩ as us→AV.relL P ⟨w,D,m,E'⟩ as us
 | [],_,_,h=>h
 | a :: as,_,hs,h=>by
  obtain ⟨u,us',h1,h2,h3⟩:=h
  exact ⟨u,us',h1,AV.rel_ent L (fun g=>(by have:=hs g;simp [AV.simpleL] at this;exact this.1)) h2,AV.relL_ent L (fun g=>(by have:=hs g;simp [AV.simpleL] at this;exact this.2)) h3⟩
end
theorem aKt {ov:List (Nat×AV)} (h:AV.simpleL (ov.map (·.2))=true) {i:Nat} {a:AV} (ho:ov.lookup i=some a):a.simple=true:=by
 induction ov with
 | nil=>cases ho
 | cons p ov ih =>
  simp only [List.map_cons,AV.simpleL,Bool.and_eq_true] at h
  obtain ⟨k,v⟩:=p
  simp only [List.lookup] at ho
  split at ho
  ·cases ho;exact h.1
  ·exact ih h.2 ho
theorem iL.ent {P:Program} {base:Nat} {w:World} {D:Nat→Prop} {m:Nat→Option Blk} {E E':Nat→Ent} {s:Bool} (L:∀ nm b,m nm=some b→aD5 (E nm) (E' nm)∧(s=true→(E nm).rb=(E' nm).rb)) {e e':Ent} (he:aD5 e e'∧(s=true→e.rb=e'.rb)) {b:Blk}
  (hs:s=false→b.simple=true) (h:iL P base ⟨w,D,m,E⟩ e b):iL P base ⟨w,D,m,E'⟩ e' b:=by
 cases b with
 | var cs =>
  obtain ⟨h0,us,el,h1,h2⟩:=h
  exact ⟨he.1.1.symm.trans h0,us,el,by rw [← (he.1.2 h0).1];exact h1,AV.relL_ent L (by simpa [Blk.simple] using hs) h2⟩
 | buf el t xs ov =>
  obtain ⟨raw,h1,h2⟩:=h
  refine ⟨raw,by rw [← he.1.handle];exact h1,fun i y hy=>?_⟩
  have g:=h2 i y hy
  cases ho:ov.lookup i with
  | none=>rw [ho] at g;exact g
  | some a =>
   rw [ho] at g
   obtain ⟨g1,u,g2,g4,g3⟩:=g
   exact ⟨g1,u,g2,g4,AV.rel_ent L (fun q=>aKt (by simpa [Blk.simple] using hs q) ho) g3⟩
 | mat el eli t xss ov =>
  cases s with
  | false=>exact absurd (hs rfl) (by simp [Blk.simple])
  | true =>
   obtain ⟨h0,raw,h1,h2⟩:=h
   refine ⟨h0,raw,by rw [← he.1.handle];exact h1,fun i row hi=>?_⟩
   obtain ⟨u,g1,g2⟩:=h2 i row hi
   refine ⟨u,g1,?_⟩
   cases ho:ov.lookup i with
   | some a =>
    rw [ho] at g2
    exact ⟨g2.1,AV.rel_ent L (fun q=>by cases q) g2.2⟩
   | none =>
    rw [ho] at g2
    obtain ⟨ao,cap,r2,q1,q0,q2⟩:=g2
    exact ⟨ao,cap,r2,q1,q0,fun hp=>by rw [← he.2 rfl];exact q2 hp⟩
mutual
def oL:AV→AV
 | .buf _ _=>.top
 | .view _ _=>.top
 | .ptr _ _ _ _=>.top
 | .row _ _ _ _=>.top
 | .rptr _ _ _ _ _=>.top
 | .agg cs=>.agg (aAB cs)
 | .tup cs=>.tup (aAB cs)
 | .fn f cs=>.fn f (aAB cs)
 | .ipv a=>.ipv (oL a)
 | .ips cs=>.ips (aAB cs)
 | .ifc t a=>.ifc t (oL a)
 | .grd g a=>.grd g (oL a)
 | .sel i cs=>.sel i (aAB cs)
 | .pin u a=>.pin u (oL a)
 | a=>a
def aAB:List AV→List AV
 | []=>[]
 | a :: as=>oL a :: aAB as
end
mutual
theorem AV.rel_forg {P:Program} {C:Ctx}:∀ {a:AV} {v:Value},a.rel P C v→(oL a).rel P C v
 | .top,_,h=>h
 | .dat _ _,_,h=>h
 | .agg cs,_,h=>by obtain ⟨us,h1,h2⟩:=h;exact ⟨us,h1,AV.relL_forg h2⟩
 | .tup cs,_,h=>by obtain ⟨us,h1,h2⟩:=h;exact ⟨us,h1,AV.relL_forg h2⟩
 | .val _,_,h=>h
 | .buf _ _,_,_=>trivial
 | .view _ _,_,_=>trivial
 | .ptr _ _ _ _,_,_=>trivial
 | .row _ _ _ _,_,_=>trivial
 | .rptr _ _ _ _ _,_,_=>trivial
 | .ip _ _,_,h=>h
 | .fn f caps,_,h=>by obtain ⟨us,h1,h2⟩:=h;exact ⟨us,h1,AV.relL_forg h2⟩
 | .clo1 _ _ _ _,_,h=>h
 | .clo2 _ _ _ _ _,_,h=>h
 | .ifc t a,_,h=>by obtain ⟨u,h1,h2⟩:=h;exact ⟨u,h1,AV.rel_forg h2⟩
 | .grd g a,_,h=>⟨fun hg=>AV.rel_forg (h.1 hg),h.2⟩
 | .ipv a,_,h=>by obtain ⟨b,off,u,h1,h2,h3,h5⟩:=h;exact ⟨b,off,u,h1,h2,h3,AV.rel_forg h5⟩
 | .ips cs,_,h=>by obtain ⟨b,off,us,h1,h2,h3,h5⟩:=h;exact ⟨b,off,us,h1,h2,h3,AV.relL_forg h5⟩
 | .ia _ _,_,h=>h
 | .yld _,_,h=>h
 | .av _ _,_,h=>h
 | .sel i cs,_,h=>by obtain ⟨us,h1,h2⟩:=h;exact ⟨us,AV.relL_forg h1,h2⟩
 | .pin u a,_,h=>⟨h.1,AV.rel_forg h.2⟩
theorem AV.relL_forg {P:Program} {C:Ctx}:∀ {as:List AV} {us:List Value},AV.relL P C as us→AV.relL P C (aAB as) us
 | [],_,h=>h
 | a :: as,_,h=>by
  obtain ⟨u,us',h1,h2,h3⟩:=h
  exact ⟨u,us',h1,AV.rel_forg h2,AV.relL_forg h3⟩
end
mutual
theorem jT:∀ (a:AV),(oL a).names=[]
 | .top | .dat _ _ | .val _ | .buf _ _ | .view _ _ | .ptr _ _ _ _ | .row _ _ _ _ | .rptr _ _ _ _ _ | .ip _ _ | .clo1 _ _ _ _ | .clo2 _ _ _ _ _ | .ia _ _ | .yld _ | .av _ _=>rfl
 | .agg cs=>by simp only [oL,AV.names,iY]
 | .tup cs=>by simp only [oL,AV.names,iY]
 | .fn _ cs=>by simp only [oL,AV.names,iY]
 | .ifc _ a=>by simp only [oL,AV.names,jT]
 | .grd _ a=>by simp only [oL,AV.names,jT]
 | .ipv a=>by simp only [oL,AV.names,jT]
 | .ips cs=>by simp only [oL,AV.names,iY]
 | .sel _ cs=>by simp only [oL,AV.names,iY]
 | .pin _ a=>by simp only [oL,AV.names,jT]
theorem iY:∀ (as:List AV),AV.namesL (aAB as)=[]
 | []=>rfl
 | a :: as=>by simp only [aAB,AV.namesL,jT,iY,List.append_nil]
end
mutual
def aQI (nx:Nat):AV→AV
 | .buf _ n=>.buf nx n
 | .view _ n=>.view nx n
 | .ptr _ g i c=>.ptr nx g i c
 | .agg cs=>.agg (aQH nx cs)
 | .tup cs=>.tup (aQH nx cs)
 | .fn f cs=>.fn f (aQH nx cs)
 | .ifc t a=>.ifc t (aQI nx a)
 | .grd g a=>.grd g (aQI nx a)
 | .ipv a=>.ipv (aQI nx a)
 | .ips cs=>.ips (aQH nx cs)
 | .sel i cs=>.sel i (aQH nx cs)
 | .row _ g i k=>.row nx g i k
 | .rptr _ g i k j=>.rptr nx g i k j
 | .pin u a=>.pin u (aQI nx a)
 | a=>a
def aQH (nx:Nat):List AV→List AV
 | []=>[]
 | a :: as=>aQI nx a :: aQH nx as
end
mutual
theorem AV.rel_ren {P:Program} {w:World} {D:Nat→Prop} {m m':Nat→Option Blk} {E E':Nat→Ent} {k nx:Nat} (hm:m' nx=m k) (hE:E' nx=E k):∀ {a:AV} {v:Value},(∀ x ∈ a.names,x=k)→a.rel P ⟨w,D,m,E⟩ v→(aQI nx a).rel P ⟨w,D,m',E'⟩ v
 | .top,_,_,_=>trivial
 | .dat _ _,_,_,h=>h
 | .agg cs,_,hn,h=>by obtain ⟨us,h1,h2⟩:=h;exact ⟨us,h1,AV.relL_ren hm hE (by simpa [AV.names] using hn) h2⟩
 | .tup cs,_,hn,h=>by obtain ⟨us,h1,h2⟩:=h;exact ⟨us,h1,AV.relL_ren hm hE (by simpa [AV.names] using hn) h2⟩
 | .val _,_,_,h=>h
 | .buf nm n,v,hn,h=>fun b hb=>by
  have e:=hn nm (by simp [AV.names])
  subst e
  have hb':m nm=some b:=hm.symm.trans hb
  obtain ⟨g1,g2⟩:=h b hb'
  refine ⟨g1,fun e=>?_⟩
  show v=(E' nx).handle n
  rw [hE];exact g2 e
 | .view nm n,v,hn,h=>fun b hb=>by
  have e:=hn nm (by simp [AV.names])
  subst e
  have hb':m nm=some b:=hm.symm.trans hb
  obtain ⟨g1,g2⟩:=h b hb'
  refine ⟨g1,fun e=>?_⟩
  show (E' nx).isNil=false∧∃ c,n≤c∧v=.slice (some ⟨(E' nx).b,0,none⟩) n c
  rw [hE];exact g2 e
 | .ptr nm g i c,v,hn,h=>fun b hb=>by
  have e:=hn nm (by simp [AV.names])
  subst e
  have hb':m nm=some b:=hm.symm.trans hb
  obtain ⟨g1,g2⟩:=h b hb'
  refine ⟨g1,fun e=>?_⟩
  show i < g∧(E' nx).isNil=false∧v=.pointer (some ⟨(E' nx).b,i * b.es + c,none⟩)
  rw [hE];exact g2 e
 | .ip t x,_,_,h=>h
 | .fn f caps,_,hn,h=>by obtain ⟨us,h1,h2⟩:=h;exact ⟨us,h1,AV.relL_ren hm hE (by simpa [AV.names] using hn) h2⟩
 | .clo1 a r pre g,_,_,h=>h
 | .clo2 a b r pre g,_,_,h=>h
 | .ifc t a,_,hn,h=>by obtain ⟨u,h1,h2⟩:=h;exact ⟨u,h1,AV.rel_ren hm hE (by simpa [AV.names] using hn) h2⟩
 | .grd g a,_,hn,h=>⟨fun hg=>AV.rel_ren hm hE (by simpa [AV.names] using hn) (h.1 hg),h.2⟩
 | .ipv a,_,hn,h=>by
  obtain ⟨b,off,u,h1,h2,h3,h5⟩:=h
  exact ⟨b,off,u,h1,h2,h3,AV.rel_ren hm hE (by simpa [AV.names] using hn) h5⟩
 | .ips cs,_,hn,h=>by
  obtain ⟨b,off,us,h1,h2,h3,h5⟩:=h
  exact ⟨b,off,us,h1,h2,h3,AV.relL_ren hm hE (by simpa [AV.names] using hn) h5⟩
 | .ia t xs,_,_,h=>h
 | .yld _,_,_,h=>h
 | .av _ _,_,_,h=>h
 | .sel i cs,_,hn,h=>by
  obtain ⟨us,h1,h2⟩:=h
  exact ⟨us,AV.relL_ren hm hE (by simpa [AV.names] using hn) h1,h2⟩
 | .row nm g i kk,v,hn,h=>fun b hb=>by
  have e:=hn nm (by simp [AV.names])
  subst e
  have:=h b (hm.symm.trans hb)
  refine ⟨this.1,fun e=>?_⟩
  show ∃ ao cap,v=.slice ao kk cap∧(0 < kk→ao=some ⟨((E' nx).rb i).1,0,none⟩)
  rw [hE];exact this.2 e
 | .rptr nm g i kk j,v,hn,h=>fun b hb=>by
  have e:=hn nm (by simp [AV.names])
  subst e
  have:=h b (hm.symm.trans hb)
  refine ⟨this.1,fun e=>?_⟩
  show j < kk∧v=.pointer (some ⟨((E' nx).rb i).1,j,none⟩)
  rw [hE];exact this.2 e
 | .pin u a,_,hn,h=>⟨h.1,AV.rel_ren hm hE (by simpa [AV.names] using hn) h.2⟩
theorem AV.relL_ren {P:Program} {w:World} {D:Nat→Prop} {m m':Nat→Option Blk} {E E':Nat→Ent} {k nx:Nat} (hm:m' nx=m k) (hE:E' nx=E k):∀ {as:List AV} {us:List Value},(∀ x ∈ AV.namesL as,x=k)→AV.relL P ⟨w,D,m,E⟩ as us→AV.relL P ⟨w,D,m',E'⟩ (aQH nx as) us
 | [],_,_,h=>h
 | a :: as,_,hn,h=>by
  obtain ⟨u,us',h1,h2,h3⟩:=h
  simp only [AV.namesL,List.mem_append] at hn
  exact ⟨u,us',h1,AV.rel_ren hm hE (fun x hx=>hn x (.inl hx)) h2,AV.relL_ren hm hE (fun x hx=>hn x (.inr hx)) h3⟩
end
end Go.Eng
