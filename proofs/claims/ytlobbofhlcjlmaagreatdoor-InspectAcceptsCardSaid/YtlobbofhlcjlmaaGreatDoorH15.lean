/- The engine, part 15: code, evaluated to what is to be shown. -/
import Derived.Test.YtlobbofhlcjlmaaGreatDoorH14
import Derived.Sort.LoopGhostIn
import Derived.RangeFuncFrom
set_option linter.unusedSimpArgs false
set_option linter.unusedVariables false
namespace Go.Eng
open Go.RowKit
structure Spec where
 α:Type
 inv:α→Prop
 st:α→St
 μ:α→Nat
structure Ann where
 loop:Nat→St→Option Spec
 pre:Nat→St→Option St
 cut:Nat→St→Option Spec
def all:List Prop→Prop→Prop
 | [],q=>q
 | p :: ps,q=>p∧all ps q
theorem dO:∀ {l:List Prop} {q:Prop},all l q→(∀ p ∈ l,p)∧q
 | [],_,h=>⟨fun _ h=>absurd h List.not_mem_nil,h⟩
 | p :: ps,q,h=>by
  obtain ⟨g1,g2⟩:=dO h.2
  refine ⟨fun r hr=>?_,g2⟩
  rcases List.mem_cons.1 hr with e | e
  ·exact e ▸ h.1
  ·exact g1 r e
def leP (s s':St):Prop:=match aLV s s' with
 | some ns=>all ns True
 | none=>False
def jD:Code→Option Nat
 | .region id _ _=>some id
 | .seq a b=>match jD a with | some i=>some i | none=>jD b
 | .cond _ a b=>match jD a with | some i=>some i | none=>jD b
 | .block _ b=>jD b
 | .loop b=>jD b
 | .scope b=>jD b
 | .rangeFunc _ _ a b=>match jD a with | some i=>some i | none=>jD b
 | _=>none
def dstsOf:Code→List Tmp
 | .region _ ops _=>ops.toList.filterMap (·.dst)
 | .seq a b=>dstsOf a ++ dstsOf b
 | .cond _ a b=>dstsOf a ++ dstsOf b
 | .block _ b=>dstsOf b
 | .loop b=>dstsOf b
 | .scope b=>dstsOf b
 | _=>[]
def wC:List Tmp→List AV→List AV
 | [],l=>l
 | t :: ts,l=>wC ts (l.set t .top)
def aSF:AV→AV
 | .val (.tuple _)=>.top
 | .grd _ _=>.top
 | a=>a
def aHz (b:Code) (s:St):St:={ s with tm:=wC (dstsOf b) (s.tm.map aSF) }
def aTj (b:Code) (s:St):St:={ aHz b s with tm:=(aHz b s).tm ++ s.tm }
def aVw (n:Nat) (s:St):St:={ s with tm:=s.tm.take n }
def aTk (A:Ann) (id:Nat) (b:Code) (s:St):Option Spec:=match A.loop (id + 1000000) (aTj b s) with
 | some sp=>some { α:=sp.α,inv:=sp.inv,st:=fun x=>aVw s.tm.length (sp.st x),μ:=sp.μ }
 | none=>A.loop id (aHz b s)
def aOd (b:Bool) (p q:Prop):Prop:=(b=true→p)∧(b=false→q)
def aOc:AV→Option (List Prop×Bool)
 | .dat .bool b=>some ([],b)
 | .grd g (.dat .bool b)=>some ([g=true],b)
 | _=>none
def aRH (c:Cfg) (ops:Array Oper) (draw:Bool) (s:St) (Q:St→Prop):Prop:=match aTf c ops draw s with
 | some (ns,s')=>all ns (Q s')
 | none=>False
def yY {α:Type} (xs:List α) (k:Nat) (x:α):Prop:=xs[k]?=some x
def setSlot (d:Option Tmp) (v:AV) (s:St):St:={ s with tm:=match d with | some d=>s.tm.set d v | none=>s.tm }
def vT (d:Option Tmp) (n:Nat):Bool:=match d with | some d=>decide (d < n) | none=>true
def aES (r:Rec) (s:St):Bool:=match r.new with | some k=>unB k s | none=>true
def valOf:AV→Option Value
 | .dat t x=>match t,x with
  | .int k,x=>some (.int k x)
  | _,_=>none
 | .val v=>some v
 | _=>none
def aQ0:Op→Bool
 | .panic _=>true
 | _=>false
def aCH (c:Cfg) (o:Oper):Bool:=match o.op with
 | .panic _=>true
 | .call ⟨.value (.func f),_,_⟩=>c.pf f
 | _=>false
def nV (c:Cfg) (T:Nat→AV) (g:Bool) (args:List Operand):List (AV×List Prop):=args.map fun x=>ug g (evT c.G T x)
def aCc (c:Cfg) (T:Nat→AV) (m:Nat→Option Blk) (g:Bool) (o:Op):Option (List Prop×aC1×List Nat):=match o with
 | .panic x=>match ug g (evT c.G T x) with
  | (.ifc t a,ns)=>match valOf a with
   | some v=>some (ns,⟨True,false,.iface t v⟩,[])
   | none=>none
  | _=>none
 | .call ⟨.value (.func f),args,_⟩=>if c.pf f && goes c.P f then
   match c.KP f (aCf c.P (pR c.P f) ((nV c T g args.toList).map (·.1))) (iU m (fH m (AV.namesL (aCf c.P (pR c.P f) ((nV c T g args.toList).map (·.1)))))) with
   | some r=>some ((nV c T g args.toList).flatMap (·.2),r,fH m (AV.namesL (aCf c.P (pR c.P f) ((nV c T g args.toList).map (·.1)))))
   | none=>none
   else none
 | _=>none
def aDM (ns:List Nat) (s:St):St:={ s with mem:=s.mem.filter fun p=>!ns.contains p.1 }
def aDN (ns:List Nat) (σ:Sig):Sig:=⟨σ.T,fun k=>if ns.contains k=true then none else σ.m k,σ.sv⟩
theorem sK (ns:List Nat) (k:Nat):∀ m:Mem,(m.filter fun p=>!ns.contains p.1).lookup k=if ns.contains k=true then none else m.lookup k
 | []=>by simp
 | p :: m=>by
  obtain ⟨q,b⟩:=p
  simp only [List.filter_cons]
  by_cases hq:ns.contains q=true
  ·simp only [hq,Bool.not_true,Bool.false_eq_true,if_false]
   rw [sK ns k m]
   by_cases e:k=q
   ·subst e;rw [if_pos hq,if_pos hq]
   ·have:(k == q)=false:=by simpa using e
    simp only [List.lookup,this]
  ·have hq':ns.contains q=false:=by simpa using hq
   simp only [hq',Bool.not_false,if_true,List.lookup]
   by_cases e:k=q
   ·subst e;rw [if_neg hq];simp
   ·have:(k == q)=false:=by simpa using e
    simp only [this]
    exact sK ns k m
theorem aFl (ns:List Nat) (s:St):(aDM ns s).sig=aDN ns s.sig:=by
 have:(aDM ns s).sig.m=(aDN ns s.sig).m:=funext fun k=>sK ns k s.mem
 cases h1:(aDM ns s).sig with
 | mk T m sv =>
  cases h2:aDN ns s.sig with
  | mk T' m' sv' =>
   have e1:(aDM ns s).sig.T=(aDN ns s.sig).T:=rfl
   have e2:(aDM ns s).sig.sv=(aDN ns s.sig).sv:=rfl
   rw [h1,h2] at this e1 e2
   simp only at this e1 e2
   rw [this,e1,e2]
theorem aZ.dropped {S:Base} {σ:Sig} {a:Act} {w w':World} {D:Nat→Prop} {E:Nat→Ent} (h:aZ S σ a w D E) {ns:List Nat} (hc:Chg (bV (dI (iU σ.m ns)) E) w w'):aZ S (aDN ns σ) a w' D E:=by
 have mem:∀ k,dI (iU σ.m ns) k=if k ∈ ns then σ.m k else none:=fun k=>iT σ.m k ns
 have bo:∀ b,bV (dI (iU σ.m ns)) E b→∃ nm blk,nm ∈ ns∧σ.m nm=some blk∧(E nm).isNil=false∧b=(E nm).b:=fun b ⟨nm,blk,g1,g2,g3⟩=>by
  rw [mem] at g1
  split at g1
  ·rename_i hin;exact ⟨nm,blk,hin,g1,g2,g3⟩
  ·cases g1
 have dm:∀ nm b,(aDN ns σ).m nm=some b→nm ∉ ns∧σ.m nm=some b:=fun nm b hb=>by
  replace hb:(if ns.contains nm=true then none else σ.m nm)=some b:=hb
  split at hb
  ·cases hb
  ·rename_i hn;exact ⟨by simpa using hn,hb⟩
 refine h.go (m':=(aDN ns σ).m) (D':=D) (E':=E) ⟨fun _ g=>g,fun b hb=>hc.block b (h.dlt b hb) fun g=>?_⟩ (fun nm=>.inl fun b' hb'=>⟨b',(dm nm b' hb').2,rfl,Nat.le_refl _,fun _=>rfl⟩)
  (fun nm b hm=>?_) (fun nm b hm hi=>?_) (fun nm nm' b b' hb hb' hi hi' e=>h.inj nm nm' b b' (dm nm b hb).2 (dm nm' b' hb').2 hi hi' e)
  (h.low.step hc.os hc.tape hc.output hc.size fun k hk hno=>hc.block k (Nat.lt_of_lt_of_le hk h.low.size) fun g=>?_) (fun b hb=>Nat.lt_of_lt_of_le (h.dlt b hb) hc.size) (fun b hb=>.inl hb)
  (h.pv.step (fun nm i b g=>?_) hc.size (fun b hb=>.inl hb) fun nm blk hm hi=>.inr ⟨nm,blk,(dm nm blk hm).2,hi,rfl⟩)
 ·obtain ⟨nm,blk,_,g2,g3,g4⟩:=bo b g
  exact (h.own nm blk g2 g3).2.2 (g4 ▸ hb)
 ·obtain ⟨k1,k2⟩:=dm nm b hm
  refine .inl ⟨k2,rfl,fun hi=>hc.block _ (h.own nm b k2 hi).2.1 fun g=>?_,fun i k hr=>hc.block k (h.pv.lt k2 hr) fun g=>?_⟩
  ·obtain ⟨nm2,blk,g1,g2,g3,g4⟩:=bo _ g
   exact k1 (h.inj nm nm2 b blk k2 g2 hi g3 g4 ▸ g1)
  ·obtain ⟨nm2,blk,g1,g2,g3,g4⟩:=bo _ g
   exact h.pv.ent nm i k (aY.2 ⟨b,k2,hr⟩) nm2 blk g2 g3 g4.symm
 ·obtain ⟨k1,k2⟩:=dm nm b hm
  obtain ⟨g1,g2,g3⟩:=h.own nm b k2 hi
  exact ⟨g1,Nat.lt_of_lt_of_le g2 hc.size,g3⟩
 ·obtain ⟨nm,blk,g1,g2,g3,g4⟩:=bo _ g
  rcases (h.own nm blk g2 g3).1 with q | q
  ·rw [← g4] at q;omega
  ·rw [← g4] at q;exact hno q
 ·obtain ⟨bb,g1,g2⟩:=aY.1 g
  exact aY.2 ⟨bb,(dm nm bb g1).2,g2⟩
def aOO (c:Cfg) (ops:Array Oper):List Oper→St→(Exit→St→Prop)→Prop
 | [],s,Q=>Q .normal s
 | o :: os,s,Q=>match aJh s.sig.T ops o.guard with
  | some g=>match aCc c s.sig.T s.sig.m g o.op with
   | some (ns,r,nms)=>(g=true→all ns (r.pre∧(r.ok=false→Q (.panic (chainOf r.pan)) (aDM nms s)))) ∧
     (if aQ0 o.op=true then (if o.guard.isNone=true then True else vT o.dst s.tm.length=true∧(g=false→aOO c ops os (setSlot o.dst (.grd g .top) s) Q))
      else match lF c.P c.G c.K (c.mt o) ops s.nx s.sig o with
      | some q=>if kU q s.tm.length=true∧aES q s=true then (g=true→r.ok=true)→all q.need (aOO c ops os (fU q s) Q) else False
      | none=>False)
   | none=>match lF c.P c.G c.K (c.mt o) ops s.nx s.sig o with
    | some q=>if kU q s.tm.length=true∧aES q s=true then all q.need (aOO c ops os (fU q s) Q) else False
    | none=>False
  | none=>False
def aKs (tbl:List Nat) (q:Nat) (rs:List Rec):Bool:=(List.range rs.length).all fun j=>j == q || (tbl.getD j 0).testBit q || ((rs.getD j dflt).upd.isEmpty && (rs.getD j dflt).new.isNone)
def aEW (tbl:List Nat) (q:Nat) (rs:List Rec):List Prop:=(List.range rs.length).flatMap fun j=>if (j == q || (tbl.getD j 0).testBit q)=true then [] else (rs.getD j dflt).need
def aPV (ops:Array Oper) (s:St):St:={ s with tm:=wC (ops.toList.filterMap (·.dst)) s.tm }
def aRe (c:Cfg) (ops:Array Oper) (s:St) (Q:Exit→St→Prop):Prop:=match aOQ c ops ops.toList s,ops[ops.toList.findIdx (aCH c)]? with
 | some rs,some o=>if aBn true (mV [] ops.toList) s rs=true∧vG (mV [] ops.toList) ops.toList rs=true∧aKs (mV [] ops.toList) (ops.toList.findIdx (aCH c)) rs=true∧o.guard.isNone=true then
   match aCc c (kF rs s (ops.toList.findIdx (aCH c))).sig.T s.sig.m true o.op with
   | some (ns,r,nms)=>all (aEW (mV [] ops.toList) (ops.toList.findIdx (aCH c)) rs) (all ns (r.pre∧(r.ok=true→all (rs.flatMap (·.need)) (Q .normal (kF rs s rs.length)))∧(r.ok=false→Q (.panic (chainOf r.pan)) (aPV ops (aDM nms s)))))
   | none=>False
  else False
 | _,_=>False
def aT3 (c:Cfg) (ops:Array Oper) (draw:Bool) (s:St) (Q:Exit→St→Prop):Prop :=
 if ops.toList.any (aCH c)=true then (if draw=true then aRe c ops s Q else aOO c ops ops.toList s Q) else aRH c ops draw s (Q .normal)
def aA8 (p:Tmp) (t:Ty) (y:t.den) (s:St):St:={ s with tm:=s.tm.set p (.dat t y),sv:=s.tm }
def aHf (p:Tmp) (t:Ty) (y:t.den) (s:St):St:={ s with tm:=s.tm.set p (.dat t y),sv:=s.tm ++ s.sv }
def aAU (s:St):St:={ s with tm:=s.sv.take s.tm.length,sv:=s.sv.drop s.tm.length }
def aC6 (s:St):St:={ s with tm:=s.sv,sv:=[] }
def one1 (t:Ty):Bool:=decide (t.sz=1)
def aCh:Nat:=1000000
def aK4:Ty→Bool
 | .int _=>true
 | .bool=>true
 | _=>false
def aNM (m:Mem):AV→AV
 | .ptr nm 1 0 0=>match m.lookup nm with
  | some (.var cs)=>.ips (aAB cs)
  | _=>.top
 | .ipv a=>.ipv (aNM m a)
 | a=>oL a
def aGp (m:Mem) (l:List AV):List AV:=l.map (aNM m)
def aHt (G:List (Nat×AV)) (g:Operand) (gf:FuncId) (s:St):Option (List AV):=match evT G s.sig.T g with
 | .fn gf' caps=>if gf'=gf then some (aGp s.mem caps) else none
 | _=>none
def aVq (c:Cfg) (m:Mem) (gf:FuncId) (caps:List AV):Option oW:=if (AV.namesL caps).isEmpty=true then c.KI gf caps else c.KI (gf + aCh) (aGp m caps)
def aKF (G:List (Nat×AV)) (g:Operand) (gf:FuncId) (caps:List AV) (m:Mem) {α:Type} (inv:α→Prop) (st:α→St) (t:Ty) (X:Prop):Prop :=
 if (AV.namesL caps).isEmpty=true then X else aK4 t=true∧(∀ x,inv x→aHt G g gf (st x)=some (aGp m caps))∧X
def aNY (P:Program) (f:FuncId):Bool:=goes P f && decide (f < aCh)
def ev (c:Cfg) (A:Ann):Code→St→(Exit→St→Prop)→Prop
 | .skip,s,Q=>Q .normal s
 | .region id ops draw,s,Q=>match A.pre id s with
  | none=>aT3 c ops draw s Q
  | some s1=>match aLV s s1 with
   | some ms=>all ms (aT3 c ops draw s1 Q)
   | none=>False
 | .seq a b,s,Q=>match jD b with
  | some id=>match A.cut id s with
   | some sp=>ev c A a s (fun e s'=>match e with | .normal=>∃ y,sp.inv y∧leP s' (sp.st y) | e=>Q e s')∧∀ x,sp.inv x→ev c A b (sp.st x) Q
   | none=>ev c A a s (fun e s'=>match e with | .normal=>ev c A b s' Q | e=>Q e s')
  | none=>ev c A a s (fun e s'=>match e with | .normal=>ev c A b s' Q | e=>Q e s')
 | .cond t a b,s,Q=>match aOc (evT c.G s.sig.T t) with
  | some (ns,x)=>all ns (aOd x (ev c A a s Q) (ev c A b s Q))
  | none=>False
 | .block id b,s,Q=>ev c A b s (fun e s'=>match e with | .exit id'=>if id'=id then Q .normal s' else Q (.exit id') s' | e=>Q e s')
 | .exit id,s,Q=>Q (.exit id) s
 | .scope b,s,Q=>ev c A b s (fun e s'=>match e with | .goto _=>False | e=>Q e s')
 | .label _,s,Q=>Q .normal s
 | .ret,s,Q=>Q .ret s
 | .loop b,s,Q=>match jD b with
  | some id=>match aTk A id b s with
   | some sp=>(∃ x,sp.inv x∧leP s (sp.st x))∧∀ x,sp.inv x→ev c A b (sp.st x) (fun e s'=>match e with | .normal=>∃ y,sp.inv y∧leP s' (sp.st y)∧sp.μ y < sp.μ x | e=>Q e s')
   | none=>False
  | none=>False
 | .rangeFunc g ps as b,s,Q=>match evT c.G s.sig.T g,ps.toList,jD (.seq as b) with
  | .fn gf caps,[p],some id=>match aVq c s.mem gf caps,A.loop id s with
   | some it,some sp=>if aNY c.P gf && decide (s.sv.length < s.tm.length) && c.rng && one1 it.t && decide (p < s.tm.length) then
     aKF c.G g gf caps s.mem sp.inv sp.st it.t (it.pre∧(∃ x,sp.inv x∧sp.μ x=0∧leP s (sp.st x)) ∧
     (∀ x y,sp.inv x→yY it.L (sp.μ x) y→ev c A as (aHf p it.t y (sp.st x)) (fun e s1=>match e with
      | .normal=>ev c A b s1 (fun e s2=>match e with
       | .normal=>∃ z,sp.inv z∧sp.μ z=sp.μ x + 1∧leP (aAU s2) (sp.st z)
       | .ret=>Q .ret (aAU s2)
       | .exit i=>Q (.exit i) (aAU s2)
       | .panic ch=>Q (.panic ch) (aAU s2)
       | _=>False)
      | _=>False)) ∧
     (∀ x,sp.inv x→sp.μ x=it.L.length→Q .normal (sp.st x)))
    else False
   | _,_=>False
  | _,_,_=>False
 | _,_,_=>False
theorem uJ {s s':St} {ns:List Prop} (h:aLV s s'=some ns):s.tm.length=s'.tm.length:=by
 unfold aLV at h
 split at h
 ·rename_i hx;exact hx.1
 ·cases h
theorem aBC {s s':St} (h:leP s s'):s.tm.length=s'.tm.length:=by
 unfold leP at h
 split at h
 ·rename_i ns h';exact uJ h'
 ·exact h.elim
theorem aDx {S:Base} {s s':St} {a:Act} {w:World} (hl:leP s s') (h:Sim S s.sig a w):Sim S s'.sig a w:=by
 unfold leP at hl
 split at hl
 ·rename_i ns h';exact aG8 h h' (dO hl).1
 ·exact hl.elim
abbrev noV:Nat→Prop:=fun _=>False
def zQ (P:Program) (G:List (Nat×AV)) (gf:FuncId) (caps:List AV) (it:oW):Prop :=
 it.pre→∀ (l:Nat) (J:Nat→World→(Nat→Prop)→(Nat→Prop)→Prop) (JX:World→(Nat→Prop)→(Nat→Prop)→Prop) (JP:List PanicEntry→World→(Nat→Prop)→(Nat→Prop)→Prop) (w:World) (D:Nat→Prop) (us:List Value),
  (∀ b,D b→b < w.heap.size)→rU P ⟨w,D,noM,noE⟩ G→AV.relL P ⟨w,D,noM,noE⟩ caps us →
  (∀ k w1 w2 D1 V,J k w1 D1 V→Below w1.heap.size w1 w2→∀ X:Nat→Prop,J k w2 (fun b=>D1 b∨(lI w1 w2 b∧¬ X b)) (fun b=>V b∨(lI w1 w2 b∧X b))) →
  (∀ k w1 (D1 D2 V V2:Nat→Prop),J k w1 D1 V→(∀ b,D2 b→D1 b)→(∀ b,V2 b→V b)→J k w1 D2 V2) →
  (∀ k w1 w2 D1 V,J k w1 D1 V→Chg V w1 w2→w2.heap.size=w1.heap.size→J k w2 D1 V) →
  (∀ w1 w2 D1 V,JX w1 D1 V→Below w1.heap.size w1 w2→∀ X:Nat→Prop,JX w2 (fun b=>D1 b∨(lI w1 w2 b∧¬ X b)) (fun b=>V b∨(lI w1 w2 b∧X b))) →
  (∀ w1 (D1 D2 V V2:Nat→Prop),JX w1 D1 V→(∀ b,D2 b→D1 b)→(∀ b,V2 b→V b)→JX w1 D2 V2) →
  (∀ w1 w2 D1 V,JX w1 D1 V→Chg V w1 w2→w2.heap.size=w1.heap.size→JX w2 D1 V) →
  (∀ ch w1 w2 D1 V,JP ch w1 D1 V→Chg V w1 w2→w2.heap.size=w1.heap.size→JP ch w2 D1 V) →
  (∀ k y W D1 V u,it.L[k]?=some y→J k W D1 V→(∀ b,D1 b→b < W.heap.size)→aF W D1 it.t y [u]→YieldAt Fence.wide 0 P l #[u] W fun e W' =>
   W.heap.size≤W'.heap.size∧(∀ b,D1 b∨V b→W'.heap[b]?=W.heap[b]?)∧((e=.returned (.bool true)∧J (k + 1) W' D1 V)∨(e=.returned (.bool false)∧JX W' D1 V)∨∃ ch,e=.panicked ch∧JP ch W' D1 V)) →
  J 0 w D noV →
  CallsIn Fence.wide 0 P gf (#[.func (.yield l) #[] #[]] ++ us.toArray) w fun e W'=>((∃ v,e=.returned v)∧((∃ D2,J it.L.length W' D2 noV)∨∃ D2,JX W' D2 noV))∨∃ ch,e=.panicked ch∧∃ D2 V2,JP ch W' D2 V2
def aGW (P:Program) (G:List (Nat×AV)) (gf:FuncId) (caps:List AV) (it:oW):Prop :=
 it.pre→∀ (l:Nat) (J:Nat→World→Prop) (JX:World→Prop) (JP:List PanicEntry→World→Prop) (w:World) (us:List Value),
  (∀ k w1,J k w1→∃ D:Nat→Prop,(∀ b,D b→b < w1.heap.size)∧rU P ⟨w1,D,noM,noE⟩ G∧AV.relL P ⟨w1,D,noM,noE⟩ caps us) →
  (∀ w1,JX w1→∃ D:Nat→Prop,(∀ b,D b→b < w1.heap.size)∧rU P ⟨w1,D,noM,noE⟩ G) →
  (∀ k w1 w2,J k w1→Below w1.heap.size w1 w2→J k w2) →
  (∀ w1 w2,JX w1→Below w1.heap.size w1 w2→JX w2) →
  (∀ k y W u,it.L[k]?=some y→J k W→aF W noV it.t y [u]→YieldAt Fence.wide 0 P l #[u] W fun e W' =>
   W.heap.size≤W'.heap.size∧((e=.returned (.bool true)∧J (k + 1) W')∨(e=.returned (.bool false)∧JX W')∨∃ ch,e=.panicked ch∧JP ch W')) →
  J 0 w →
  CallsIn Fence.wide 0 P gf (#[.func (.yield l) #[] #[]] ++ us.toArray) w fun e W'=>((∃ v,e=.returned v)∧(J it.L.length W'∨JX W'))∨∃ ch,e=.panicked ch∧JP ch W'
def dF (P:Program) (G:List (Nat×AV)) (KI:FuncId→List AV→Option oW):Prop:=∀ gf caps it,KI gf caps=some it→if gf < aCh then zQ P G gf caps it else aGW P G (gf - aCh) caps it
theorem dF.at {P:Program} {G:List (Nat×AV)} {KI:FuncId→List AV→Option oW} (h:dF P G KI) {gf:FuncId} {caps:List AV} {it:oW} (hg:gf < aCh) (hk:KI gf caps=some it):zQ P G gf caps it:=by
 have:=h gf caps it hk
 rwa [if_pos hg] at this
theorem aQZ {q:Nat→Prop} {p:Prop} {g N:Nat} (h:if g + N < N then p else q (g + N - N)):q g:=by
 rw [if_neg (by omega),Nat.add_sub_cancel] at h
 exact h
theorem dF.lent {P:Program} {G:List (Nat×AV)} {KI:FuncId→List AV→Option oW} (h:dF P G KI) {gf:FuncId} {caps:List AV} {it:oW} (hk:KI (gf + aCh) caps=some it):aGW P G gf caps it:=by
 unfold dF at h
 generalize aCh=N at h hk
 exact aQZ (q:=fun g=>aGW P G g caps it) (h _ caps it hk)
section
variable {S:Base} {c:Cfg}
theorem Sim.draw {σ:Sig} {a:Act} {w:World} (h:Sim S σ a w):Sim S σ a { w with drawn:=w.drawn + 1 }:=by
 obtain ⟨D,E,h⟩:=h
 exact ⟨D,E,h.world (D':=D) (by constructor <;> first | rfl | exact Nat.le_refl _ | exact fun _ _=>rfl | exact Nat.le_succ _) (fun b=>⟨.inl,fun g=>g.elim id (·.2)⟩) h.dlt⟩
theorem aKm {ops:Array Oper} {draw:Bool} {s s':St} {ns:List Prop} (h:aTf c ops draw s=some (ns,s')):s'.tm.length=s.tm.length:=by
 unfold aTf at h
 split at h
 ·rename_i rs _
  dsimp only at h
  generalize (if draw=true then mV [] ops.toList else [])=tbl at h
  by_cases hk:aBn draw tbl s rs=true∧(draw=true→vG tbl ops.toList rs=true)
  ·rw [if_pos hk] at h;cases h;exact pI _ _ _
  ·rw [if_neg hk] at h;cases h
 ·cases h
theorem aOV (hP:c.P=S.P) (hG:c.G=S.G) (hK:aQ S.P S.G c.K) (hm:S.P.follows .mixedOrders=true) {id:Nat} {ops:Array Oper} {draw:Bool} {s s':St} {ns:List Prop} (h:aTf c ops draw s=some (ns,s')) (hn:∀ q ∈ ns,q)
  (hl:s.tm.length=S.N) {a:Act} {w:World} (hs:Sim S s.sig a w) {Q:Exit→Act→World→Prop} (hQ:∀ a' w',Sim S s'.sig a' w'→Q .normal a' w'):(Code.region id ops draw).wpIn S.F 0 S.P Q a w:=by
 unfold aTf at h
 split at h
 case h_2=>cases h
 rename_i rs hrs
 dsimp only at h
 generalize (if draw=true then mV [] ops.toList else [])=tbl at h
 by_cases hok:aBn draw tbl s rs=true∧(draw=true→vG tbl ops.toList rs=true)
 case neg=>rw [if_neg hok] at h;cases h
 rw [if_pos hok] at h
 cases h
 obtain ⟨P,G,K,mb,KI,rng,KP,pf⟩:=c
 simp only at hP hG hK
 subst hP hG
 obtain ⟨hlen,hat⟩:=aA7 hrs
 have H:aFG S K mb ops s rs:=⟨by simpa using hlen,fun j o r ho hr=>hat j o r (by simpa using ho) hr,hl,fun j r hr q hq=>hn q (List.mem_flatMap.2 ⟨r,List.mem_of_getElem? hr,hq⟩)⟩
 cases draw with
 | false=>exact aED hK H hok.1 hs hQ
 | true=>exact aBf hK hm H hok.1 (hok.2 rfl) hs.draw hQ
theorem aZ.putL {σ:Sig} {a:Act} {w:World} {D:Nat→Prop} {E:Nat→Ent} (h:aZ S σ a w D E) {l:Nat} (o:Obj) (hl:S.w0.heap.size≤l) (hD:¬ D l) (hE:¬ aV σ.m E l):aZ S σ a (w.putObj l o) D E:=by
 have same:∀ k,k≠l→(w.putObj l o).heap[k]?=w.heap[k]?:=fun k hk=>World.putObj_heap_other hk
 exact h.go (m':=σ.m) ⟨fun _ g=>g,fun b hb=>same b fun e=>hD (e ▸ hb)⟩ (fun k=>.inl fun b' hb'=>⟨b',hb',rfl,Nat.le_refl _,fun _=>rfl⟩)
  (fun nm b hm=>.inl ⟨hm,rfl,fun hi=>same _ fun e=>hE (.inl ⟨nm,b,hm,hi,e.symm⟩),fun i k hr=>same k fun e=>hE (.inr ⟨nm,i,aY.2 ⟨b,hm,e ▸ hr⟩⟩)⟩) (fun nm b hm hi=>by simpa using h.own nm b hm hi) h.inj
  (h.low.step rfl rfl rfl (by simp) fun k hk _=>same k (by omega)) (fun b hb=>by simpa using h.dlt b hb) (fun b hb=>.inl hb)
  (h.pv.step (fun _ _ _ g=>g) (by simp) (fun _ g=>.inl g) fun nm b hm hi=>.inr ⟨nm,b,hm,hi,rfl⟩)
theorem aZ.lay {σ:Sig} {a:Act} {w w':World} {D:Nat→Prop} {E:Nat→Ent} (h:aZ S σ a w D E) {V:Nat→Prop} (hc:Chg V w w') (hs:w'.heap.size=w.heap.size) (hV:∀ b,V b→S.w0.heap.size≤b∧¬ D b∧¬ aV σ.m E b):aZ S σ a w' D E:=by
 have lt:∀ nm b,σ.m nm=some b→(E nm).isNil=false→(E nm).b < w.heap.size:=fun nm b hm hi=>(h.own nm b hm hi).2.1
 exact h.go (m':=σ.m) ⟨fun _ g=>g,fun b hb=>hc.block b (h.dlt b hb) fun g=>(hV b g).2.1 hb⟩ (fun k=>.inl fun b' hb'=>⟨b',hb',rfl,Nat.le_refl _,fun _=>rfl⟩)
  (fun nm b hm=>.inl ⟨hm,rfl,fun hi=>hc.block _ (lt nm b hm hi) fun g=>(hV _ g).2.2 (.inl ⟨nm,b,hm,hi,rfl⟩),fun i k hr=>hc.block k (h.pv.lt hm hr) fun g=>(hV _ g).2.2 (.inr ⟨nm,i,aY.2 ⟨b,hm,hr⟩⟩)⟩)
  (fun nm b hm hi=>by rw [hs];exact h.own nm b hm hi) h.inj
  (h.low.step hc.os hc.tape hc.output hc.size fun k hk _=>hc.block k (Nat.lt_of_lt_of_le hk h.low.size) fun g=>by have:=(hV k g).1;omega) (fun b hb=>by rw [hs];exact h.dlt b hb) (fun b hb=>.inl hb)
  (h.pv.step (fun _ _ _ g=>g) (Nat.le_of_eq hs.symm) (fun _ g=>.inl g) fun nm b hm hi=>.inr ⟨nm,b,hm,hi,rfl⟩)
theorem aZ.enter {σ:Sig} {a:Act} {w:World} {D:Nat→Prop} {E:Nat→Ent} (h:aZ S σ a w D E) (l:Nat) {tm:Nat→AV} {tmps:Array Value} (hsz:tmps.size=S.N)
  (htm:∀ t,(tm t).rel S.P ⟨w,D,σ.m,E⟩ (tmps.getD t undef)) {sv:List AV} {vs:List Value} (hs:AV.relL S.P ⟨w,D,σ.m,E⟩ sv vs) :
  aZ { P:=S.P,w0:=w,D0:=D,N:=S.N,O:=aV σ.m E,G:=S.G,sv:=vs,rd:=some l,nod:=true } ⟨tm,σ.m,sv⟩ { tmps:=tmps,defers:=[] } w D E :=
 ⟨hsz,⟨⟨fun _=>rfl,⟨[],rfl⟩,List.Pairwise.nil⟩,fun d hd=>by cases hd⟩,htm,h.bl,fun nm b hm hi=>⟨.inr (.inl ⟨nm,b,hm,hi,rfl⟩),(h.own nm b hm hi).2⟩,h.inj,Chg.refl _ _,h.dlt,fun _ g=>g,fun _ g=>.inl g,h.gl,hs,
  ⟨fun nm i b g=>⟨.inr (.inr ⟨nm,i,g⟩),(h.pv.own nm i b g).2⟩,h.pv.ent,h.pv.inj⟩⟩
theorem aZ.again {σ:Sig} {a:Act} {w:World} {D:Nat→Prop} {E:Nat→Ent} (h:aZ S σ a w D E) {l:Nat} (o:Obj) (hgd:S.gd=[]) (hnd:a.defers=[]) (hD:¬ D l) (hE:¬ aV σ.m E l) :
  aZ { S with w0:=w.putObj l o,D0:=D,O:=aV σ.m E } σ a (w.putObj l o) D E:=by
 have same:∀ k,k≠l→(w.putObj l o).heap[k]?=w.heap[k]?:=fun k hk=>World.putObj_heap_other hk
 have L:Later ⟨w,D,σ.m,E⟩ ⟨w.putObj l o,D,σ.m,E⟩:=⟨fun _ g=>g,fun b hb=>same b fun e=>hD (e ▸ hb)⟩
 have nm:∀ k,vJ ⟨w,D,σ.m,E⟩ ⟨w.putObj l o,D,σ.m,E⟩ k:=fun k b' hb'=>⟨b',hb',rfl,Nat.le_refl _,fun _=>rfl⟩
 refine ⟨h.sz,⟨⟨fun _=>hnd.trans hgd.symm,⟨[],hnd.trans hgd.symm⟩,by rw [hnd];exact List.Pairwise.nil⟩,fun d hd=>by rw [hnd] at hd;cases hd⟩,fun t=>AV.rel_mono L (fun k _=>nm k) (h.tm t),fun k b hm=>?_,fun k b hm hi=>⟨.inr (.inl ⟨k,b,hm,hi,rfl⟩),by simpa using (h.own k b hm hi).2⟩,h.inj,Chg.refl _ _,
  fun b hb=>by simpa using h.dlt b hb,fun _ g=>g,fun _ g=>.inl g,h.gl.mono L,AV.relL_mono L (fun k _=>nm k) h.svr,
  ⟨fun nm i b g=>⟨.inr (.inr ⟨nm,i,g⟩),by simpa using (h.pv.own nm i b g).2⟩,h.pv.ent,h.pv.inj⟩⟩
 exact iL.mono L (fun k _=>nm k) (fun hi=>same _ fun e=>hE (.inl ⟨k,b,hm,hi,e.symm⟩)) (fun i r hr=>same r fun e=>hE (.inr ⟨k,i,aY.2 ⟨b,hm,e ▸ hr⟩⟩)) (h.bl k b hm)
theorem aZ.leave {Sr:Base} {σ:Sig} {a a0:Act} {w:World} {D:Nat→Prop} {E:Nat→Ent} (h:aZ Sr σ a w D E) (hP:Sr.P=S.P) (hG:Sr.G=S.G) (hv:Sr.sv=a0.tmps.toList) (hsz:a0.tmps.size=S.N)
  (hO:∀ b,Sr.w0.heap.size≤b∨Sr.O b→S.w0.heap.size≤b∨S.O b) (hlow:Chg S.O S.w0 w) (hd0:∀ b,S.D0 b→D b) (hdh:∀ b,D b→S.D0 b∨S.w0.heap.size≤b∨S.O b) (hdf:Marks S.nod S.w0.heap.size D w S.gd a0.defers)
  (hsv:S.sv=[]):aZ S ⟨fun t=>σ.sv.getD t .top,σ.m,[]⟩ a0 w D E:=by
 refine ⟨hsz,hdf,fun t=>?_,fun nm b hm=>hP ▸ h.bl nm b hm,fun nm b hm hi=>⟨hO _ (h.own nm b hm hi).1,(h.own nm b hm hi).2⟩,h.inj,hlow,h.dlt,hd0,hdh,?_,?_,⟨fun nm i b g=>⟨hO _ (h.pv.own nm i b g).1,(h.pv.own nm i b g).2⟩,h.pv.ent,h.pv.inj⟩⟩
 ·have hl:=h.svr
  rw [hv,hP] at hl
  show (σ.sv.getD t .top).rel S.P ⟨w,D,σ.m,E⟩ _
  rw [List.getD_eq_getElem?_getD]
  cases hx:σ.sv[t]? with
  | none=>trivial
  | some x =>
   obtain ⟨u,g1,g2⟩:=AV.relL_get hl hx
   have:a0.tmps.getD t undef=u:=by
    rw [Array.getD_eq_getD_getElem?]
    simp only [Array.getElem?_toList] at g1
    rw [g1];rfl
   rw [this];exact g2
 ·have:=h.gl
  rw [hP,hG] at this
  exact this
 ·rw [hsv];rfl
theorem aZ.leaveN {Sr:Base} {σ:Sig} {a a0:Act} {w:World} {D:Nat→Prop} {E:Nat→Ent} (h:aZ Sr σ a w D E) (hP:Sr.P=S.P) (hG:Sr.G=S.G) (hv:Sr.sv=a0.tmps.toList ++ S.sv) (hsz:a0.tmps.size=S.N)
  (hO:∀ b,Sr.w0.heap.size≤b∨Sr.O b→S.w0.heap.size≤b∨S.O b) (hlow:Chg S.O S.w0 w) (hd0:∀ b,S.D0 b→D b) (hdh:∀ b,D b→S.D0 b∨S.w0.heap.size≤b∨S.O b) (hdf:Marks S.nod S.w0.heap.size D w S.gd a0.defers) :
  aZ S ⟨fun t=>(σ.sv.take S.N).getD t .top,σ.m,σ.sv.drop S.N⟩ a0 w D E:=by
 have hl:=h.svr
 rw [hv,hP] at hl
 have hlen:a0.tmps.toList.length=S.N:=by rw [Array.length_toList];exact hsz
 have h1:=AV.relL_take hl S.N
 have h2:=AV.relL_drop hl S.N
 have e1:(a0.tmps.toList ++ S.sv).take S.N=a0.tmps.toList:=by rw [← hlen];exact List.take_left
 have e2:(a0.tmps.toList ++ S.sv).drop S.N=S.sv:=by rw [← hlen];exact List.drop_left
 rw [e1] at h1
 rw [e2] at h2
 refine ⟨hsz,hdf,fun t=>?_,fun nm b hm=>hP ▸ h.bl nm b hm,fun nm b hm hi=>⟨hO _ (h.own nm b hm hi).1,(h.own nm b hm hi).2⟩,h.inj,hlow,h.dlt,hd0,hdh,?_,h2,⟨fun nm i b g=>⟨hO _ (h.pv.own nm i b g).1,(h.pv.own nm i b g).2⟩,h.pv.ent,h.pv.inj⟩⟩
 ·show ((σ.sv.take S.N).getD t .top).rel S.P ⟨w,D,σ.m,E⟩ _
  rw [List.getD_eq_getElem?_getD]
  cases hx:(σ.sv.take S.N)[t]? with
  | none=>trivial
  | some x =>
   obtain ⟨u,g1,g2⟩:=AV.relL_get h1 hx
   have:a0.tmps.getD t undef=u:=by
    rw [Array.getD_eq_getD_getElem?]
    simp only [Array.getElem?_toList] at g1
    rw [g1];rfl
   rw [this];exact g2
 ·have:=h.gl
  rw [hP,hG] at this
  exact this
end
end Go.Eng
