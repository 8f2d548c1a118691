/- The engine, part 21: a function that is ranged over, evaluated: at each yield it hands over the next element. -/
import Derived.Test.YtlobbofhlcjlmaaGreatDoorH18
set_option linter.unusedSimpArgs false
set_option linter.unusedVariables false
namespace Go.Eng
open Go.RowKit
structure Y where
  s : St
  k : Nat
  on : Bool
structure aVA where
  α : Type
  inv : α → Prop
  st : α → Y
  μ : α → Nat
structure aJm where
  loop : Nat → Y → Option aVA
  pre : Nat → St → Option St
  yr : Nat → Bool
def leY (y y' : Y) : Prop := leP y.s y'.s ∧ y.k = y'.k ∧ y.on = y'.on
def yieldOf (G : List (Nat × AV)) (T : Nat → AV) (g : Bool) (o : Op) : Option (Nat × List Prop × AV) := match o with
  | .call ⟨.value f, args, _⟩ => match ug g (evT G T f), args.toList with
    | (.yld l, n1), [a] => match ug g (evT G T a) with
      | (v, n2) => some (l, n1 ++ n2, v)
    | _, _ => none
  | _ => none
def aQq (c : Cfg) (it : oW) (l : Nat) (ops : Array Oper) : List Oper → Y → (Y → Prop) → Prop
  | [], y, Q => Q y
  | o :: os, y, Q => match aJh y.s.sig.T ops o.guard with
    | some g => match yieldOf c.G y.s.sig.T g o.op with
      | some (l', ns, v) => if vT o.dst y.s.tm.length = true ∧ y.s.mem.isEmpty = true then match v.as it.t with
        | some x => aOd g (all ns (l' = l ∧ y.on = true ∧ yY it.L y.k x ∧ ∀ b : Bool, aQq c it l ops os ⟨setSlot o.dst (.dat .bool b) y.s, y.k + 1, b⟩ Q))
            (aQq c it l ops os ⟨setSlot o.dst (.grd g (.dat .bool false)) y.s, y.k, y.on⟩ Q)
        | none => False
        else False
      | none => match lF c.P c.G c.K (c.mt o) ops y.s.nx y.s.sig o with
        | some r => if kU r y.s.tm.length = true ∧ aES r y.s = true then all r.need (aQq c it l ops os ⟨fU r y.s, y.k, y.on⟩ Q) else False
        | none => False
    | none => False
def fO (o : Oper) : Bool := match o.op with
  | .call ⟨.value (.tmp _), _, _⟩ => true
  | _ => false
def aVT (tbl : List Nat) (q n : Nat) : Bool := (List.range n).all fun j => if j < q then (tbl.getD q 0).testBit j else j == q || (tbl.getD j 0).testBit q
def aRd (c : Cfg) (it : oW) (l : Nat) (ops : Array Oper) (y : Y) (Q : Y → Prop) : Prop :=
  match ops[ops.toList.findIdx fO]?, aOQ c ops (ops.toList.take (ops.toList.findIdx fO)) y.s with
  | some o, some rs => if aVT (mV [] ops.toList) (ops.toList.findIdx fO) ops.size = true ∧ o.guard.isNone = true ∧ vT o.dst y.s.tm.length = true ∧ (kF rs y.s (ops.toList.findIdx fO)).mem.isEmpty = true ∧
        aBn true (mV [] ops.toList) y.s (rs ++ List.replicate (ops.size - ops.toList.findIdx fO) dflt) = true ∧ vG (mV [] ops.toList) ops.toList (rs ++ List.replicate (ops.size - ops.toList.findIdx fO) dflt) = true then
      match yieldOf c.G (kF rs y.s (ops.toList.findIdx fO)).sig.T true o.op with
      | some (l', ns, v) => match v.as it.t with
        | some x => all (rs.flatMap (·.need)) (all ns (l' = l ∧ y.on = true ∧ yY it.L y.k x ∧ ∀ b : Bool,
            match aOQ c ops (ops.toList.drop (ops.toList.findIdx fO + 1)) (setSlot o.dst (.dat .bool b) (kF rs y.s (ops.toList.findIdx fO))) with
            | some rs2 => if aBn true (mV [] ops.toList) (setSlot o.dst (.dat .bool b) (kF rs y.s (ops.toList.findIdx fO))) (List.replicate (ops.toList.findIdx fO + 1) dflt ++ rs2) = true ∧
                  vG (mV [] ops.toList) ops.toList (List.replicate (ops.toList.findIdx fO + 1) dflt ++ rs2) = true then
                all (rs2.flatMap (·.need)) (Q ⟨kF rs2 (setSlot o.dst (.dat .bool b) (kF rs y.s (ops.toList.findIdx fO))) rs2.length, y.k + 1, b⟩) else False
            | none => False))
        | none => False
      | none => False
    else False
  | _, _ => False
def evZ (c : Cfg) (rg : Array Oper → Bool → Y → (Y → Prop) → Prop) (A : aJm) : Code → Y → (Exit → Y → Prop) → Prop
  | .skip, y, Q => Q .normal y
  | .region id ops draw, y, Q => match A.pre id y.s with
    | some s1 => match aLV y.s s1 with
      | some ms => all ms (if A.yr id = true then rg ops draw ⟨s1, y.k, y.on⟩ (Q .normal) else aRH c ops draw s1 fun s' => Q .normal ⟨s', y.k, y.on⟩)
      | none => False
    | none => if A.yr id = true then rg ops draw y (Q .normal) else aRH c ops draw y.s fun s' => Q .normal ⟨s', y.k, y.on⟩
  | .seq a b, y, Q => evZ c rg A a y (fun e y' => match e with | .normal => evZ c rg A b y' Q | e => Q e y')
  | .cond t a b, y, Q => match aOc (evT c.G y.s.sig.T t) with
    | some (ns, x) => all ns (aOd x (evZ c rg A a y Q) (evZ c rg A b y Q))
    | none => False
  | .block id b, y, Q => evZ c rg A b y (fun e y' => match e with | .exit id' => if id' = id then Q .normal y' else Q (.exit id') y' | e => Q e y')
  | .exit id, y, Q => Q (.exit id) y
  | .ret, y, Q => Q .ret y
  | .loop b, y, Q => match jD b with
    | some id => match A.loop id { y with s := aHz b y.s } with
      | some sp => (∃ x, sp.inv x ∧ leY y (sp.st x)) ∧ ∀ x, sp.inv x → evZ c rg A b (sp.st x) (fun e y' => match e with | .normal => ∃ z, sp.inv z ∧ leY y' (sp.st z) ∧ sp.μ z < sp.μ x | e => Q e y')
      | none => False
    | none => False
  | _, _, _ => False
def rgY (c : Cfg) (it : oW) (l : Nat) (ops : Array Oper) (draw : Bool) (y : Y) (Q : Y → Prop) : Prop := if draw = true then aRd c it l ops y Q else aQq c it l ops ops.toList y Q
def evY (c : Cfg) (it : oW) (l : Nat) : aJm → Code → Y → (Exit → Y → Prop) → Prop := evZ c (rgY c it l)
def aT9 (it : oW) : Exit → Y → Prop
  | .normal, y => y.on = true → y.k = it.L.length
  | .ret, y => y.on = true → y.k = it.L.length
  | _, _ => False
def zU (fn : Func) (l : Nat) (caps : List AV) : Y := ⟨⟨(.yld l :: caps) ++ List.replicate (fn.ntmps - (caps.length + 1)) (.val undef), [], 0, []⟩, 0, true⟩
def evI (c : Cfg) (A : aJm) (f : FuncId) (caps : List AV) (it : oW) : Prop := match c.P.funcs[f]? with
  | some fn => match fn.body with
    | some b => fn.results.toList.isEmpty = true ∧ (AV.namesL caps).isEmpty = true ∧ one1 it.t = true ∧ c.rng = false ∧ ∀ l, it.pre → evY c it l A b (zU fn l caps) (aT9 it)
    | none => False
  | none => False
section
structure FrY where
  ro : Option Nat
  sv : List Value
  V : Nat → Prop
  Dv : Nat → Prop
  W : World
def Fr : Option Nat → Fence
  | none => Fence.wide
  | some l => Fence.wide.inRound l
theorem aRC (ro : Option Nat) (f : FuncId) : (Fr ro).fn f := by cases ro <;> trivial
theorem aHV (ro : Option Nat) : (Fr ro).depth = none := by cases ro <;> rfl
theorem aOD (ro : Option Nat) : (Fr ro).round = ro := by cases ro <;> rfl
theorem aQE {ro : Option Nat} {P : Program} {l : Nat} {f : FuncId} {tmps : Array Value} {assign body : Code} {w : World} {R : Ending → World → Prop} (h : RoundIn Fence.wide 0 P l f tmps assign body w R) : RoundIn (Fr ro) 0 P l f tmps assign body w R := by
  cases ro with
  | none => exact h
  | some k => exact h
def Kept (fr : FrY) (w : World) : Prop := fr.W.heap.size ≤ w.heap.size ∧ ∀ b, fr.Dv b ∨ fr.V b → w.heap[b]? = fr.W.heap[b]?
variable {c : Cfg} {it : oW} {l N : Nat} {fr : FrY} {J : Nat → World → (Nat → Prop) → (Nat → Prop) → Prop} {JX : World → (Nat → Prop) → (Nat → Prop) → Prop} {JP : List PanicEntry → World → (Nat → Prop) → (Nat → Prop) → Prop}
def aGX (fr : FrY) (J : Nat → World → (Nat → Prop) → (Nat → Prop) → Prop) (JX : World → (Nat → Prop) → (Nat → Prop) → Prop) (y : Y) (w : World) (D : Nat → Prop) : Prop := (y.on = true → J y.k w D fr.V) ∧ (y.on = false → JX w D fr.V)
structure OkY (c : Cfg) (N : Nat) (fr : FrY) (S : Base) : Prop where
  P : S.P = c.P
  G : S.G = c.G
  N : S.N = N
  O : ∀ b, ¬ S.O b
  sv : S.sv = fr.sv
  rd : S.rd = fr.ro
  nod : S.nod = true
  gd : S.gd = []
  kept : Kept fr S.w0
  lt : ∀ b, fr.Dv b ∨ fr.V b → b < S.w0.heap.size
  dv : ∀ b, fr.Dv b → S.D0 b
  nv : ∀ b, fr.V b → ¬ S.D0 b
def aRv (c : Cfg) (N : Nat) (fr : FrY) (J : Nat → World → (Nat → Prop) → (Nat → Prop) → Prop) (JX : World → (Nat → Prop) → (Nat → Prop) → Prop) (y : Y) (a : Act) (w : World) : Prop :=
  ∃ S, OkY c N fr S ∧ aGX fr J JX y S.w0 S.D0 ∧ Sim S y.s.sig a w
structure aL1 (c : Cfg) (it : oW) (l N : Nat) (fr : FrY) (J : Nat → World → (Nat → Prop) → (Nat → Prop) → Prop) (JX : World → (Nat → Prop) → (Nat → Prop) → Prop) (JP : List PanicEntry → World → (Nat → Prop) → (Nat → Prop) → Prop) : Prop where
  K : aQ c.P c.G c.K
  I : dF c.P c.G c.KI
  KP : fB c.P c.G c.KP
  m : c.P.follows .mixedOrders = true
  rng : fr.ro = none → c.rng = false
  rs : fr.ro ≠ none → N ≤ fr.sv.length
  one : it.t.sz = 1
  j1 : ∀ k w1 w2 D1 V, J k w1 D1 V → Below w1.heap.size w1 w2 → ∀ X : Nat → Prop, J k w2 (fun b => D1 b ∨ (lI w1 w2 b ∧ ¬ X b)) (fun b => V b ∨ (lI w1 w2 b ∧ X b))
  j2 : ∀ k w1 (D1 D2 V V2 : Nat → Prop), J k w1 D1 V → (∀ b, D2 b → D1 b) → (∀ b, V2 b → V b) → J k w1 D2 V2
  x1 : ∀ w1 w2 D1 V, JX w1 D1 V → Below w1.heap.size w1 w2 → ∀ X : Nat → Prop, JX w2 (fun b => D1 b ∨ (lI w1 w2 b ∧ ¬ X b)) (fun b => V b ∨ (lI w1 w2 b ∧ X b))
  x2 : ∀ w1 (D1 D2 V V2 : Nat → Prop), JX w1 D1 V → (∀ b, D2 b → D1 b) → (∀ b, V2 b → V b) → JX w1 D2 V2
  yld : ∀ k y W D1 V u, it.L[k]? = some y → J k W D1 V → (∀ b, D1 b → b < W.heap.size) → aF W D1 it.t y [u] → YieldAt Fence.wide 0 c.P l #[u] W fun e W' =>
      W.heap.size ≤ W'.heap.size ∧ (∀ b, D1 b ∨ V b → W'.heap[b]? = W.heap[b]?) ∧ ((e = .returned (.bool true) ∧ J (k + 1) W' D1 V) ∨ (e = .returned (.bool false) ∧ JX W' D1 V) ∨ ∃ ch, e = .panicked ch ∧ JP ch W' D1 V)
theorem OkY.okS {S : Base} (h : OkY c N fr S) (H : aL1 c it l N fr J JX JP) : OkS c S :=
  ⟨h.P.symm, h.G.symm, by rw [h.P, h.G]; exact H.K, by rw [h.P, h.G]; exact H.I, by rw [h.P]; exact H.m, fun e => by rw [h.sv, h.N]; exact H.rs (by rw [← h.rd]; exact e), fun e => by rw [h.nod, H.rng (by rw [← h.rd]; exact e)]; rfl, by rw [h.P, h.G]; exact H.KP⟩
theorem OkY.F {S : Base} (h : OkY c N fr S) : S.F = Fr fr.ro := by
  unfold Base.F; rw [h.rd]; cases fr.ro <;> rfl
theorem OkY.now {S : Base} (h : OkY c N fr S) {σ : Sig} {a : Act} {w : World} {D : Nat → Prop} {E : Nat → Ent} (hd : aZ S σ a w D E) : (∀ b, fr.Dv b ∨ fr.V b → b < w.heap.size ∧ w.heap[b]? = fr.W.heap[b]?) ∧ (∀ b, fr.Dv b → D b) ∧ (∀ b, fr.V b → ¬ D b) ∧ fr.W.heap.size ≤ w.heap.size := by
  refine ⟨fun b hb => ⟨Nat.lt_of_lt_of_le (h.lt b hb) hd.low.size, (hd.low.block b (h.lt b hb) (h.O b)).trans (h.kept.2 b hb)⟩, fun b hb => hd.dlo b (h.dv b hb), fun b hb g => ?_, Nat.le_trans h.kept.1 hd.low.size⟩
  rcases hd.dhi b g with g | g | g
  · exact h.nv b hb g
  · have := h.lt b (.inr hb); omega
  · exact h.O b g
theorem OkY.next {S : Base} (h : OkY c N fr S) {σ : Sig} {a : Act} {w w' : World} {D : Nat → Prop} {E : Nat → Ent} (hd : aZ S σ a w D E) (hs : w.heap.size ≤ w'.heap.size) (hp : ∀ b, D b ∨ fr.V b → w'.heap[b]? = w.heap[b]?) : OkY c N fr { S with w0 := w', D0 := D, O := fun _ => False } := by
  obtain ⟨n1, n2, n3, n4⟩ := h.now hd
  exact ⟨h.P, h.G, h.N, fun _ g => g, h.sv, h.rd, h.nod, h.gd, ⟨Nat.le_trans n4 hs, fun b hb => (hp b (hb.imp (n2 b) id)).trans (n1 b hb).2⟩, fun b hb => Nat.lt_of_lt_of_le (n1 b hb).1 hs, n2, n3⟩
theorem aGX.now {S : Base} (hS : OkY c N fr S) (H : aL1 c it l N fr J JX JP) {y : Y} (hg : aGX fr J JX y S.w0 S.D0) {σ : Sig} {a : Act} {w : World} {D : Nat → Prop} {E : Nat → Ent} (h : aZ S σ a w D E) : aGX fr J JX y w D := by
  have hb : Below S.w0.heap.size S.w0 w := ⟨h.low.os, h.low.tape, h.low.output, h.low.size, fun k hk => h.low.block k hk (hS.O k)⟩
  have hD : ∀ b, D b → S.D0 b ∨ (lI S.w0 w b ∧ ¬ noV b) := fun b hb => by
    rcases h.dhi b hb with g | g | g
    · exact .inl g
    · exact .inr ⟨⟨g, h.dlt b hb⟩, id⟩
    · exact (hS.O b g).elim
  exact ⟨fun e => H.j2 _ _ _ _ _ _ (H.j1 _ _ _ _ _ (hg.1 e) hb noV) hD fun _ => .inl, fun e => H.x2 _ _ _ _ _ (H.x1 _ _ _ _ (hg.2 e) hb noV) hD fun _ => .inl⟩
theorem aZ.behindYield {S : Base} {s : St} {a : Act} {w w' : World} {D : Nat → Prop} {E : Nat → Ent} (h : aZ S s.sig a w D E) (hm : s.mem = []) (hs : w.heap.size ≤ w'.heap.size) (hk : ∀ b, D b → w'.heap[b]? = w.heap[b]?) (hn : S.nod = true) (hgd : S.gd = []) :
    aZ { S with w0 := w', D0 := D, O := fun _ => False } s.sig a w' D E := by
  have em : s.sig.m = fun _ => none := by
    funext k
    show s.mem.lookup k = none
    rw [hm]; rfl
  have L : Later ⟨w, D, s.sig.m, E⟩ ⟨w', D, s.sig.m, E⟩ := ⟨fun _ g => g, hk⟩
  have nm : ∀ k, vJ ⟨w, D, s.sig.m, E⟩ ⟨w', D, s.sig.m, E⟩ k := fun k b' hb' => ⟨b', hb', rfl, Nat.le_refl _, fun _ => rfl⟩
  have none : ∀ nm b, s.sig.m nm = some b → False := fun nm b hb => by rw [em] at hb; cases hb
  refine ⟨h.sz, ⟨⟨fun _ => h.df.1.1 hn, h.df.1.2⟩, fun d hd => ?_⟩, fun t => AV.rel_mono L (fun k _ => nm k) (h.tm t), fun k b hb => (none k b hb).elim, fun k b hb => (none k b hb).elim, fun k k' b b' hb => (none k b hb).elim, Chg.refl _ _,
    fun b hb => Nat.lt_of_lt_of_le (h.dlt b hb) hs, fun _ g => g, fun _ g => .inl g, h.gl.mono L, AV.relL_mono L (fun k _ => nm k) h.svr, jO.nil fun k i b g => by obtain ⟨_, _, _, _, _, _, g1, _⟩ := g; exact none k _ g1⟩
  rw [h.df.1.1 hn, hgd] at hd; cases hd
theorem aD6 (H : aL1 c it l N fr J JX JP) {y : Y} {S : Base} (hS : OkY c N fr S) (hg : aGX fr J JX y S.w0 S.D0) {a : Act} {w : World} {D : Nat → Prop} {E : Nat → Ent} (hd : aZ S y.s.sig a w D E) (hmem : y.s.mem = []) {o : Oper} {l' : Nat} {ns : List Prop} {v : AV}
    (hy : yieldOf c.G y.s.sig.T true o.op = some (l', ns, v)) {x : it.t.den} (hx : v.as it.t = some x) (hns : ∀ q ∈ ns, q) (hll : l' = l) (hon : y.on = true) (hat : yY it.L y.k x) {K : Act → World → Prop} {R : Exit → Act → World → Prop}
    (hP : ∀ ch a w D, a.defers = [] → JP ch w D fr.V → Kept fr w → R (.panic ch) a w)
    (hK : ∀ (b : Bool) (w' : World) (s' : St), aGX fr J JX ⟨s', y.k + 1, b⟩ w' D → OkY c N fr { S with w0 := w', D0 := D, O := fun _ => False } → aZ { S with w0 := w', D0 := D, O := fun _ => False } y.s.sig a w' D E → K (a.put o.dst (.bool b)) w') : o.wpIn (Fr fr.ro) 0 c.P a w K R := by
  unfold yieldOf at hy
  split at hy
  case h_2 => cases hy
  rename_i f args at_ hop
  split at hy
  case h_2 => cases hy
  rename_i l2 n1 av hf hargs
  simp only [Option.some.injEq, Prod.mk.injEq] at hy
  obtain ⟨hl2, rfl, rfl⟩ := hy
  have hl2 : l2 = l := hl2.trans hll
  rw [hl2] at hf
  have hfv := iZ hd f
  have hav := iZ hd av
  rw [hS.G] at hfv hav
  have hfv2 := vC (g := true) rfl (fun q hq => hns q (List.mem_append.2 (.inl (by rw [hf] at hq; exact hq)))) hfv
  have hav2 := vC (g := true) rfl (fun q hq => hns q (List.mem_append.2 (.inr hq))) hav
  rw [hf] at hfv2
  have hfv3 : a.eval f = .func (.yield l) #[] #[] := hfv2
  have hcell := AV.as_rel hx hav2
  have hgn := hg.now hS H hd
  have hyl := H.yld y.k x w D fr.V (a.eval av) hat (hgn.1 hon) hd.dlt hcell
  obtain ⟨fn, tmps, assign, body, hrun, hround⟩ := hyl
  unfold Oper.wpIn
  refine ⟨fun f _ => aRC _ f, ?_⟩
  have nodef : ∀ d, o.op ≠ .defer d := fun d e => by rw [hop] at e; cases e
  rw [Oper.semAt_eq _ _ _ nodef]
  have hexec : (execOp a.eval o).run c.P w = .ok (.round l fn tmps assign body) w := by
    obtain ⟨dst, op, ty, pos, after, guard⟩ := o
    simp only at hop
    subst hop
    have e1 : args.map a.eval = #[a.eval av] := by
      apply Array.ext'
      rw [Array.toList_map, hargs]; rfl
    simp only [execOp, resolve, e1, hfv3, Deferred.ofValue, Sem.run_bind, Sem.run_pure, Result.andThen_ok, invoke, Array.empty_append]
    simpa using hrun
  rw [hexec, Oper.uponIn_round]
  refine ⟨fun h => (by rw [aHV] at h; cases h), ?_⟩
  refine RoundIn.mono (aQE hround) ?_
  rintro e w' ⟨hsz, hkeep, hres⟩
  have hb := hd.behindYield hmem hsz (fun b hb => hkeep b (.inl hb)) hS.nod hS.gd
  have hnx := hS.next hd hsz hkeep
  rcases hres with ⟨rfl, hj⟩ | ⟨rfl, hj⟩ | ⟨ch, rfl, hj⟩
  · exact hK true w' y.s ⟨fun _ => hj, fun e => (by cases e)⟩ hnx hb
  · exact hK false w' y.s ⟨fun e => (by cases e), fun _ => hj⟩ hnx hb
  · exact hP ch a w' D ((hd.df.1.1 hS.nod).trans hS.gd) hj hnx.kept
theorem aDa (H : aL1 c it l N fr J JX JP) {ops : Array Oper} {Q : Y → Prop} {R : Exit → Act → World → Prop} (hR : ∀ y', Q y' → y'.s.tm.length = N → ∀ a w, aRv c N fr J JX y' a w → R .normal a w) (hP : ∀ ch a w D, a.defers = [] → JP ch w D fr.V → Kept fr w → R (.panic ch) a w) :
    ∀ (os : List Oper) (j : Nat) (y : Y), (∀ i o, os[i]? = some o → ops[j + i]? = some o) → aQq c it l ops os y Q → y.s.tm.length = N → ∀ a w, aRv c N fr J JX y a w → wpOpsIn (Fr fr.ro) 0 c.P ops R (List.range' j os.length) a w
  | [], j, y, _, h, hl, a, w, hs => by
    simp only [List.length_nil, List.range'_zero, wpOpsIn]
    simp only [aQq] at h
    exact hR y h hl a w hs
  | o :: os, j, y, hops, h, hl, a, w, hs => by
    have ho : ops[j]? = some o := by simpa using hops 0 o rfl
    have hos : ∀ i o', os[i]? = some o' → ops[j + 1 + i]? = some o' := fun i o' hi => by
      have := hops (i + 1) o' (by simpa using hi)
      rw [show j + 1 + i = j + (i + 1) by omega]; exact this
    obtain ⟨S, hS, hg, D, E, hd⟩ := hs
    have hlS : y.s.tm.length = S.N := hl.trans hS.N.symm
    simp only [aQq] at h
    split at h
    case h_2 => exact h.elim
    rename_i g hge
    have hwant := aDL (o := o) hd hge
    rw [List.length_cons, List.range'_succ, wpOpsIn_cons]
    split at h
    · -- a yield
      rename_i l' ns v hy
      split at h
      case isFalse => exact h.elim
      rename_i hc
      obtain ⟨hdst, hmem⟩ := hc
      have hmem : y.s.mem = [] := List.isEmpty_iff.1 hmem
      split at h
      case h_2 => exact h.elim
      rename_i x hx
      unfold wpOpIn
      rw [ho]
      simp only
      rw [hwant]
      cases g with
      | false =>
        simp only [Bool.false_eq_true, if_false]
        refine ⟨fun f _ => aRC _ f, aDa H hR hP os (j + 1) _ hos (h.2 rfl) (by simp [setSlot]; split <;> simp [hl]) _ _ ⟨S, hS, hg, D, E, ?_⟩⟩
        exact hd.slot hlS hdst ⟨fun e => (by cases e), fun _ => rfl⟩
      | true =>
        simp only [if_true]
        obtain ⟨hns, hll, hon, hat, hcont⟩ := dO (h.1 rfl)
        refine aD6 H hS hg hd hmem hy hx hns hll hon hat hP fun b w' _ hgh hnx hb => ?_
        exact aDa H hR hP os (j + 1) _ hos (hcont b) (by simp [setSlot]; split <;> simp [hl]) _ _ ⟨{ S with w0 := w', D0 := D, O := fun _ => False }, hnx, hgh, D, E, hb.slot hlS hdst rfl⟩
    · -- another operation
      split at h
      case h_2 => exact h.elim
      rename_i r hr
      split at h
      case isFalse => exact h.elim
      rename_i hok
      obtain ⟨hns, hcont⟩ := dO h
      have hdst : ∀ d, o.dst = some d → d < S.N := by
        intro d hdd
        have e : r.dst = o.dst := by
          unfold lF at hr
          split at hr
          · split at hr
            · unfold aGg at hr
              split at hr
              · cases hr; rfl
              · split at hr
                · cases hr; rfl
                · cases hr
            · cases hr
          · cases hr
        have h2 := hok.1
        unfold kU at h2
        simp only [Bool.and_eq_true] at h2
        have := h2.1
        rw [e, hdd] at this
        rw [← hlS]; simpa using this
      have hK : aQ S.P S.G c.K := (hS.okS H).K
      have hr' : lF S.P S.G c.K (c.mt o) ops y.s.nx y.s.sig o = some r := by rw [hS.P, hS.G]; exact hr
      have := wJ (Q := R) hK ho ⟨D, E, hd⟩ hdst hr' hns (fun k hk => by
        have := hok.2
        unfold aES at this
        rw [hk] at this
        exact aG1 this)
      rw [hS.F, hS.P] at this
      refine wpOpIn_mono (fun a' w' h' => aDa H hR hP os (j + 1) _ hos hcont (by rw [mQ]; exact hl) a' w' ⟨S, hS, hg, ?_⟩) this
      show Sim S (fU r y.s).sig a' w'
      rw [kW hok.1]
      exact h'
theorem aA0 (rs qs : List Rec) (s : St) {j : Nat} (h : j ≤ rs.length) : kF (rs ++ qs) s j = kF rs s j := by
  unfold kF; rw [List.take_append_of_le_length h]
theorem aAs (s : St) : fU dflt s = s := rfl
theorem aEi (s : St) : ∀ n, kF (List.replicate n dflt) s n = s
  | 0 => rfl
  | n + 1 => by
    have h := rH (List.replicate (n + 1) dflt) s n dflt (by simp)
    rw [h, aAs]
    have e : List.replicate (n + 1) dflt = List.replicate n dflt ++ [dflt] := by rw [List.replicate_succ']
    rw [e, aA0 _ _ _ (by simp)]
    exact aEi s n
theorem aEj (n : Nat) (rs : List Rec) (s : St) (j : Nat) : kF (List.replicate n dflt ++ rs) s (n + j) = kF rs s j := by
  have h0 := aEi s n
  unfold kF at h0 ⊢
  rw [List.take_append, List.foldl_append]
  simp only [List.length_replicate, Nat.add_sub_cancel_left]
  rw [List.take_of_length_le (by simp)]
  rw [List.take_of_length_le (by simp)] at h0
  rw [h0]
theorem aEv {rs : List Rec} {d d' : Nat → Bool} {σ : Sig} {n : Nat} (h : ∀ i, i < n → d i = d' i ∨ rs[i]? = some dflt) : jR (dU rs) d n σ = jR (dU rs) d' n σ := by
  induction n with
  | zero => rfl
  | succ n ih =>
    have ih := ih fun i hi => h i (by omega)
    simp only [jR]
    rw [ih]
    rcases h n (by omega) with e | e
    · rw [e]
    · have : ∀ σ, dU rs n σ = σ := fun σ => by
        unfold dU
        rw [e]
        show (⟨upT σ.T none .top, upM σ.m [], σ.sv⟩ : Sig) = σ
        have e1 : upT σ.T none .top = σ.T := by funext t; simp [upT]
        have e2 : upM σ.m [] = σ.m := by funext t; simp [upM]
        rw [e1, e2]
      split <;> split <;> simp [this]
theorem aN6 (H : aL1 c it l N fr J JX JP) {ops : Array Oper} {Q : Y → Prop} {R : Exit → Act → World → Prop} (hR : ∀ y', Q y' → y'.s.tm.length = N → ∀ a w, aRv c N fr J JX y' a w → R .normal a w) (hP : ∀ ch a w D, a.defers = [] → JP ch w D fr.V → Kept fr w → R (.panic ch) a w)
    {y : Y} (h : aRd c it l ops y Q) (hl : y.s.tm.length = N) {a : Act} {w : World} (hs : aRv c N fr J JX y a w) {id : Nat} : (Code.region id ops true).wpIn (Fr fr.ro) 0 c.P R a w := by
  unfold aRd at h
  split at h
  case h_2 => exact h.elim
  rename_i o rs ho hrs
  obtain ⟨q, hq⟩ : ∃ q, q = ops.toList.findIdx fO := ⟨_, rfl⟩
  obtain ⟨tbl, htbl⟩ : ∃ tbl, tbl = mV [] ops.toList := ⟨_, rfl⟩
  rw [← hq] at ho hrs
  rw [← hq, ← htbl] at h
  split at h
  case isFalse => exact h.elim
  rename_i hc
  obtain ⟨n1, n2, n3, n4, n5, n6⟩ := hc
  split at h
  case h_2 => exact h.elim
  rename_i l' ns v hy
  split at h
  case h_2 => exact h.elim
  rename_i x hx
  obtain ⟨hrn, h⟩ := dO h
  obtain ⟨hns, hll, hon, hat, hcont⟩ := dO h
  have hqs : q < ops.size := (Array.getElem?_eq_some_iff.1 ho).1
  have hqs' : q < ops.toList.length := by simpa using hqs
  have hgd : o.guard = none := by simpa using n2
  have nk : ∀ j, j < ops.size → (j < q → (tbl.getD q 0).testBit j = true) ∧ (q < j → (tbl.getD j 0).testBit q = true) := fun j hj => by
    unfold aVT at n1
    rw [List.all_eq_true] at n1
    have := n1 j (by simpa using hj)
    refine ⟨fun g => ?_, fun g => ?_⟩
    · rw [if_pos g] at this; exact this
    · rw [if_neg (by omega)] at this
      simp only [Bool.or_eq_true, beq_iff_eq] at this
      rcases this with e | e
      · omega
      · exact e
  obtain ⟨S, hS, hg, D, E, hd⟩ := hs
  have hlS : y.s.tm.length = S.N := hl.trans hS.N.symm
  have HO := hS.okS H
  obtain ⟨hlen, hatr⟩ := aA7 hrs
  have hlen : rs.length = q := by rw [hlen, List.length_take]; omega
  obtain ⟨rsA, hA⟩ : ∃ rsA, rsA = rs ++ List.replicate (ops.size - q) dflt := ⟨_, rfl⟩
  rw [← hA] at n5 n6
  have lenA : rsA.length = ops.size := by rw [hA, List.length_append, List.length_replicate, hlen]; omega
  have aEE : ∀ (j : Nat) o r, ops[j]? = some o → j < q → rsA[j]? = some r → rs[j]? = some r ∧ lF S.P S.G c.K (aRJ c.mb o) ops (kF rsA y.s j).nx (kF rsA y.s j).sig o = some r ∧ kU r y.s.tm.length = true := fun j o r ho hj hr => by
    have hr' : rs[j]? = some r := by rw [hA, List.getElem?_append_left (by omega)] at hr; exact hr
    have h2 := hatr j o r (by rw [List.getElem?_take, if_pos hj]; simpa using ho) hr'
    rw [HO.P, HO.G] at h2
    rw [hA, aA0 _ _ _ (by omega)]
    exact ⟨hr', h2⟩
  have okA : ∀ (j : Nat) (r : Rec), rsA[j]? = some r → kU r y.s.tm.length = true := fun j r hr => by
    have hj : j < ops.size := by rw [← lenA]; exact (List.getElem?_eq_some_iff.1 hr).1
    rcases Nat.lt_or_ge j q with g | g
    · exact (aEE j _ r (Array.getElem?_eq_getElem hj) g hr).2.2
    · rw [hA, List.getElem?_append_right (by omega), List.getElem?_replicate] at hr
      split at hr
      · cases hr; rfl
      · cases hr
  have dstOf : ∀ {r : Rec} {o : Oper} {nx : Nat} {σ : Sig} {mt : Bool}, lF S.P S.G c.K mt ops nx σ o = some r → kU r y.s.tm.length = true → ∀ d, o.dst = some d → d < S.N := fun {r o nx σ mt} h1 h2 d hd => by
    unfold kU at h2
    simp only [Bool.and_eq_true] at h2
    have h3 := h2.1
    rw [(nZ h1).1, hd] at h3
    rw [← hlS]; simpa using h3
  rw [← hS.F, ← hS.P]
  refine wpIn_region_any HO.m ?_
  have hsA : Sim S y.s.sig a { w with drawn := w.drawn + 1 } := Sim.draw ⟨D, E, hd⟩
  refine aDO (mb := c.mb) (rs := rsA) (k := 0) (q := q) HO.K lenA hlS (fun j o r ho hr hlv => ?_) okA n5 n6 (fun h => absurd hqs (by omega)) (fun _ n listed a1 w1 hsz hqf hcnt hanc hdesc hrok hsim => ?_)
    ops.size (Array.replicate ops.size false) a _ (by simp) (Nat.le_trans (List.length_filter_le _ _) (by simp)) (fun i hi => by omega) (fun _ => ?_) (fun i j hij hj hb hl => ?_) ?_
  · have hj : j < ops.size := (Array.getElem?_eq_some_iff.1 ho).1
    have hjq : j < q := by
      rcases Nat.lt_trichotomy j q with g | g | g
      · exact g
      · exact (hlv.2.1 g).elim
      · have := (nk j hj).2 g; rw [hlv.2.2] at this; cases this
    obtain ⟨g0, g1, g2⟩ := aEE j o r ho hjq hr
    exact ⟨g1, dstOf g1 g2, fun p hp => hrn p (List.mem_flatMap.2 ⟨r, List.mem_of_getElem? g0, hp⟩)⟩
  · -- the operation itself
    obtain ⟨s1, hs1⟩ : ∃ s1, s1 = kF rs y.s q := ⟨_, rfl⟩
    rw [← hs1] at n4 hy hcont
    have e1 : jR (dU rsA) (fun i => listed.getD i false) ops.size y.s.sig = s1.sig := by
      have e2 : jR (dU rsA) (fun i => listed.getD i false) ops.size y.s.sig = jR (dU rsA) aLD ops.size y.s.sig := aEv fun i hi => by
        rcases Nat.lt_or_ge i q with g | g
        · exact .inl (hanc i ((nk i hi).1 g))
        · exact .inr (by rw [hA, List.getElem?_append_right (by omega), List.getElem?_replicate, if_pos (by omega)])
      rw [e2, tY okA ops.size (by rw [lenA]; exact Nat.le_refl _), hs1]
      have e3 : kF rsA y.s ops.size = kF rs y.s q := by
        have : ∀ m, q + m ≤ ops.size → kF rsA y.s (q + m) = kF rs y.s q := by
          intro m
          induction m with
          | zero => intro _; rw [hA]; exact aA0 _ _ _ (by omega)
          | succ m ih =>
            intro hm
            have hr : rsA[q + m]? = some dflt := by rw [hA, List.getElem?_append_right (by omega), List.getElem?_replicate, if_pos (by omega)]
            rw [show q + (m + 1) = (q + m) + 1 by omega, rH _ _ _ _ hr, aAs]
            exact ih (by omega)
        have := this (ops.size - q) (by omega)
        rwa [show q + (ops.size - q) = ops.size by omega] at this
      rw [e3]
    rw [e1] at hsim
    obtain ⟨D1, E1, hd1⟩ := (show Sim _ _ _ _ from hsim)
    have l1 : s1.tm.length = S.N := by rw [hs1, pI]; exact hlS
    unfold wpOpIn
    rw [ho]
    simp only
    rw [show Region.wanted o (yielded ops a1.tmps) = true by unfold Region.wanted; rw [hgd]]
    simp only [if_true]
    rw [hS.F, hS.P]
    refine aD6 (y := ⟨s1, y.k, y.on⟩) H hS hg hd1 (List.isEmpty_iff.1 n4) hy hx hns hll hon hat hP fun b w' _ hgh hnx hb => ?_
    have hc2 := hcont b
    split at hc2
    case h_2 => exact hc2.elim
    rename_i rs2 hrs2
    split at hc2
    case isFalse => exact hc2.elim
    rename_i hk2
    obtain ⟨m1, m2⟩ := hk2
    obtain ⟨g1, g2⟩ := dO hc2
    obtain ⟨s2, hs2⟩ : ∃ s2, s2 = setSlot o.dst (.dat .bool b) s1 := ⟨_, rfl⟩
    rw [← hs2] at hrs2 m1 g2
    obtain ⟨rsB, hB⟩ : ∃ rsB, rsB = List.replicate (q + 1) dflt ++ rs2 := ⟨_, rfl⟩
    rw [← hB] at m1 m2
    obtain ⟨S2, hS2⟩ : ∃ S2 : Base, S2 = { S with w0 := w', D0 := D1, O := fun _ => False } := ⟨_, rfl⟩
    have hO2 : OkY c N fr S2 := by rw [hS2]; exact hnx
    have HO2 := hO2.okS H
    have l2 : s2.tm.length = S2.N := by rw [hs2, hS2]; simp [setSlot]; split <;> simp [l1]
    have hd2 : aZ S2 s2.sig (a1.put o.dst (.bool b)) w' D1 E1 := by
      rw [hs2, hS2]
      have n3' : vT o.dst s1.tm.length = true := by rw [l1, ← hlS]; exact n3
      exact hb.slot (show s1.tm.length = S.N from l1) n3' rfl
    obtain ⟨hlen2, hatr2⟩ := aA7 hrs2
    have hlen2 : rs2.length = ops.size - (q + 1) := by rw [hlen2, List.length_drop]; simp
    have lenB : rsB.length = ops.size := by rw [hB, List.length_append, List.length_replicate, hlen2]; omega
    have recB : ∀ (j : Nat) o r, ops[j]? = some o → q < j → rsB[j]? = some r → rs2[j - (q + 1)]? = some r ∧ lF S2.P S2.G c.K (aRJ c.mb o) ops (kF rsB s2 j).nx (kF rsB s2 j).sig o = some r ∧ kU r s2.tm.length = true := fun j o r ho hj hr => by
      have hr' : rs2[j - (q + 1)]? = some r := by rw [hB, List.getElem?_append_right (by simp; omega)] at hr; simpa using hr
      have h2 := hatr2 (j - (q + 1)) o r (by rw [List.getElem?_drop, show q + 1 + (j - (q + 1)) = j by omega]; simpa using ho) hr'
      rw [HO2.P, HO2.G] at h2
      have e5 : kF rsB s2 j = kF rs2 s2 (j - (q + 1)) := by
        have := aEj (q + 1) rs2 s2 (j - (q + 1))
        rw [show q + 1 + (j - (q + 1)) = j by omega] at this
        rw [hB]; exact this
      rw [e5]
      exact ⟨hr', h2⟩
    have okB : ∀ (j : Nat) (r : Rec), rsB[j]? = some r → kU r s2.tm.length = true := fun j r hr => by
      have hj : j < ops.size := by rw [← lenB]; exact (List.getElem?_eq_some_iff.1 hr).1
      rcases Nat.lt_or_ge q j with g | g
      · exact (recB j _ r (Array.getElem?_eq_getElem hj) g hr).2.2
      · rw [hB, List.getElem?_append_left (by simp; omega), List.getElem?_replicate] at hr
        split at hr
        · cases hr; rfl
        · cases hr
    have eset : ∀ i, (listed.setIfInBounds q true).getD i false = if i = q then true else listed.getD i false := by
      intro i
      simp only [Array.getD_eq_getD_getElem?, Array.getElem?_setIfInBounds]
      by_cases e : q = i
      · subst e; simp [hsz, hqs]
      · rw [if_neg e, if_neg (fun h => e h.symm)]
    have lst : ∀ i, i < ops.size → (listed.setIfInBounds q true).getD i false = decide (i ≤ q) := fun i hi => by
      rw [eset]
      rcases Nat.lt_trichotomy i q with g | g | g
      · rw [if_neg (by omega), hanc i ((nk i hi).1 g)]; simp; omega
      · rw [if_pos g]; simp; omega
      · rw [if_neg (by omega), hdesc i ((nk i hi).2 g) hi]; simp; omega
    rw [← hO2.F, ← hO2.P]
    refine aDO (mb := c.mb) (rs := rsB) (k := q + 1) (q := ops.size) HO2.K lenB l2 (fun j o r ho hr hlv => ?_) okB m1 m2 (fun _ a3 w3 h3 => ?_) (fun h => absurd h (by omega))
      n (listed.setIfInBounds q true) _ _ (by simpa using hsz) ?_ (fun i hi hil => ?_) (fun h => absurd h (by omega)) (fun i j hij hj hb hl => ?_) ?_
    · obtain ⟨q0, q1, q2⟩ := recB j o r ho (by have := hlv.1; omega) hr
      refine ⟨q1, fun d hd => ?_, fun p hp => g1 p (List.mem_flatMap.2 ⟨r, List.mem_of_getElem? q0, hp⟩)⟩
      unfold kU at q2
      simp only [Bool.and_eq_true] at q2
      have h3 := q2.1
      rw [(nZ q1).1, hd] at h3
      rw [← l2]; simpa using h3
    · refine hR _ g2 ?_ a3 w3 ⟨S2, hO2, ?_, ?_⟩
      · rw [show (Y.mk (kF rs2 s2 rs2.length) (y.k + 1) b).s = kF rs2 s2 rs2.length from rfl, pI]; exact l2.trans hO2.N
      · rw [hS2]; exact hgh
      · have e6 : kF rsB s2 rsB.length = kF rs2 s2 rs2.length := by
          have := aEj (q + 1) rs2 s2 rs2.length
          rw [hB, List.length_append, List.length_replicate]; exact this
        rw [e6] at h3; exact h3
    · have hun : listed.getD q true = false := by
        have : listed.getD q true = listed.getD q false := by simp [Array.getD, hsz, hqs]
        rw [this]; exact hqf
      have := aG0 hsz hqs hun
      omega
    · rw [lst i hil]; simp; omega
    · rw [lst j hj] at hl
      rw [lst i (by omega)]
      simp only [decide_eq_true_eq] at hl ⊢
      omega
    · have e7 : jR (dU rsB) (fun i => (listed.setIfInBounds q true).getD i false) ops.size s2.sig = s2.sig := by
        have e8 : jR (dU rsB) (fun i => (listed.setIfInBounds q true).getD i false) ops.size s2.sig = jR (dU rsB) (fun _ => false) ops.size s2.sig := aEv fun i hi => by
          rcases Nat.lt_or_ge q i with g | g
          · refine .inl ?_
            rw [lst i hi]; simp; omega
          · exact .inr (by rw [hB, List.getElem?_append_left (by simp; omega), List.getElem?_replicate, if_pos (by omega)])
        rw [e8]
        have : ∀ n, jR (dU rsB) (fun _ => false) n s2.sig = s2.sig := by
          intro n
          induction n with
          | zero => rfl
          | succ n ih => simp only [jR, Bool.false_eq_true, if_false]; exact ih
        exact this _
      rw [e7]; exact ⟨D1, E1, hd2⟩
  · rw [Array.getD_eq_getD_getElem?]; simp [hqs]
  · rw [Array.getD_eq_getD_getElem?] at hl
    simp [hj] at hl
  · have : ∀ n, jR (dU rsA) (fun i => (Array.replicate ops.size false).getD i false) n y.s.sig = y.s.sig := by
      intro n
      induction n with
      | zero => rfl
      | succ n ih =>
        have : (Array.replicate ops.size false).getD n false = false := by
          rw [Array.getD_eq_getD_getElem?]
          cases h : (Array.replicate ops.size false)[n]? with
          | none => rfl
          | some v => rw [Array.getElem?_replicate] at h; split at h <;> cases h; rfl
        simp only [jR, this, Bool.false_eq_true, if_false]; exact ih
    rw [this]; exact hsA
theorem aAn {rg : Array Oper → Bool → Y → (Y → Prop) → Prop} {F : Fence} {X : Y → Act → World → Prop} {PQ : List PanicEntry → Act → World → Prop}
    (HX : ∀ y a w, X y a w → ∃ S, OkS c S ∧ S.F = F ∧ S.N = N ∧ Sim S y.s.sig a w ∧ ∀ s' a' w', Sim S s'.sig a' w' → X ⟨s', y.k, y.on⟩ a' w')
    (Hr : ∀ (id : Nat) (ops : Array Oper) (draw : Bool) (y : Y) (Q : Y → Prop) (R : Exit → Act → World → Prop), rg ops draw y Q → y.s.tm.length = N → (∀ y', Q y' → y'.s.tm.length = N → ∀ a w, X y' a w → R .normal a w) → (∀ ch a w, PQ ch a w → R (.panic ch) a w) → ∀ a w, X y a w → (Code.region id ops draw).wpIn F 0 c.P R a w)
    {A : aJm} : ∀ (x : Code) (y : Y) (Q : Exit → Y → Prop) (R : Exit → Act → World → Prop), evZ c rg A x y Q → y.s.tm.length = N →
    (∀ e y', Q e y' → y'.s.tm.length = N → ∀ a w, X y' a w → R e a w) → (∀ ch a w, PQ ch a w → R (.panic ch) a w) → ∀ a w, X y a w → x.wpIn F 0 c.P R a w
  | .skip, y, Q, R, h, hl, hR, hP, a, w, hs => by
    unfold evZ at h
    exact wpIn_skip (hR _ y h hl a w hs)
  | .region id ops draw, y, Q, R, h, hl, hR, hP, a, w, hs => by
    have key : ∀ y1 : Y, y1.s.tm.length = N → X y1 a w → (if A.yr id = true then rg ops draw y1 (Q .normal) else aRH c ops draw y1.s fun s' => Q .normal ⟨s', y1.k, y1.on⟩) → (Code.region id ops draw).wpIn F 0 c.P R a w := by
      intro y1 hl1 hs1 h1
      split at h1
      · exact Hr id ops draw y1 _ R h1 hl1 (fun y' hq hl' a' w' hs' => hR .normal y' hq hl' a' w' hs') hP a w hs1
      · obtain ⟨S, HO, hF, hN, hsim, hback⟩ := HX _ _ _ hs1
        unfold aRH at h1
        split at h1
        · rename_i ns s' he
          obtain ⟨g1, g2⟩ := dO h1
          have := aOV (S := S) HO.P HO.G HO.K HO.m he g1 (hl1.trans hN.symm) hsim (id := id) (Q := R) (fun a' w' hs' => hR .normal ⟨s', y1.k, y1.on⟩ g2 ((aKm he).trans hl1) a' w' (hback s' a' w' hs'))
          rw [hF, ← HO.P] at this
          exact this
        · exact h1.elim
    unfold evZ at h
    split at h
    · rename_i s1 _
      split at h
      · rename_i ms hms
        obtain ⟨g1, g2⟩ := dO h
        obtain ⟨S, HO, hF, hN, hsim, hback⟩ := HX _ _ _ hs
        exact key ⟨s1, y.k, y.on⟩ ((uJ hms).symm.trans hl) (hback s1 a w (aG8 hsim hms g1)) g2
      · exact h.elim
    · exact key y hl hs h
  | .seq x z, y, Q, R, h, hl, hR, hP, a, w, hs => by
    unfold evZ at h
    refine wpIn_seq (aAn HX Hr x y _ (Exit.then (z.wpIn F 0 c.P R) R) h hl (fun e y' hq hl' a' w' hs' => ?_) (fun ch a w h1 => hP ch a w h1) a w hs)
    cases e <;> first
      | exact aAn HX Hr z y' Q R hq hl' hR hP a' w' hs'
      | exact hR _ y' hq hl' a' w' hs'
  | .cond t x z, y, Q, R, h, hl, hR, hP, a, w, hs => by
    unfold evZ at h
    split at h
    case h_2 => exact h.elim
    rename_i ns b hc
    obtain ⟨g1, g2, g3⟩ := dO h
    obtain ⟨S, HO, hF, hN, ⟨D, E, hs0⟩, hback⟩ := HX _ _ _ hs
    have hrel := iZ hs0 t
    rw [← HO.G] at hrel
    have hb : a.eval t = .bool b := by
      unfold aOc at hc
      split at hc
      · rename_i b' hv
        cases hc
        rw [hv] at hrel
        simpa only [AV.rel, aF, List.cons.injEq, and_true] using hrel
      · rename_i g b' hv
        cases hc
        rw [hv] at hrel
        have hg : g = true := g1 _ (by simp)
        simpa only [AV.rel, aF, List.cons.injEq, and_true] using hrel.1 hg
      · cases hc
    exact wpIn_cond_split hb (fun e => aAn HX Hr x y Q R (g2 e) hl hR hP a w hs) (fun e => aAn HX Hr z y Q R (g3 e) hl hR hP a w hs)
  | .block id x, y, Q, R, h, hl, hR, hP, a, w, hs => by
    unfold evZ at h
    refine wpIn_block (aAn HX Hr x y _ (Exit.inBlock id R) h hl (fun e y' hq hl' a' w' hs' => ?_) (fun ch a w h1 => hP ch a w h1) a w hs)
    cases e <;> first
      | exact hR _ y' hq hl' a' w' hs'
      | (rename_i id'
         simp only [Exit.inBlock]
         simp only at hq
         split at hq
         · rename_i e; rw [if_pos e]; exact hR _ y' hq hl' a' w' hs'
         · rename_i e; rw [if_neg e]; exact hR _ y' hq hl' a' w' hs')
  | .exit id, y, Q, R, h, hl, hR, hP, a, w, hs => by unfold evZ at h; exact wpIn_exit (hR _ y h hl a w hs)
  | .ret, y, Q, R, h, hl, hR, hP, a, w, hs => by unfold evZ at h; exact wpIn_ret (hR _ y h hl a w hs)
  | .loop x, y, Q, R, h, hl, hR, hP, a, w, hs => by
    unfold evZ at h
    split at h
    case h_2 => exact h.elim
    split at h
    case h_2 => exact h.elim
    rename_i sp _
    obtain ⟨⟨x0, i1, i2⟩, h2⟩ := h
    have le : ∀ {y y' : Y} {a : Act} {w : World}, leY y y' → X y a w → X y' a w := by
      rintro y ⟨s', k', on'⟩ a w ⟨l1, l2, l3⟩ hx
      obtain ⟨S, _, _, _, hsim, hback⟩ := HX _ _ _ hx
      have := hback s' a w (aDx l1 hsim)
      rw [l2, l3] at this; exact this
    refine wpIn_loop_ghost (fun n a w => ∃ z, sp.inv z ∧ sp.μ z = n ∧ (sp.st z).s.tm.length = N ∧ X (sp.st z) a w) (sp.μ x0) ⟨x0, i1, rfl, (aBC i2.1).symm.trans hl, le i2 hs⟩ ?_
    rintro n a w ⟨z, j1, rfl, j2, j3⟩
    refine aAn HX Hr x (sp.st z) _ (Exit.then (fun a' w' => ∃ n', n' < sp.μ z ∧ ∃ z, sp.inv z ∧ sp.μ z = n' ∧ (sp.st z).s.tm.length = N ∧ X (sp.st z) a' w') R) (h2 z j1) j2 (fun e y' hq hl' a' w' hs' => ?_) (fun ch a w h1 => hP ch a w h1) a w j3
    cases e <;> first
      | (obtain ⟨z', k1, k2, k3⟩ := hq; exact ⟨sp.μ z', k3, z', k1, rfl, (aBC k2.1).symm.trans hl', le k2 hs'⟩)
      | exact hR _ y' hq hl' a' w' hs'
  | .rangeFunc _ _ _ _, _, _, _, h, _, _, _, _, _, _ => by unfold evZ at h; exact h.elim
  | .scope _, _, _, _, h, _, _, _, _, _, _ => by unfold evZ at h; exact h.elim
  | .label _, _, _, _, h, _, _, _, _, _, _ => by unfold evZ at h; exact h.elim
  | .goto _, _, _, _, h, _, _, _, _, _, _ => by unfold evZ at h; exact h.elim
  | .refuse _, _, _, _, h, _, _, _, _, _, _ => by unfold evZ at h; exact h.elim
theorem aPa (H : aL1 c it l N fr J JX JP) {A : aJm} (x : Code) (y : Y) (Q : Exit → Y → Prop) (R : Exit → Act → World → Prop) (h : evY c it l A x y Q) (hl : y.s.tm.length = N)
    (hR : ∀ e y', Q e y' → y'.s.tm.length = N → ∀ a w, aRv c N fr J JX y' a w → R e a w) (hP : ∀ ch a w D, a.defers = [] → JP ch w D fr.V → Kept fr w → R (.panic ch) a w) (a : Act) (w : World) (hs : aRv c N fr J JX y a w) : x.wpIn (Fr fr.ro) 0 c.P R a w := by
  refine aAn (X := aRv c N fr J JX) (PQ := fun ch a w => a.defers = [] ∧ ∃ D, JP ch w D fr.V ∧ Kept fr w) (fun y a w ⟨S, hS, hg, hsim⟩ => ⟨S, hS.okS H, hS.F, hS.N, hsim, fun s' a' w' hs' => ⟨S, hS, hg, hs'⟩⟩)
    (fun id ops draw y Q R hr hl hR hP a w hs => ?_) x y Q R h hl hR (fun ch a w ⟨h1, D, h2, h3⟩ => hP ch a w D h1 h2 h3) a w hs
  have hP' : ∀ ch a w D, a.defers = [] → JP ch w D fr.V → Kept fr w → R (.panic ch) a w := fun ch a w D h1 h2 h3 => hP ch a w ⟨h1, D, h2, h3⟩
  unfold rgY at hr
  split at hr
  · rename_i hdr
    subst hdr
    exact aN6 H hR hP' hr hl hs
  · rename_i hdr
    have hdr : draw = false := by simpa using hdr
    subst hdr
    refine wpIn_region ?_
    have := aDa H (Q := Q) (R := R) hR hP' ops.toList 0 y (fun i o ho => by simpa using ho) hr hl a w hs
    rw [List.range_eq_range']
    simpa using this
end
theorem aCP {c : Cfg} {A : aJm} {f : FuncId} {caps : List AV} {it : oW} (hK : aQ c.P c.G c.K) (hI : dF c.P c.G c.KI) (hm : c.P.follows .mixedOrders = true) (h : evI c A f caps it) (hKP : c.KP = fun _ _ _ => none := by rfl) : zQ c.P c.G f caps it := by
  intro hpre l J JX JP w D us hD hG hcaps j1 j2 _ x1 x2 _ _ hyld h0
  unfold evI at h
  split at h
  case h_2 => exact h.elim
  rename_i fn hf
  split at h
  case h_2 => exact h.elim
  rename_i b hb
  obtain ⟨hres, hnm, hone, hrng, h⟩ := h
  have h := h l hpre
  obtain ⟨fr, hfr⟩ : ∃ fr : FrY, fr = { ro := none, sv := [], V := noV, Dv := noV, W := w } := ⟨_, rfl⟩
  have H : aL1 c it l ((caps.length + 1) + (fn.ntmps - (caps.length + 1))) fr J JX JP := ⟨hK, hI, (fun f args m r h => by rw [hKP] at h; cases h), hm, fun _ => hrng, fun g => (by rw [hfr] at g; exact (g rfl).elim), by unfold one1 at hone; simpa using hone, j1, j2, x1, x2, hyld⟩
  have hlen : caps.length = us.length := AV.relL_length hcaps
  have hargs : AV.relL c.P ⟨w, D, noM, noE⟩ (.yld l :: caps) (.func (.yield l) #[] #[] :: us) := ⟨_, _, rfl, rfl, hcaps⟩
  have earr : #[Value.func (.yield l) #[] #[]] ++ us.toArray = (Value.func (.yield l) #[] #[] :: us).toArray := by simp
  rw [earr]
  obtain ⟨S, hS⟩ : ∃ S : Base, S = { P := c.P, w0 := w, D0 := D, N := (caps.length + 1) + (fn.ntmps - (caps.length + 1)), O := fun _ => False, G := c.G, sv := [], rd := none, nod := true } := ⟨_, rfl⟩
  refine callsIn_of_wp_marks hf hb trivial ?_
  suffices hsuf : b.wpIn (Fr fr.ro) 0 c.P (bodyPostM Fence.wide 0 c.P fn fun e W' => ((∃ v, e = .returned v) ∧ ((∃ D2, J it.L.length W' D2 noV) ∨ ∃ D2, JX W' D2 noV)) ∨ ∃ ch, e = .panicked ch ∧ ∃ D2 V2, JP ch W' D2 V2) { tmps := (Value.func (.yield l) #[] #[] :: us).toArray ++ Array.replicate (fn.ntmps - (Value.func (.yield l) #[] #[] :: us).toArray.size) undef, defers := [] } w by
    rw [hfr] at hsuf; exact hsuf
  have hstart : aZ S (zU fn l caps).s.sig { tmps := (Value.func (.yield l) #[] #[] :: us).toArray ++ Array.replicate (fn.ntmps - (Value.func (.yield l) #[] #[] :: us).toArray.size) undef, defers := [] } w D noE := by
    rw [hS]
    refine ⟨?_, ⟨⟨fun _ => rfl, ⟨[], rfl⟩, List.Pairwise.nil⟩, fun d hd => (by cases hd)⟩, fun t => ?_, fun nm b hm => (by cases hm), fun nm b hm => (by cases hm), fun nm nm' b b' hm => (by cases hm), Chg.refl _ _, hD, fun b hb => hb, fun b hb => .inl hb,
      hG, rfl, jO.nil fun k i b g => (by obtain ⟨_, _, _, _, _, _, g1, _⟩ := g; cases g1)⟩
    · simp [hlen]
    · show (((.yld l :: caps) ++ List.replicate (fn.ntmps - (caps.length + 1)) (AV.val undef)).getD t .top).rel c.P ⟨w, D, noM, noE⟩ _
      rw [List.getD_eq_getElem?_getD, Array.getD_eq_getD_getElem?]
      by_cases ht : t < (AV.yld l :: caps).length
      · rw [List.getElem?_append_left ht, Array.getElem?_append_left (by simpa [hlen] using ht)]
        obtain ⟨u, g1, g2⟩ := AV.relL_get hargs (List.getElem?_eq_getElem ht)
        rw [List.getElem?_eq_getElem ht]
        simp only [List.getElem?_toArray, g1, Option.getD_some]
        exact g2
      · rw [List.getElem?_append_right (by omega), Array.getElem?_append_right (by simp [← hlen] at ht ⊢; omega)]
        rw [List.getElem?_replicate, Array.getElem?_replicate]
        split
        · rename_i h1
          rw [if_pos (by simp [← hlen] at h1 ⊢; omega)]
          rfl
        · trivial
  refine aPa (N := (caps.length + 1) + (fn.ntmps - (caps.length + 1))) H b (zU fn l caps) (aT9 it) _ h (by simp [zU]; omega) (fun e y' hq hl a' w' hs' => ?_) (fun ch a w D hd hj _ => ?_) _ w ⟨S, by rw [hS, hfr]; exact ⟨rfl, rfl, rfl, fun _ g => g, rfl, rfl, rfl, rfl, ⟨Nat.le_refl _, fun _ g => g.elim (fun g => g.elim) fun g => g.elim⟩, fun _ g => g.elim (fun g => g.elim) fun g => g.elim, fun _ g => g.elim, fun _ g => g.elim⟩, ⟨fun _ => by rw [hS, hfr]; exact h0, fun e => by cases e⟩, D, noE, hstart⟩
  have key : (y'.on = true → y'.k = it.L.length) → LeavesInM Fence.wide 0 c.P fn a'.tmps (fun e W' => ((∃ v, e = .returned v) ∧ ((∃ D2, J it.L.length W' D2 noV) ∨ ∃ D2, JX W' D2 noV)) ∨ ∃ ch, e = .panicked ch ∧ ∃ D2 V2, JP ch W' D2 V2) a'.defers .returning w' := by
    intro hq
    obtain ⟨S', hS', hg, D', E', hd⟩ := hs'
    have hdef : a'.defers = [] := (hd.df.1.1 hS'.nod).trans hS'.gd
    rw [hdef]
    have hgn := hg.now hS' H hd
    have hr : fn.results = #[] := by
      apply Array.ext'
      exact List.isEmpty_iff.1 hres
    refine ⟨.tuple #[], by simp [results, hr], .inl ⟨⟨_, rfl⟩, ?_⟩⟩
    cases hon : y'.on with
    | true => exact .inl ⟨D', by have := hgn.1 hon; rw [hfr] at this; rw [← hq hon]; exact this⟩
    | false => exact .inr ⟨D', by have := hgn.2 hon; rw [hfr] at this; exact this⟩
  · cases e <;> first
      | exact key hq
      | exact hq.elim
  · show LeavesInM _ _ _ _ _ _ _ _ _
    rw [hd]
    exact .inr ⟨ch, rfl, D, _, hj⟩
end Go.Eng
