/- The engine, part 2: the state and what it says of frame and world; how it goes on. -/
import Derived.Test.YtlobbofhlcjlmaaZ1
set_option linter.unusedSimpArgs false
set_option linter.unusedVariables false
namespace Go.Eng
open Go.RowKit

/-- What the elements of a buffer say of its raw cells. -/
def relElems (P : Program) (C : Ctx) (t : Ty) (xs : List t.den) (ov : List (Nat × AV)) (raw : List Value) : Prop :=
  ∀ (i : Nat) (y : t.den), xs[i]? = some y → match ov.lookup i with
    | none => relCells C.w C.D t y ((raw.drop (i * t.sz)).take t.sz)
    | some a => t.sz = 1 ∧ ∃ u, raw[i]? = some u ∧ u.oneCell' = true ∧ a.rel P C u

/-- One of its own rows. -/
def RowRel (P : Program) (base : Nat) (C : Ctx) (e : Ent) (eli : TypeId) (t : Ty) (i : Nat) (row : List t.den) (u : Value) : Prop :=
  ∃ ao cap r2, u = .slice ao row.length cap ∧ (ao = none → cap = 0) ∧ (0 < row.length → ao = some ⟨(e.rb i).1, 0, none⟩ ∧ C.w.ownsRow base eli 1 u row.length r2 ∧ relElems P C t row [] r2)

/-- What rows of its own say of the raw cells. -/
def MatRel (P : Program) (base : Nat) (C : Ctx) (e : Ent) (eli : TypeId) (t : Ty) (xss : List (List t.den)) (ov : List (Nat × AV)) (raw : List Value) : Prop :=
  ∀ (i : Nat) (row : List t.den), xss[i]? = some row → ∃ u, raw[i]? = some u ∧ match ov.lookup i with
    | none => RowRel P base C e eli t i row u
    | some a => u.oneCell' = true ∧ a.rel P C u

/-- The block b is the own row i of the name nm. -/
def PrivAt (m : Nat → Option Blk) (E : Nat → Ent) (nm i b : Nat) : Prop := ∃ (el eli : TypeId) (t : Ty) (xss : List (List t.den)) (ov : List (Nat × AV)) (row : List t.den),
  m nm = some (.mat el eli t xss ov) ∧ ov.lookup i = none ∧ xss[i]? = some row ∧ 0 < row.length ∧ b = ((E nm).rb i).1

structure PrivOk (lo : Nat) (O : Nat → Prop) (m : Nat → Option Blk) (E : Nat → Ent) (n : Nat) (D : Nat → Prop) : Prop where
  own : ∀ nm i b, PrivAt m E nm i b → (lo ≤ b ∨ O b) ∧ b < n ∧ ¬ D b
  ent : ∀ nm i b, PrivAt m E nm i b → ∀ nm' blk, m nm' = some blk → (E nm').isNil = false → (E nm').b ≠ b
  inj : ∀ nm i b nm' j, PrivAt m E nm i b → PrivAt m E nm' j b → nm = nm' ∧ i = j

def BlkRel (P : Program) (base : Nat) (C : Ctx) (e : Ent) : Blk → Prop
  | .var cs => e.isNil = false ∧ ∃ us el, C.w.heap[e.b]? = some (.cells us el (0, 0)) ∧ AV.relL P C cs us.toList
  | .buf el t xs ov => ∃ raw, C.w.ownsRow base el t.sz (e.handle xs.length) xs.length raw ∧ relElems P C t xs ov raw
  | .mat el eli t xss ov => t.sz = 1 ∧ ∃ raw, C.w.ownsRow base el 1 (e.handle xss.length) xss.length raw ∧ MatRel P base C e eli t xss ov raw

structure Sig where
  T : Nat → AV
  m : Nat → Option Blk
  sv : List AV

/-- P: the program. w0, D0: the world and the data as it began. N: how many slots. O: blocks that lay there and may be turned. G: what is said of pointers to globals. sv: values that are kept aside. rd: the round, if this is a loop's body over a function. -/
structure Base where
  P : Program
  w0 : World
  D0 : Nat → Prop
  N : Nat
  O : Nat → Prop
  G : List (Nat × AV)
  sv : List Value
  rd : Option Nat
  nod : Bool
  gd : List Deferred := []

/-- Deferred calls: those of gd (calls of functions), ahead of them marks, with nothing behind them. -/
def Marks (nod : Bool) (base : Nat) (D : Nat → Prop) (w : World) (gd ds : List Deferred) : Prop :=
  ((nod = true → ds = gd) ∧ (∃ ms, ds = ms ++ gd) ∧ ds.Pairwise fun d e => d.target ≠ e.target) ∧ ∀ d ∈ ds, (d ∈ gd ∧ ∀ k, d.target ≠ .collected k) ∨ ∃ k, d = { target := .collected k, args := #[] } ∧ base ≤ k ∧ D k ∧ w.heap[k]? = some (.deferred (some []))

/-- The world has gone on; of what lay there, blocks of O alone have turned. -/
structure Chg (O : Nat → Prop) (w w' : World) : Prop where
  os : w'.os = w.os
  tape : w'.tape = w.tape
  output : w'.output = w.output
  size : w.heap.size ≤ w'.heap.size
  block : ∀ k, k < w.heap.size → ¬ O k → w'.heap[k]? = w.heap[k]?

theorem Chg.refl (O : Nat → Prop) (w : World) : Chg O w w := ⟨rfl, rfl, rfl, Nat.le_refl _, fun _ _ _ => rfl⟩
theorem Chg.step {O : Nat → Prop} {a b c : World} (h : Chg O a b) (ho : c.os = b.os) (ht : c.tape = b.tape) (hu : c.output = b.output) (hs : b.heap.size ≤ c.heap.size)
    (hb : ∀ k, k < a.heap.size → ¬ O k → c.heap[k]? = b.heap[k]?) : Chg O a c :=
  ⟨ho.trans h.os, ht.trans h.tape, hu.trans h.output, Nat.le_trans h.size hs, fun k hk hno => (hb k hk hno).trans (h.block k hk hno)⟩
theorem Chg.below {O : Nat → Prop} {a b c : World} (h : Chg O a b) (k : Below b.heap.size b c) : Chg O a c :=
  h.step k.os k.tape k.output k.size fun i hi _ => k.block i (Nat.lt_of_lt_of_le hi h.size)

def relG (P : Program) (C : Ctx) (G : List (Nat × AV)) : Prop := ∀ p ∈ G, p.2.names = [] ∧ p.2.rel P C (.pointer (some ⟨p.1, 0, none⟩))

theorem relG.mono {P : Program} {C C' : Ctx} {G : List (Nat × AV)} (L : Later C C') (h : relG P C G) : relG P C' G := fun p hp =>
  ⟨(h p hp).1, AV.rel_mono L (fun nm hm => by rw [(h p hp).1] at hm; cases hm) (h p hp).2⟩

structure SimD (S : Base) (σ : Sig) (a : Act) (w : World) (D : Nat → Prop) (E : Nat → Ent) : Prop where
  sz : a.tmps.size = S.N
  df : Marks S.nod S.w0.heap.size D w S.gd a.defers
  tm : ∀ t, (σ.T t).rel S.P ⟨w, D, σ.m, E⟩ (a.tmps.getD t undef)
  bl : ∀ nm b, σ.m nm = some b → BlkRel S.P 0 ⟨w, D, σ.m, E⟩ (E nm) b
  own : ∀ nm b, σ.m nm = some b → (E nm).isNil = false → (S.w0.heap.size ≤ (E nm).b ∨ S.O (E nm).b) ∧ (E nm).b < w.heap.size ∧ ¬ D (E nm).b
  inj : ∀ nm nm' b b', σ.m nm = some b → σ.m nm' = some b' → (E nm).isNil = false → (E nm').isNil = false → (E nm).b = (E nm').b → nm = nm'
  low : Chg S.O S.w0 w
  dlt : ∀ b, D b → b < w.heap.size
  dlo : ∀ b, S.D0 b → D b
  dhi : ∀ b, D b → S.D0 b ∨ S.w0.heap.size ≤ b ∨ S.O b
  gl : relG S.P ⟨w, D, σ.m, E⟩ S.G
  svr : AV.relL S.P ⟨w, D, σ.m, E⟩ σ.sv S.sv
  pv : PrivOk S.w0.heap.size S.O σ.m E w.heap.size D

def Sim (S : Base) (σ : Sig) (a : Act) (w : World) : Prop := ∃ D E, SimD S σ a w D E

def upT (T : Nat → AV) (d : Option Tmp) (v : AV) : Nat → AV := fun t => if some t = d then v else T t
def upM (m : Nat → Option Blk) (u : List (Nat × Blk)) : Nat → Option Blk := fun nm => match u.lookup nm with | some b => some b | none => m nm

def Unm (nm : Nat) (σ : Sig) : Prop := σ.m nm = none ∧ (∀ t, nm ∉ (σ.T t).names) ∧ (∀ nm' b, σ.m nm' = some b → nm ∉ b.names) ∧ nm ∉ AV.namesL σ.sv

theorem ov_names {ov : List (Nat × AV)} {i : Nat} {a : AV} (ho : ov.lookup i = some a) {nm : Nat} (h : nm ∈ a.names) : nm ∈ AV.namesL (ov.map (·.2)) := by
  induction ov with
  | nil => simp at ho
  | cons p ov ih =>
    obtain ⟨j, b⟩ := p
    simp only [List.lookup] at ho
    simp only [List.map_cons, AV.namesL, List.mem_append]
    split at ho
    · cases ho; exact .inl h
    · exact .inr (ih ho)

theorem relElems_mono {P : Program} {C C' : Ctx} (L : Later C C') {t : Ty} {xs : List t.den} {ov : List (Nat × AV)} {raw : List Value}
    (hn : ∀ nm ∈ AV.namesL (ov.map (·.2)), NameOK C C' nm) (h : relElems P C t xs ov raw) : relElems P C' t xs ov raw := by
  intro i y hy
  have g := h i y hy
  cases ho : ov.lookup i with
  | none => rw [ho] at g; exact relCells_mono L.D L.w g
  | some a =>
    rw [ho] at g
    obtain ⟨g1, u, g2, g4, g3⟩ := g
    exact ⟨g1, u, g2, g4, AV.rel_mono L (fun nm h => hn nm (ov_names ho h)) g3⟩

/-- The own rows of a block, by the entry. -/
def rowsOf (e : Ent) (b : Blk) (i k : Nat) : Prop := ∃ (el eli : TypeId) (t : Ty) (xss : List (List t.den)) (ov : List (Nat × AV)) (row : List t.den),
  b = .mat el eli t xss ov ∧ ov.lookup i = none ∧ xss[i]? = some row ∧ 0 < row.length ∧ k = (e.rb i).1
theorem privAt_iff {m : Nat → Option Blk} {E : Nat → Ent} {nm i k : Nat} : PrivAt m E nm i k ↔ ∃ b, m nm = some b ∧ rowsOf (E nm) b i k := by
  constructor
  · rintro ⟨el, eli, t, xss, ov, row, h1, h2⟩; exact ⟨_, h1, el, eli, t, xss, ov, row, rfl, h2⟩
  · rintro ⟨b, h1, el, eli, t, xss, ov, row, rfl, h2⟩; exact ⟨el, eli, t, xss, ov, row, h1, h2⟩

theorem ownsRow_same {w w' : World} {base : Nat} {el : TypeId} {sz n : Nat} {v : Value} {raw : List Value} (hv : ∀ g n' c, v = .slice (some ⟨g, 0, none⟩) n' c → w'.heap[g]? = w.heap[g]?)
    (h : w.ownsRow base el sz v n raw) : w'.ownsRow base el sz v n raw := by
  refine ⟨h.1, ?_⟩
  rcases h.2 with h | ⟨g, cap, cur, e, hg, hh, r⟩
  · exact .inl h
  · exact .inr ⟨g, cap, cur, e, hg, (hv g n cap e).trans hh, r⟩
theorem handle_at {e : Ent} {n g n' c : Nat} (h : e.handle n = .slice (some ⟨g, 0, none⟩) n' c) : e.isNil = false ∧ g = e.b := by
  unfold Ent.handle at h
  cases hn : e.isNil with
  | true => rw [hn] at h; cases h
  | false =>
    rw [hn] at h
    simp at h
    exact ⟨rfl, h.1.symm⟩

/-- The blocks of the abstract memory go on where their own blocks have not turned. -/
theorem BlkRel.mono {P : Program} {base : Nat} {C C' : Ctx} (L : Later C C') {e : Ent} {b : Blk} (hn : ∀ nm ∈ b.names, NameOK C C' nm)
    (hw : e.isNil = false → C'.w.heap[e.b]? = C.w.heap[e.b]?) (hr : ∀ i k, rowsOf e b i k → C'.w.heap[k]? = C.w.heap[k]?) (h : BlkRel P base C e b) : BlkRel P base C' e b := by
  cases b with
  | var cs =>
    obtain ⟨h0, us, el, h1, h2⟩ := h
    exact ⟨h0, us, el, (hw h0).trans h1, AV.relL_mono L hn h2⟩
  | buf el t xs ov =>
    obtain ⟨raw, h1, h2⟩ := h
    refine ⟨raw, ⟨h1.1, ?_⟩, relElems_mono L hn h2⟩
    rcases h1.2 with h | ⟨g, cap, cur, hv, hg, hh, r⟩
    · exact .inl h
    · refine .inr ⟨g, cap, cur, hv, hg, ?_, r⟩
      unfold Ent.handle at hv
      split at hv
      · cases hv
      · rename_i hi
        simp only [Value.slice.injEq, Option.some.injEq, Addr.mk.injEq, and_true, true_and] at hv
        rw [← hv.1]
        rw [hw (by simpa using hi), hv.1]
        exact hh
  | mat el eli t xss ov =>
    obtain ⟨h0, raw, h1, h2⟩ := h
    refine ⟨h0, raw, ?_, fun i row hi => ?_⟩
    · refine ownsRow_same (fun g' n' c h => ?_) h1
      obtain ⟨q1, rfl⟩ := handle_at h
      exact hw q1
    · obtain ⟨u, g1, g2⟩ := h2 i row hi
      refine ⟨u, g1, ?_⟩
      cases ho : ov.lookup i with
      | some a =>
        rw [ho] at g2
        exact ⟨g2.1, AV.rel_mono L (fun nm h => hn nm (ov_names ho h)) g2.2⟩
      | none =>
        rw [ho] at g2
        obtain ⟨ao, cap, r2, q1, q0, q2⟩ := g2
        refine ⟨ao, cap, r2, q1, q0, fun hp => ?_⟩
        obtain ⟨k1, k2, k3⟩ := q2 hp
        refine ⟨k1, ownsRow_same (fun g' n' c h => ?_) k2, relElems_mono L (fun nm h => by cases h) k3⟩
        rw [q1, k1] at h
        simp at h
        rw [← h.1]
        exact hr i _ ⟨el, eli, t, xss, ov, row, rfl, ho, hi, hp, rfl⟩

/-- A value is put into a slot. -/
theorem SimD.put {S : Base} {σ : Sig} {a : Act} {w : World} {D : Nat → Prop} {E : Nat → Ent} (h : SimD S σ a w D E) {d : Option Tmp} {v : Value} {x : AV}
    (hd : ∀ t, d = some t → t < S.N) (hx : x.rel S.P ⟨w, D, σ.m, E⟩ v) : SimD S ⟨upT σ.T d x, σ.m, σ.sv⟩ (a.put d v) w D E := by
  cases d with
  | none => exact ⟨h.sz, h.df, fun t => by simpa [upT, Act.put] using h.tm t, h.bl, h.own, h.inj, h.low, h.dlt, h.dlo, h.dhi, h.gl, h.svr, h.pv⟩
  | some d =>
    refine ⟨by simpa [Act.put] using h.sz, h.df, fun t => ?_, h.bl, h.own, h.inj, h.low, h.dlt, h.dlo, h.dhi, h.gl, h.svr, h.pv⟩
    have hlt : d < a.tmps.size := by rw [h.sz]; exact hd d rfl
    by_cases e : t = d
    · subst e
      have hgt : (a.tmps.setIfInBounds t v).getD t undef = v := by simp [Array.getD, hlt]
      simp only [upT, if_true, Act.put]
      rw [hgt]; exact hx
    · have : (a.tmps.setIfInBounds d v).getD t undef = a.tmps.getD t undef := by
        simp only [Array.getD_eq_getD_getElem?, Array.getElem?_setIfInBounds]
        rw [if_neg (fun h => e h.symm)]
      simp only [upT, Option.some.injEq, e, if_false, Act.put]
      rw [this]; exact h.tm t

/-- What an operation leaves, before its value is put into its slot. -/
def Outcome (S : Base) (σ : Sig) (a : Act) (x : AV) (v : Value) (w : World) : Prop :=
  ∃ D E, SimD S σ a w D E ∧ x.rel S.P ⟨w, D, σ.m, E⟩ v

/-- The world, the domain, the memory have gone on; the slots say what they said. -/
theorem SimD.go {S : Base} {σ : Sig} {a : Act} {w w' : World} {D D' : Nat → Prop} {E E' : Nat → Ent} {m' : Nat → Option Blk} (h : SimD S σ a w D E)
    (L : Later ⟨w, D, σ.m, E⟩ ⟨w', D', m', E'⟩)
    (hn : ∀ nm, NameOK ⟨w, D, σ.m, E⟩ ⟨w', D', m', E'⟩ nm ∨ Unm nm σ)
    (hb : ∀ nm b, m' nm = some b → (σ.m nm = some b ∧ E' nm = E nm ∧ ((E nm).isNil = false → w'.heap[(E nm).b]? = w.heap[(E nm).b]?) ∧ ∀ i k, rowsOf (E nm) b i k → w'.heap[k]? = w.heap[k]?) ∨ BlkRel S.P 0 ⟨w', D', m', E'⟩ (E' nm) b)
    (ho : ∀ nm b, m' nm = some b → (E' nm).isNil = false → (S.w0.heap.size ≤ (E' nm).b ∨ S.O (E' nm).b) ∧ (E' nm).b < w'.heap.size ∧ ¬ D' (E' nm).b)
    (hi : ∀ nm nm' b b', m' nm = some b → m' nm' = some b' → (E' nm).isNil = false → (E' nm').isNil = false → (E' nm).b = (E' nm').b → nm = nm')
    (hl : Chg S.O S.w0 w') (h1 : ∀ b, D' b → b < w'.heap.size) (h2 : ∀ b, D' b → D b ∨ S.w0.heap.size ≤ b ∨ S.O b) (hp : PrivOk S.w0.heap.size S.O m' E' w'.heap.size D') :
    SimD S ⟨σ.T, m', σ.sv⟩ a w' D' E' := by
  have hnm : ∀ (l : List Nat), (∀ nm ∈ l, Unm nm σ → False) → ∀ nm ∈ l, NameOK ⟨w, D, σ.m, E⟩ ⟨w', D', m', E'⟩ nm :=
    fun l hu nm hm => (hn nm).resolve_right (hu nm hm)
  refine ⟨h.sz, ⟨h.df.1, fun d hd => ?_⟩, fun t => ?_, fun nm b hm => ?_, ho, hi, hl, h1, fun b hb => L.D b (h.dlo b hb), fun b hb => ?_, h.gl.mono L, AV.relL_mono L (hnm _ (fun nm hm hu => hu.2.2.2 hm)) h.svr, hp⟩
  · rcases h.df.2 d hd with g | ⟨k, g1, g2, g3, g4⟩
    · exact .inl g
    · exact .inr ⟨k, g1, g2, L.D k g3, (L.w k g3).trans g4⟩
  · exact AV.rel_mono L (hnm _ (fun nm hm hu => hu.2.1 t hm)) (h.tm t)
  · rcases hb nm b hm with ⟨g1, g2, g3, g4⟩ | g
    · rw [g2]
      exact BlkRel.mono L (hnm _ (fun nm' hm' hu => hu.2.2.1 nm b g1 hm')) g3 g4 (h.bl nm b g1)
    · exact g
  · rcases h2 b hb with g | g
    · exact h.dhi b g
    · exact .inr g

/-- Own rows stay own: no name has new ones; new data and new entries lie in new blocks, or where an entry lay. -/
theorem PrivOk.step {lo : Nat} {O : Nat → Prop} {m m' : Nat → Option Blk} {E E' : Nat → Ent} {n n' : Nat} {D D' : Nat → Prop} (h : PrivOk lo O m E n D)
    (hm : ∀ nm i b, PrivAt m' E' nm i b → PrivAt m E nm i b) (hn : n ≤ n')
    (hD : ∀ b, D' b → D b ∨ n ≤ b ∨ ∃ nm blk, m nm = some blk ∧ (E nm).isNil = false ∧ b = (E nm).b)
    (hE : ∀ nm blk, m' nm = some blk → (E' nm).isNil = false → n ≤ (E' nm).b ∨ ∃ nm2 blk2, m nm2 = some blk2 ∧ (E nm2).isNil = false ∧ (E' nm).b = (E nm2).b) : PrivOk lo O m' E' n' D' := by
  refine ⟨fun nm i b hb => ?_, fun nm i b hb nm' blk hm' hi e => ?_, fun nm i b nm' j h1 h2 => h.inj nm i b nm' j (hm _ _ _ h1) (hm _ _ _ h2)⟩
  · obtain ⟨g1, g2, g3⟩ := h.own nm i b (hm _ _ _ hb)
    refine ⟨g1, Nat.lt_of_lt_of_le g2 hn, fun hd => ?_⟩
    rcases hD b hd with q | q | ⟨nm2, blk, q1, q2, q3⟩
    · exact g3 q
    · omega
    · exact h.ent nm i b (hm _ _ _ hb) nm2 blk q1 q2 q3.symm
  · obtain ⟨g1, g2, g3⟩ := h.own nm i b (hm _ _ _ hb)
    rcases hE nm' blk hm' hi with q | ⟨nm2, blk2, q1, q2, q3⟩
    · omega
    · exact h.ent nm i b (hm _ _ _ hb) nm2 blk2 q1 q2 (q3.symm.trans e)
theorem PrivOk.lt {lo : Nat} {O : Nat → Prop} {m : Nat → Option Blk} {E : Nat → Ent} {n : Nat} {D : Nat → Prop} (h : PrivOk lo O m E n D) {nm i k : Nat} {b : Blk} (hm : m nm = some b) (hr : rowsOf (E nm) b i k) : k < n :=
  (h.own nm i k (privAt_iff.2 ⟨b, hm, hr⟩)).2.1

/-- The world has gone on, no owned block has turned; new blocks may have become data. -/
theorem SimD.world {S : Base} {σ : Sig} {a : Act} {w w' : World} {D D' : Nat → Prop} {E : Nat → Ent} (h : SimD S σ a w D E)
    (hw : Below w.heap.size w w') (hD : ∀ b, D' b ↔ D b ∨ (Fresh w w' b ∧ D' b)) (h1 : ∀ b, D' b → b < w'.heap.size) : SimD S σ a w' D' E := by
  have hs := h.low.size
  refine h.go (m' := σ.m) ⟨fun b hb => (hD b).2 (.inl hb), fun b hb => hw.block b (h.dlt b hb)⟩ (fun nm => .inl fun b hb => ⟨b, hb, rfl, Nat.le_refl _, fun _ => rfl⟩)
    (fun nm b hm => .inl ⟨hm, rfl, fun hi => hw.block _ (h.own nm b hm hi).2.1, fun i k hr => hw.block _ (h.pv.lt hm hr)⟩) (fun nm b hm hi => ?_) h.inj (h.low.below hw) h1 (fun b hb => ?_)
    (h.pv.step (fun _ _ _ g => g) hw.size (fun b hb => ((hD b).1 hb).imp id fun g => .inl g.1.1) fun nm blk hm hi => .inr ⟨nm, blk, hm, hi, rfl⟩)
  · obtain ⟨g1, g2, g3⟩ := h.own nm b hm hi
    refine ⟨g1, Nat.lt_of_lt_of_le g2 hw.size, fun hd => ?_⟩
    rcases (hD _).1 hd with g | g
    · exact g3 g
    · exact Nat.lt_irrefl _ (Nat.lt_of_lt_of_le g2 g.1.1)
  · rcases (hD b).1 hb with g | g
    · exact .inl g
    · exact .inr (.inl (Nat.le_trans hs g.1.1))

end Go.Eng
