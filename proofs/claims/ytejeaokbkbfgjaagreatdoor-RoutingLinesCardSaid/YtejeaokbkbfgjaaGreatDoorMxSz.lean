/- Max-plus mathematics for the seats of engine v3: walks; what the steps of Star compute (from wip/mp/PeMpMath, PeMpStar). -/
import Derived.Test.YtejeaokbkbfgjaaGreatDoorMxz
set_option linter.unusedSimpArgs false
set_option linter.unusedVariables false
namespace Go.Eng.Mp

/-- z is at most the element x. -/
def le (z x : Int) : Prop := infF x = false ∧ z ≤ x
def cleanE (x : Int) : Prop := x = -1099511627776 ∨ infF x = false

theorem infF_false {x : Int} : infF x = false ↔ -549755813888 < x := by
  simp only [infF, decide_eq_false_iff_not]; omega
theorem infF_true {x : Int} : infF x = true ↔ x ≤ -549755813888 := by
  simp only [infF, decide_eq_true_eq]
theorem le_iff {z x : Int} : le z x ↔ -549755813888 < x ∧ z ≤ x := by unfold le; rw [infF_false]
theorem le_down {y z x : Int} (h : y ≤ z) (hz : le z x) : le y x := ⟨hz.1, by have := hz.2; omega⟩
theorem le_self {x : Int} (h : infF x = false) : le x x := ⟨h, by omega⟩
theorem ext_le {x y : Int} (hx : cleanE x) (hy : cleanE y) (h : ∀ z, le z x ↔ le z y) : x = y := by
  rcases hx with rfl | hx <;> rcases hy with rfl | hy
  · rfl
  · have := (h y).2 (le_self hy)
    simp [le, infF] at this
  · have := (h x).1 (le_self hx)
    simp [le, infF] at this
  · have := ((h x).1 (le_self hx)).2
    have := ((h y).2 (le_self hy)).2
    omega
theorem le_plus {z x y : Int} : le z (plusF x y) ↔ le z x ∨ le z y := by
  simp only [le_iff, plusF, infF, Bool.cond_eq_ite, Bool.and_eq_true, decide_eq_true_eq]
  split <;> omega
theorem clean_plus (x y : Int) : cleanE (plusF x y) := by
  simp only [cleanE, infF_false]
  simp only [plusF, infF, Bool.cond_eq_ite, Bool.and_eq_true, decide_eq_true_eq]
  split <;> omega
theorem clean_times {x y : Int} (h : infF x = false → infF y = false → -549755813888 < x + y) : cleanE (timesF x y) := by
  simp only [cleanE, infF_false] at h ⊢
  simp only [timesF, infF, Bool.cond_eq_ite, Bool.or_eq_true, decide_eq_true_eq]
  split <;> omega
theorem le_times {z x y : Int} (h : infF x = false → infF y = false → -549755813888 < x + y) : le z (timesF x y) ↔ ∃ u v, le u x ∧ le v y ∧ z ≤ u + v := by
  constructor
  · intro hz
    simp only [infF_false] at h
    simp only [le_iff, timesF, infF, Bool.cond_eq_ite, Bool.or_eq_true, decide_eq_true_eq] at hz
    split at hz
    · omega
    · exact ⟨x, y, le_iff.2 ⟨by omega, by omega⟩, le_iff.2 ⟨by omega, by omega⟩, hz.2⟩
  · rintro ⟨u, v, hu, hv, hz⟩
    have := h hu.1 hv.1
    simp only [le_iff] at hu hv
    simp only [le_iff, timesF, infF, Bool.cond_eq_ite, Bool.or_eq_true, decide_eq_true_eq]
    split <;> omega
theorem le_foldN {g : Int → Int} {z : Int} : ∀ n : Nat, le z (foldN plusF g (-1099511627776) n) ↔ ∃ k : Nat, k < n ∧ le z (g k)
  | 0 => by simp [foldN, le, infF]
  | n + 1 => by
    simp only [foldN, le_plus, le_foldN n]
    constructor
    · rintro (⟨k, hk, h⟩ | h)
      · exact ⟨k, by omega, h⟩
      · exact ⟨n, by omega, h⟩
    · rintro ⟨k, hk, h⟩
      by_cases e : k = n
      · subst e; exact .inr h
      · exact .inl ⟨k, by omega, h⟩
theorem le_fold {g : Int → Int} {z n : Int} : le z (foldI plusF g (-1099511627776) n) ↔ ∃ k : Int, 0 ≤ k ∧ k < n ∧ le z (g k) := by
  unfold foldI
  rw [le_foldN]
  constructor
  · rintro ⟨k, hk, h⟩; exact ⟨k, by omega, by omega, h⟩
  · rintro ⟨k, h0, hk, h⟩; exact ⟨k.toNat, by omega, by rwa [Int.toNat_of_nonneg h0]⟩
theorem clean_fold {g : Int → Int} {n : Int} : cleanE (foldI plusF g (-1099511627776) n) := by
  unfold foldI
  cases n.toNat with
  | zero => exact .inl rfl
  | succ k => exact clean_plus _ _

/-- A square matrix of n rows whose numbers lie within L. -/
structure Bd (n : Nat) (L : Int) (m : List (List Int)) : Prop where
  sq : Sq n m
  le : n ≤ 40
  el : ∀ i j : Int, 0 ≤ i → i < n → 0 ≤ j → j < n → infF (at2 m i j) = false → -L ≤ at2 m i j ∧ at2 m i j ≤ L

theorem Bd.up {n : Nat} {L L' : Int} {m : List (List Int)} (h : Bd n L m) (hl : L ≤ L') : Bd n L' m :=
  ⟨h.sq, h.le, fun i j h0 hi h1 hj hf => by have := h.el i j h0 hi h1 hj hf; omega⟩
abbrev In (n : Nat) (i : Int) : Prop := 0 ≤ i ∧ i < (n : Int)

/-- Along p, k steps bear z. -/
def PW (m : List (List Int)) (p : Nat → Int) : Nat → Int → Prop
  | 0, z => z ≤ 0
  | k + 1, z => ∃ u v, PW m p k u ∧ le v (at2 m (p k) (p (k + 1))) ∧ z ≤ u + v

section
variable {m : List (List Int)} {p q : Nat → Int}
theorem PW.down : ∀ {k : Nat} {y z : Int}, PW m p k z → y ≤ z → PW m p k y
  | 0, _, _, h, hy => Int.le_trans hy h
  | _ + 1, _, _, ⟨u, v, h1, h2, h3⟩, hy => ⟨u, v, h1, h2, by omega⟩
theorem PW.congr : ∀ {k : Nat} {z : Int}, (∀ t, t ≤ k → p t = q t) → PW m p k z → PW m q k z
  | 0, _, _, h => h
  | k + 1, _, e, ⟨u, v, h1, h2, h3⟩ => ⟨u, v, PW.congr (fun t ht => e t (by omega)) h1, by rw [← e k (by omega), ← e (k + 1) (by omega)]; exact h2, h3⟩
theorem PW.split (a : Nat) : ∀ (b : Nat) {z : Int}, PW m p (a + b) z → ∃ u v, PW m p a u ∧ PW m (fun t => p (a + t)) b v ∧ z ≤ u + v
  | 0, z, h => ⟨z, 0, h, Int.le_refl _, by omega⟩
  | b + 1, z, ⟨u, v, h1, h2, h3⟩ => by
    obtain ⟨u', v', g1, g2, g3⟩ := PW.split a b h1
    exact ⟨u', v' + v, g1, ⟨v', v, g2, h2, Int.le_refl _⟩, by omega⟩
def glue (p q : Nat → Int) (a : Nat) : Nat → Int := fun t => if t ≤ a then p t else q (t - a)
theorem glue_le {a t : Nat} (h : t ≤ a) : glue p q a t = p t := if_pos h
theorem glue_add {a b : Nat} (e : p a = q 0) : glue p q a (a + b) = q b := by
  unfold glue
  split
  · have : b = 0 := by omega
    subst this; simpa using e
  · congr 1; omega
theorem PW.join {a : Nat} {u : Int} (h : PW m p a u) (e : p a = q 0) : ∀ (b : Nat) {v : Int}, PW m q b v → PW m (glue p q a) (a + b) (u + v)
  | 0, v, hv => by
    have hv : v ≤ 0 := hv
    exact (h.congr (fun t ht => (glue_le ht).symm)).down (by omega)
  | b + 1, v, ⟨x, y, h1, h2, h3⟩ => by
    refine ⟨u + x, y, PW.join h e b h1, ?_, by omega⟩
    show le y (at2 m (glue p q a (a + b)) (glue p q a (a + (b + 1))))
    rw [glue_add e, glue_add e]; exact h2

/-- A walk of k steps from i to j that bears z; between its ends it visits what is less than t. -/
def W (m : List (List Int)) (n : Nat) (t : Int) (k : Nat) (i j z : Int) : Prop :=
  ∃ p : Nat → Int, p 0 = i ∧ p k = j ∧ (∀ s, s ≤ k → In n (p s)) ∧ (∀ s, 0 < s → s < k → p s < t) ∧ PW m p k z

variable {n : Nat} {t : Int}
theorem W.ins {k : Nat} {i j z : Int} (h : W m n t k i j z) : In n i ∧ In n j := by
  obtain ⟨p, rfl, rfl, h, _⟩ := h
  exact ⟨h 0 (by omega), h k (by omega)⟩
theorem W.zero {i z : Int} (hi : In n i) (hz : z ≤ 0) : W m n t 0 i i z := ⟨fun _ => i, rfl, rfl, fun _ _ => hi, fun s h1 h2 => by omega, hz⟩
theorem W.one {i j z : Int} (hi : In n i) (hj : In n j) (h : le z (at2 m i j)) : W m n t 1 i j z :=
  ⟨fun s => if s = 0 then i else j, rfl, rfl, fun s _ => by show In n (if s = 0 then i else j); split <;> assumption, fun s h1 h2 => by omega, 0, z, Int.le_refl _, h, by omega⟩
theorem W.down {k : Nat} {i j y z : Int} (h : W m n t k i j z) (hy : y ≤ z) : W m n t k i j y := by
  obtain ⟨p, h1, h2, h3, h4, h5⟩ := h
  exact ⟨p, h1, h2, h3, h4, h5.down hy⟩
theorem W.mono {t' : Int} {k : Nat} {i j z : Int} (h : W m n t k i j z) (ht : t ≤ t') : W m n t' k i j z := by
  obtain ⟨p, h1, h2, h3, h4, h5⟩ := h
  exact ⟨p, h1, h2, h3, fun s s1 s2 => by have := h4 s s1 s2; omega, h5⟩
theorem W.all {k : Nat} {i j z : Int} (h : W m n t k i j z) : W m n n k i j z := by
  obtain ⟨p, h1, h2, h3, h4, h5⟩ := h
  exact ⟨p, h1, h2, h3, fun s s1 s2 => (h3 s (by omega)).2, h5⟩
theorem W.trans {a b : Nat} {i l j u v : Int} (h : W m n t a i l u) (h' : W m n t b l j v) (hl : l < t) : W m n t (a + b) i j (u + v) := by
  obtain ⟨p, h1, h2, h3, h4, h5⟩ := h
  obtain ⟨q, g1, g2, g3, g4, g5⟩ := h'
  have e : p a = q 0 := by rw [h2, g1]
  refine ⟨glue p q a, by rw [glue_le (by omega)]; exact h1, by rw [glue_add e]; exact g2, fun s hs => ?_, fun s s1 s2 => ?_, h5.join e b g5⟩
  · by_cases h : s ≤ a
    · rw [glue_le h]; exact h3 s h
    · rw [show s = a + (s - a) by omega, glue_add e]; exact g3 _ (by omega)
  · by_cases h : s < a
    · rw [glue_le (by omega)]; exact h4 s s1 h
    · by_cases h' : s = a
      · subst h'; rw [glue_le (by omega), h2]; exact hl
      · rw [show s = a + (s - a) by omega, glue_add e]; exact g4 _ (by omega) (by omega)
theorem W.trans' {a b : Nat} {i l j u v : Int} (h : W m n n a i l u) (h' : W m n n b l j v) : W m n n (a + b) i j (u + v) := h.trans h' h.ins.2.2

theorem pigeon : ∀ (n : Nat) (f : Nat → Nat), (∀ i, i ≤ n → f i < n) → ∃ a b, a < b ∧ b ≤ n ∧ f a = f b
  | 0, f, h => by have := h 0 (by omega); omega
  | n + 1, f, h => by
    by_cases he : ∃ i, i ≤ n ∧ f i = f (n + 1)
    · obtain ⟨i, hi, e⟩ := he
      exact ⟨i, n + 1, by omega, by omega, e⟩
    · have hne : ∀ i, i ≤ n → f i ≠ f (n + 1) := fun i hi e => he ⟨i, hi, e⟩
      have hl := h (n + 1) (by omega)
      obtain ⟨a, b, h1, h2, h3⟩ := pigeon n (fun i => if f i = n then f (n + 1) else f i) (fun i hi => by
        have h1 := h i (by omega)
        have h2 := hne i hi
        show (if f i = n then f (n + 1) else f i) < n
        split <;> omega)
      have ha := hne a (by omega)
      have hb := hne b (by omega)
      refine ⟨a, b, h1, by omega, ?_⟩
      have h3 : (if f a = n then f (n + 1) else f a) = (if f b = n then f (n + 1) else f b) := h3
      split at h3 <;> split at h3 <;> omega

/-- A walk may be made shorter than there are places; if closed walks bear nothing, it bears as much. -/
theorem W.short : ∀ (k : Nat) {i j z : Int}, W m n t k i j z → ∃ k' z', k' < n ∧ W m n t k' i j z' ∧ ((∀ k x u, W m n t k x x u → u ≤ 0) → z ≤ z')
  | k, i, j, z, h => by
    by_cases hk : k < n
    · exact ⟨k, z, hk, h, fun _ => Int.le_refl _⟩
    · obtain ⟨p, h1, h2, h3, h4, h5⟩ := h
      obtain ⟨a, b, hab, hbn, e⟩ := pigeon n (fun s => (p s).toNat) (fun s hs => by have := h3 s (by omega); omega)
      have e : (p a).toNat = (p b).toNat := e
      have e : p a = p b := by have := h3 a (by omega); have := h3 b (by omega); omega
      have h5' : PW m p (a + (k - a)) z := by rw [show a + (k - a) = k by omega]; exact h5
      obtain ⟨u1, w, q1, q2, q3⟩ := PW.split a (k - a) h5'
      have q2' : PW m (fun t => p (a + t)) ((b - a) + (k - b)) w := by rw [show (b - a) + (k - b) = k - a by omega]; exact q2
      obtain ⟨u2, u3, r1, r2, r3⟩ := PW.split (b - a) (k - b) q2'
      have r2 : PW m (fun t => p (b + t)) (k - b) u3 := r2.congr (fun t _ => by show p (a + (b - a + t)) = p (b + t); congr 1; omega)
      have closed : W m n t (b - a) (p a) (p a) u2 :=
        ⟨fun t => p (a + t), rfl, by show p (a + (b - a)) = p a; rw [show a + (b - a) = b by omega, e], fun s hs => h3 _ (by omega), fun s s1 s2 => h4 _ (by omega) (by omega), r1⟩
      have ej : p a = (fun t => p (b + t)) 0 := by show p a = p (b + 0); rw [Nat.add_zero]; exact e
      have hw : W m n t (a + (k - b)) i j (u1 + u3) := by
        refine ⟨glue p (fun t => p (b + t)) a, by rw [glue_le (by omega)]; exact h1, ?_, fun s hs => ?_, fun s s1 s2 => ?_, q1.join ej _ r2⟩
        · rw [glue_add ej]; show p (b + (k - b)) = j; rw [show b + (k - b) = k by omega]; exact h2
        · by_cases h : s ≤ a
          · rw [glue_le h]; exact h3 s (by omega)
          · rw [show s = a + (s - a) by omega, glue_add ej]; exact h3 _ (by omega)
        · by_cases h : s ≤ a
          · rw [glue_le h]; exact h4 s s1 (by omega)
          · rw [show s = a + (s - a) by omega, glue_add ej]; exact h4 _ (by omega) (by omega)
      obtain ⟨k', z', w1, w2, w3⟩ := W.short (a + (k - b)) hw
      refine ⟨k', z', w1, w2, fun hc => ?_⟩
      have := w3 hc
      have := hc _ _ _ closed
      omega
 termination_by k => k
 decreasing_by omega

theorem first_at (P : Nat → Prop) : ∀ k : Nat, P k → ∃ a, a ≤ k ∧ P a ∧ ∀ b, b < a → ¬ P b
  | k, h => by
    by_cases he : ∃ b, b < k ∧ P b
    · obtain ⟨b, hb, hp⟩ := he
      obtain ⟨a, h1, h2, h3⟩ := first_at P b hp
      exact ⟨a, by omega, h2, h3⟩
    · exact ⟨k, by omega, h, fun b hb hp => he ⟨b, hb, hp⟩⟩
 termination_by k => k
 decreasing_by omega

/-- A walk that visits t between its ends, cut where it does so first. -/
theorem W.cut {k : Nat} {i j z : Int} (h : W m n (t + 1) k i j z) : W m n t k i j z ∨ ∃ a b u v, b < k ∧ W m n t a i t u ∧ W m n (t + 1) b t j v ∧ z ≤ u + v := by
  obtain ⟨p, h1, h2, h3, h4, h5⟩ := h
  by_cases he : ∃ s, 0 < s ∧ s < k ∧ p s = t
  · obtain ⟨s, s0, s1, s2⟩ := he
    obtain ⟨a, a1, ⟨a2, a3⟩, a4⟩ := first_at (fun s => 0 < s ∧ p s = t) s ⟨s0, s2⟩
    have h5' : PW m p (a + (k - a)) z := by rw [show a + (k - a) = k by omega]; exact h5
    obtain ⟨u, v, q1, q2, q3⟩ := PW.split a (k - a) h5'
    refine .inr ⟨a, k - a, u, v, by omega, ⟨p, h1, a3, fun s hs => h3 s (by omega), fun s s1 s2 => ?_, q1⟩, ⟨fun s => p (a + s), a3, ?_, fun s hs => h3 _ (by omega), fun s s1 s2 => h4 _ (by omega) (by omega), q2⟩, q3⟩
    · have := h4 s s1 (by omega)
      have := a4 s s2
      have : p s ≠ t := fun e => this ⟨s1, e⟩
      omega
    · show p (a + (k - a)) = j; rw [show a + (k - a) = k by omega]; exact h2
  · refine .inl ⟨p, h1, h2, h3, fun s s1 s2 => ?_, h5⟩
    have := h4 s s1 s2
    have : p s ≠ t := fun e => he ⟨s, s1, s2, e⟩
    omega

theorem PW.low {L : Int} (hm : Bd n L m) : ∀ {k : Nat} {z : Int}, (∀ s, s ≤ k → In n (p s)) → PW m p k z → PW m p k (-((k : Int) * L))
  | 0, _, _, _ => by show -(((0 : Nat) : Int) * L) ≤ 0; simp
  | k + 1, _, hp, ⟨u, v, h1, h2, h3⟩ => by
    have a := hp k (by omega)
    have b := hp (k + 1) (by omega)
    have := hm.el _ _ a.1 a.2 b.1 b.2 h2.1
    refine ⟨-((k : Int) * L), -L, PW.low hm (fun s hs => hp s (by omega)) h1, ⟨h2.1, by omega⟩, ?_⟩
    have : ((k + 1 : Nat) : Int) * L = (k : Int) * L + L := by
      rw [Int.natCast_add, Int.add_mul]; simp
    omega
theorem W.low {L : Int} (hm : Bd n L m) {k : Nat} {i j z : Int} (h : W m n t k i j z) : W m n t k i j (-((k : Int) * L)) := by
  obtain ⟨p, h1, h2, h3, h4, h5⟩ := h
  exact ⟨p, h1, h2, h3, h4, h5.low hm h3⟩
theorem PW.high {L : Int} (hm : Bd n L m) : ∀ {k : Nat} {z : Int}, (∀ s, s ≤ k → In n (p s)) → PW m p k z → z ≤ (k : Int) * L
  | 0, z, _, h => by have h : z ≤ 0 := h; simpa using h
  | k + 1, z, hp, ⟨u, v, h1, h2, h3⟩ => by
    have a := hp k (by omega)
    have b := hp (k + 1) (by omega)
    have := hm.el _ _ a.1 a.2 b.1 b.2 h2.1
    have := PW.high hm (fun s hs => hp s (by omega)) h1
    have := h2.2
    have : ((k + 1 : Nat) : Int) * L = (k : Int) * L + L := by
      rw [Int.natCast_add, Int.add_mul]; simp
    omega
theorem W.high {L : Int} (hm : Bd n L m) {k : Nat} {i j z : Int} (h : W m n t k i j z) : z ≤ (k : Int) * L := by
  obtain ⟨p, h1, h2, h3, h4, h5⟩ := h
  exact h5.high hm h3

/-! ### The steps of Star -/

theorem starN_at0 (hl : m.length = n) {i j : Int} (hi : In n i) (hj : In n j) : at2 (starN m 0) i j = star1 m i j := by
  show at2 (buildF (star1 m) m.length) i j = _
  rw [hl]; exact buildF_at _ _ _ _ hi.1 hi.2 hj.1 hj.2
theorem starN_at (hl : m.length = n) (t : Nat) {i j : Int} (hi : In n i) (hj : In n j) : at2 (starN m (t + 1)) i j = star2 (starN m t) t i j := by
  show at2 (buildF (star2 (starN m t) t) m.length) i j = _
  rw [hl]; exact buildF_at _ _ _ _ hi.1 hi.2 hj.1 hj.2

structure Fw (m : List (List Int)) (n : Nat) (B : Int) (t : Nat) : Prop where
  s : ∀ i j z, In n i → In n j → le z (at2 (starN m t) i j) → ∃ k, W m n t k i j z
  c : ∀ k i j z, W m n t k i j z → le z (at2 (starN m t) i j)
  lb : ∀ i j, In n i → In n j → infF (at2 (starN m t) i j) = false → -B ≤ at2 (starN m t) i j

theorem fw_lb {L : Int} (hm : Bd n L m) (hL : 0 ≤ L) (t : Nat) (s : ∀ i j z, In n i → In n j → le z (at2 (starN m t) i j) → ∃ k, W m n t k i j z)
    (c : ∀ k i j z, W m n t k i j z → le z (at2 (starN m t) i j)) : Fw m n (n * L) t :=
  ⟨s, c, fun i j hi hj hf => by
    obtain ⟨k, hw⟩ := s i j _ hi hj (le_self hf)
    obtain ⟨k', z', h1, h2, _⟩ := hw.short
    have := (c _ _ _ _ (h2.low hm)).2
    have h4 : (k' : Int) * L ≤ n * L := Int.mul_le_mul_of_nonneg_right (by omega) hL
    omega⟩

theorem fw0 {L : Int} (hm : Bd n L m) (hL : 0 ≤ L) : Fw m n (n * L) 0 := by
  refine fw_lb hm hL 0 (fun i j z hi hj h => ?_) (fun k i j z h => ?_)
  · rw [starN_at0 hm.sq.len hi hj] at h
    unfold star1 at h
    by_cases e : i = j
    · subst e
      simp only [decide_true, cond_true, le_plus] at h
      rcases h with h | h
      · exact ⟨0, W.zero hi h.2⟩
      · exact ⟨1, W.one hi hj h⟩
    · simp only [e, decide_false, cond_false, le_plus] at h
      rcases h with h | h
      · simp [le, infF] at h
      · exact ⟨1, W.one hi hj h⟩
  · obtain ⟨hi, hj⟩ := h.ins
    rw [starN_at0 hm.sq.len hi hj]
    obtain ⟨p, h1, h2, h3, h4, h5⟩ := h
    unfold star1
    match k, h2, h3, h4, h5 with
    | 0, h2, _, _, h5 =>
      have e : i = j := by rw [← h1, ← h2]
      have h5 : z ≤ 0 := h5
      simp only [e, decide_true, cond_true, le_plus]
      exact .inl ⟨by decide, h5⟩
    | 1, h2, _, _, h5 =>
      obtain ⟨u, v, g1, g2, g3⟩ := h5
      have g1 : u ≤ 0 := g1
      simp only [Nat.zero_add, h1, h2] at g2
      have g4 : le z (at2 m i j) := le_down (by omega) g2
      cases decide (i = j)
      · simp only [cond_false, le_plus]; exact .inr g4
      · simp only [cond_true, le_plus]; exact .inr g4
    | k + 2, _, h3, h4, _ =>
      have := h4 1 (by omega) (by omega)
      have := (h3 1 (by omega)).1
      simp only [Int.natCast_zero] at *
      omega

theorem fw_step {L : Int} (hm : Bd n L m) (hL : 0 ≤ L) (hB : n * L ≤ 100000000000) {t : Nat} (ht : t < n) (h : Fw m n (n * L) t) (hd : at2 (starN m t) t t ≤ 0 ∨ infF (at2 (starN m t) t t) = true) : Fw m n (n * L) (t + 1) := by
  have hit : In n t := ⟨by omega, by omega⟩
  have no : ∀ {i j : Int}, In n i → In n j → infF (at2 (starN m t) i t) = false → infF (at2 (starN m t) t j) = false → -549755813888 < at2 (starN m t) i t + at2 (starN m t) t j := fun hi hj e1 e2 => by
    have := h.lb _ _ hi hit e1
    have := h.lb _ _ hit hj e2
    omega
  have ret : ∀ (k : Nat) (j z : Int), W m n ((t : Int) + 1) k t j z → le z (at2 (starN m t) t j) := by
    intro k
    induction k using Nat.strongRecOn with
    | ind k ih =>
      intro j z hw
      rcases hw.cut with hw | ⟨a, b, u, v, hb, w1, w2, hz⟩
      · exact h.c _ _ _ _ hw
      · have h1 := h.c _ _ _ _ w1
        have h2 := ih b hb j v w2
        have : u ≤ 0 := by
          rcases hd with hd | hd
          · have := h1.2; omega
          · rw [h1.1] at hd; cases hd
        exact le_down (by omega) h2
  refine fw_lb hm hL (t + 1) (fun i j z hi hj hz => ?_) (fun k i j z hw => ?_)
  · rw [starN_at hm.sq.len t hi hj] at hz
    unfold star2 at hz
    rw [le_plus] at hz
    rcases hz with hz | hz
    · obtain ⟨k, hk⟩ := h.s _ _ _ hi hj hz
      exact ⟨k, hk.mono (by omega)⟩
    · obtain ⟨u, v, hu, hv, hz⟩ := (le_times (no hi hj)).1 hz
      obtain ⟨k, hk⟩ := h.s _ _ _ hi hit hu
      obtain ⟨k', hk'⟩ := h.s _ _ _ hit hj hv
      exact ⟨k + k', ((hk.mono (t' := ((t + 1 : Nat) : Int)) (by omega)).trans (hk'.mono (by omega)) (by omega)).down hz⟩
  · obtain ⟨hi, hj⟩ := hw.ins
    rw [starN_at hm.sq.len t hi hj]
    unfold star2
    rw [le_plus]
    have hw' : W m n ((t : Int) + 1) k i j z := by simpa using hw
    rcases hw'.cut with hw | ⟨a, b, u, v, _, w1, w2, hz⟩
    · exact .inl (h.c _ _ _ _ hw)
    · exact .inr ((le_times (no hi hj)).2 ⟨u, v, h.c _ _ _ _ w1, ret _ _ _ w2, hz⟩)

/-- No closed walk bears more than 0. -/
def NoPos (m : List (List Int)) (n : Nat) : Prop := ∀ k x u, W m n n k x x u → u ≤ 0

theorem cyclic_iff {s : List (List Int)} (hs : s.length = n) : cyclicF s = false ↔ ∀ i, In n i → at2 s i i ≤ 0 := by
  unfold cyclicF
  rw [foldB_either, hs]
  constructor
  · intro h i hi
    have := h i hi.1 hi.2
    simp only [diag, decide_eq_false_iff_not] at this
    omega
  · intro h k h0 hk
    have := h k ⟨h0, hk⟩
    simp only [diag, decide_eq_false_iff_not]
    omega

theorem fw_all {L : Int} (hm : Bd n L m) (hL : 0 ≤ L) (hB : n * L ≤ 100000000000) : ∀ t, t ≤ n → (∀ s, s < t → cyclicF (starN m s) = false) → Fw m n (n * L) t
  | 0, _, _ => fw0 hm hL
  | t + 1, ht, h => by
    refine fw_step hm hL hB (by omega) (fw_all hm hL hB t (by omega) (fun s hs => h s (by omega))) (.inl ?_)
    have hl : (starN m t).length = n := by rw [(starN_sq m t).len, hm.sq.len]
    exact (cyclic_iff hl).1 (h t (by omega)) t ⟨by omega, by omega⟩

theorem noPos_of {L : Int} (hm : Bd n L m) (hL : 0 ≤ L) (hB : n * L ≤ 100000000000) (h : ∀ s, s ≤ n → cyclicF (starN m s) = false) : NoPos m n := by
  intro k x u hw
  have fw := fw_all hm hL hB n (Nat.le_refl _) (fun s hs => h s (by omega))
  have hl : (starN m n).length = n := by rw [(starN_sq m n).len, hm.sq.len]
  have := (fw.c _ _ _ _ hw).2
  have := (cyclic_iff hl).1 (h n (Nat.le_refl _)) x hw.ins.1
  omega
theorem noPos_stages {L : Int} (hm : Bd n L m) (hL : 0 ≤ L) (hB : n * L ≤ 100000000000) (h : NoPos m n) : ∀ s, s ≤ n → cyclicF (starN m s) = false := by
  intro s
  induction s using Nat.strongRecOn with
  | ind s ih =>
    intro hs
    have fw := fw_all hm hL hB s hs (fun r hr => ih r hr (by omega))
    have hl : (starN m s).length = n := by rw [(starN_sq m s).len, hm.sq.len]
    refine (cyclic_iff hl).2 fun i hi => ?_
    by_cases hp : at2 (starN m s) i i ≤ 0
    · exact hp
    · obtain ⟨k, hk⟩ := fw.s i i 1 hi hi (le_iff.2 ⟨by omega, by omega⟩)
      have := h k i 1 hk.all
      omega

theorem starBad_iff {L : Int} (hm : Bd n L m) (hL : 0 ≤ L) (hB : n * L ≤ 100000000000) : starBad m = false ↔ NoPos m n := by
  have hl := hm.sq.len
  constructor
  · intro h
    refine noPos_of hm hL hB fun s hs => ?_
    unfold starBad at h
    rw [List.any_eq_false] at h
    simpa using h s (List.mem_range.2 (by omega))
  · intro h
    unfold starBad
    rw [List.any_eq_false]
    intro s hs
    have := noPos_stages hm hL hB h s (by have := List.mem_range.1 hs; omega)
    simp [this]

/-- What Star answers: the greatest weights of walks, where no closed walk bears more than 0. -/
theorem star_ok {L : Int} (hm : Bd n L m) (hv : validF m = true) (hL : 0 ≤ L) (hB : n * L ≤ 100000000000) (h : NoPos m n) : starE m = 0 ∧ starS m = starN m n := by
  have := (starBad_iff hm hL hB).2 h
  simp [starE, starS, starF, hv, this, hm.sq.len]
theorem star_no {L : Int} (hm : Bd n L m) (hv : validF m = true) (hL : 0 ≤ L) (hB : n * L ≤ 100000000000) (h : ¬ NoPos m n) : starE m = 120 ∧ starS m = [] := by
  have : starBad m = true := by
    cases hb : starBad m with
    | true => rfl
    | false => exact (h ((starBad_iff hm hL hB).1 hb)).elim
  simp [starE, starS, starF, hv, this]
theorem starN_clean (hl : m.length = n) : ∀ (t : Nat) {i j : Int}, In n i → In n j → cleanE (at2 (starN m t) i j)
  | 0, i, j, hi, hj => by
    rw [starN_at0 hl hi hj]; unfold star1
    cases decide (i = j)
    · simp only [cond_false]; exact clean_plus _ _
    · simp only [cond_true]; exact clean_plus _ _
  | t + 1, _, _, hi, hj => by rw [starN_at hl t hi hj]; exact clean_plus _ _

theorem le_star {L : Int} (hm : Bd n L m) (hL : 0 ≤ L) (hB : n * L ≤ 100000000000) (h : NoPos m n) {i j z : Int} (hi : In n i) (hj : In n j) : le z (at2 (starN m n) i j) ↔ ∃ k, W m n n k i j z := by
  have fw := fw_all hm hL hB n (Nat.le_refl _) (fun s hs => noPos_stages hm hL hB h s (by omega))
  exact ⟨fw.s i j z hi hj, fun ⟨k, hk⟩ => fw.c k i j z hk⟩
theorem NoPos.short (h : NoPos m n) {k : Nat} {i j z : Int} (hw : W m n n k i j z) : ∃ k', k' < n ∧ W m n n k' i j z := by
  obtain ⟨k', z', h1, h2, h3⟩ := hw.short
  exact ⟨k', h1, h2.down (h3 h)⟩
theorem star_bd {L : Int} (hm : Bd n L m) (hL : 0 ≤ L) (hB : n * L ≤ 100000000000) (h : NoPos m n) : Bd n (n * L) (starN m n) :=
  ⟨by rw [← hm.sq.len]; exact starN_sq m _, hm.le, fun i j h0 hi h1 hj hf => by
    have hz := (le_star hm hL hB h ⟨h0, hi⟩ ⟨h1, hj⟩).1 (le_self hf)
    obtain ⟨k, hk⟩ := hz
    obtain ⟨k', g1, g2⟩ := h.short hk
    have h4 : (k' : Int) * L ≤ n * L := Int.mul_le_mul_of_nonneg_right (by omega) hL
    have := g2.high hm
    have := ((le_star hm hL hB h ⟨h0, hi⟩ ⟨h1, hj⟩).2 ⟨k', g2.low hm⟩).2
    omega⟩
end
end Go.Eng.Mp
