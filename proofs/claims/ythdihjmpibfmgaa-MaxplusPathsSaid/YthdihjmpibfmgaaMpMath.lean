/- Max-plus mathematics: elements by the numbers that they bear; sums, products, stars. -/
import Derived.Test.YthdihjmpibfmgaaMp7
namespace Go.Eng.Mp

/-- z is at most the element x. -/
def le (z x : Int) : Prop := infF x = false ∧ z ≤ x
def cleanE (x : Int) : Prop := x = -1099511627776 ∨ infF x = false

theorem infF_false {x : Int} : infF x = false ↔ -549755813888 < x := by
  simp only [infF, decide_eq_false_iff_not]; omega
theorem infF_true {x : Int} : infF x = true ↔ x ≤ -549755813888 := by
  simp only [infF, decide_eq_true_eq]
theorem le_iff {z x : Int} : le z x ↔ -549755813888 < x ∧ z ≤ x := by unfold le; rw [infF_false]
theorem le_down {y z x : Int} (h : y ≤ z) (hz : le z x) : le y x := ⟨hz.1, by have := hz.2; omega⟩
theorem le_self {x : Int} (h : infF x = false) : le x x := ⟨h, by omega⟩
theorem ext_le {x y : Int} (hx : cleanE x) (hy : cleanE y) (h : ∀ z, le z x ↔ le z y) : x = y := by
  rcases hx with rfl | hx <;> rcases hy with rfl | hy
  · rfl
  · have := (h y).2 (le_self hy)
    simp [le, infF] at this
  · have := (h x).1 (le_self hx)
    simp [le, infF] at this
  · have := ((h x).1 (le_self hx)).2
    have := ((h y).2 (le_self hy)).2
    omega
theorem le_plus {z x y : Int} : le z (plusF x y) ↔ le z x ∨ le z y := by
  simp only [le_iff, plusF, infF, Bool.cond_eq_ite, Bool.and_eq_true, decide_eq_true_eq]
  split <;> omega
theorem clean_plus (x y : Int) : cleanE (plusF x y) := by
  simp only [cleanE, infF_false]
  simp only [plusF, infF, Bool.cond_eq_ite, Bool.and_eq_true, decide_eq_true_eq]
  split <;> omega
theorem clean_times {x y : Int} (h : infF x = false → infF y = false → -549755813888 < x + y) : cleanE (timesF x y) := by
  simp only [cleanE, infF_false] at h ⊢
  simp only [timesF, infF, Bool.cond_eq_ite, Bool.or_eq_true, decide_eq_true_eq]
  split <;> omega
theorem le_times {z x y : Int} (h : infF x = false → infF y = false → -549755813888 < x + y) : le z (timesF x y) ↔ ∃ u v, le u x ∧ le v y ∧ z ≤ u + v := by
  constructor
  · intro hz
    simp only [infF_false] at h
    simp only [le_iff, timesF, infF, Bool.cond_eq_ite, Bool.or_eq_true, decide_eq_true_eq] at hz
    split at hz
    · omega
    · exact ⟨x, y, le_iff.2 ⟨by omega, by omega⟩, le_iff.2 ⟨by omega, by omega⟩, hz.2⟩
  · rintro ⟨u, v, hu, hv, hz⟩
    have := h hu.1 hv.1
    simp only [le_iff] at hu hv
    simp only [le_iff, timesF, infF, Bool.cond_eq_ite, Bool.or_eq_true, decide_eq_true_eq]
    split <;> omega
theorem le_foldN {g : Int → Int} {z : Int} : ∀ n : Nat, le z (foldN plusF g (-1099511627776) n) ↔ ∃ k : Nat, k < n ∧ le z (g k)
  | 0 => by simp [foldN, le, infF]
  | n + 1 => by
    simp only [foldN, le_plus, le_foldN n]
    constructor
    · rintro (⟨k, hk, h⟩ | h)
      · exact ⟨k, by omega, h⟩
      · exact ⟨n, by omega, h⟩
    · rintro ⟨k, hk, h⟩
      by_cases e : k = n
      · subst e; exact .inr h
      · exact .inl ⟨k, by omega, h⟩
theorem le_fold {g : Int → Int} {z n : Int} : le z (foldI plusF g (-1099511627776) n) ↔ ∃ k : Int, 0 ≤ k ∧ k < n ∧ le z (g k) := by
  unfold foldI
  rw [le_foldN]
  constructor
  · rintro ⟨k, hk, h⟩; exact ⟨k, by omega, by omega, h⟩
  · rintro ⟨k, h0, hk, h⟩; exact ⟨k.toNat, by omega, by rwa [Int.toNat_of_nonneg h0]⟩
theorem clean_fold {g : Int → Int} {n : Int} : cleanE (foldI plusF g (-1099511627776) n) := by
  unfold foldI
  cases n.toNat with
  | zero => exact .inl rfl
  | succ k => exact clean_plus _ _

/-- A square matrix of n rows whose numbers lie within L. -/
structure Bd (n : Nat) (L : Int) (m : List (List Int)) : Prop where
  sq : Sq n m
  le : n ≤ 40
  el : ∀ i j : Int, 0 ≤ i → i < n → 0 ≤ j → j < n → infF (at2 m i j) = false → -L ≤ at2 m i j ∧ at2 m i j ≤ L

theorem Bd.up {n : Nat} {L L' : Int} {m : List (List Int)} (h : Bd n L m) (hl : L ≤ L') : Bd n L' m :=
  ⟨h.sq, h.le, fun i j h0 hi h1 hj hf => by have := h.el i j h0 hi h1 hj hf; omega⟩
theorem Bd.good {n : Nat} {L : Int} {m : List (List Int)} (h : Bd n L m) (hl : L ≤ 1000000000) : Good n m :=
  ⟨h.sq, h.le, fun i j h0 hi h1 hj => by
    unfold elemF
    cases hf : infF (at2 m i j) with
    | true => rfl
    | false =>
      have := h.el i j h0 hi h1 hj hf
      have : at2 m i j ≥ -1000000000 ∧ at2 m i j ≤ 1000000000 := by omega
      simp [this]⟩
theorem mild_bd {m : List (List Int)} (hv : validF m = true) (hm : mildF m = true) : Bd m.length 1000000 m := by
  obtain ⟨sq, le, _⟩ := valid_sq hv
  refine ⟨sq, le, fun i j h0 hi h1 hj hf => ?_⟩
  have hr := sq.row i h0 hi
  have a := List.all_eq_true.1 hm _ (getD_mem m [] i.toNat (by omega))
  have b : mild1 (at2 m i j) = true := List.all_eq_true.1 a _ (getD_mem (m.getD i.toNat []) 0 j.toNat (by omega))
  simp only [mild1, hf, Bool.false_or, Bool.and_eq_true, decide_eq_true_eq] at b
  omega
theorem Good.prod_eq {n : Nat} {a b : List (List Int)} (h : Good n a) (h' : Good n b) : prodF a b = buildF (dotF a b) n := by
  simp [prodF, h.alike h', h.sq.len]
section
variable {n : Nat} {L L' : Int} {a b c : List (List Int)}
theorem Bd.noUnder (h : Bd n L a) (h' : Bd n L' b) (hl : L + L' < 549755813888) {i k j : Int} (h0 : 0 ≤ i) (hi : i < n) (h1 : 0 ≤ k) (hk : k < n) (h2 : 0 ≤ j) (hj : j < n) :
    infF (at2 a i k) = false → infF (at2 b k j) = false → -549755813888 < at2 a i k + at2 b k j := fun e1 e2 => by
  have := h.el i k h0 hi h1 hk e1
  have := h'.el k j h1 hk h2 hj e2
  omega
theorem Bd.prod_at (h : Bd n L a) (h' : Bd n L' b) (hl : L ≤ 1000000000) (hl' : L' ≤ 1000000000) {i j : Int} (h0 : 0 ≤ i) (hi : i < n) (h1 : 0 ≤ j) (hj : j < n) :
    at2 (prodF a b) i j = foldI plusF (term a i b j) (-1099511627776) n := by
  rw [(h.good hl).prod_eq (h'.good hl'), buildF_at _ _ _ _ h0 hi h1 hj]
  show foldI plusF (term a i b j) (-1099511627776) a.length = _
  rw [h.sq.len]
theorem Bd.le_prod (h : Bd n L a) (h' : Bd n L' b) (hl : L ≤ 1000000000) (hl' : L' ≤ 1000000000) {z i j : Int} (h0 : 0 ≤ i) (hi : i < n) (h1 : 0 ≤ j) (hj : j < n) :
    Mp.le z (at2 (prodF a b) i j) ↔ ∃ k u v, 0 ≤ k ∧ k < (n : Int) ∧ Mp.le u (at2 a i k) ∧ Mp.le v (at2 b k j) ∧ z ≤ u + v := by
  rw [h.prod_at h' hl hl' h0 hi h1 hj, le_fold]
  constructor
  · rintro ⟨k, g0, g1, hz⟩
    obtain ⟨u, v, q⟩ := (le_times (h.noUnder h' (by omega) h0 hi g0 g1 h1 hj)).1 hz
    exact ⟨k, u, v, g0, g1, q⟩
  · rintro ⟨k, u, v, g0, g1, q⟩
    exact ⟨k, g0, g1, (le_times (h.noUnder h' (by omega) h0 hi g0 g1 h1 hj)).2 ⟨u, v, q⟩⟩
theorem Bd.prod_sq (h : Bd n L a) (h' : Bd n L' b) (hl : L ≤ 1000000000) (hl' : L' ≤ 1000000000) : Sq n (prodF a b) := by
  rw [(h.good hl).prod_eq (h'.good hl')]; exact buildF_sq _ _
theorem Bd.prod_clean (h : Bd n L a) (h' : Bd n L' b) (hl : L ≤ 1000000000) (hl' : L' ≤ 1000000000) {i j : Int} (h0 : 0 ≤ i) (hi : i < n) (h1 : 0 ≤ j) (hj : j < n) : cleanE (at2 (prodF a b) i j) := by
  rw [h.prod_at h' hl hl' h0 hi h1 hj]; exact clean_fold
theorem Bd.prod (h : Bd n L a) (h' : Bd n L' b) (hl : L ≤ 1000000000) (hl' : L' ≤ 1000000000) : Bd n (L + L') (prodF a b) :=
  ⟨h.prod_sq h' hl hl', h.le, fun i j h0 hi h1 hj hf => by
    obtain ⟨k, u, v, g0, g1, hu, hv, hz⟩ := (h.le_prod h' hl hl' h0 hi h1 hj).1 (le_self hf)
    have a1 := h.el i k h0 hi g0 g1 hu.1
    have a2 := h'.el k j g0 g1 h1 hj hv.1
    have a3 := ((h.le_prod h' hl hl' h0 hi h1 hj).2 ⟨k, _, _, g0, g1, le_self hu.1, le_self hv.1, Int.le_refl _⟩).2
    have := hu.2; have := hv.2
    omega⟩
theorem Bd.le_sum (h : Bd n L a) (h' : Bd n L' b) (hl : L ≤ 1000000000) (hl' : L' ≤ 1000000000) {z i j : Int} (h0 : 0 ≤ i) (hi : i < n) (h1 : 0 ≤ j) (hj : j < n) :
    Mp.le z (at2 (sumF a b) i j) ↔ Mp.le z (at2 a i j) ∨ Mp.le z (at2 b i j) := by
  rw [(h.good hl).sum_at (h'.good hl') i j h0 hi h1 hj, le_plus]
theorem Bd.sum_clean (h : Bd n L a) (h' : Bd n L' b) (hl : L ≤ 1000000000) (hl' : L' ≤ 1000000000) {i j : Int} (h0 : 0 ≤ i) (hi : i < n) (h1 : 0 ≤ j) (hj : j < n) : cleanE (at2 (sumF a b) i j) := by
  rw [(h.good hl).sum_at (h'.good hl') i j h0 hi h1 hj]; exact clean_plus _ _
theorem Bd.sum (h : Bd n L a) (h' : Bd n L b) (hl : L ≤ 1000000000) : Bd n L (sumF a b) :=
  ⟨((h.good hl).sum (h'.good hl)).sq, h.le, fun i j h0 hi h1 hj hf => by
    have a1 := h.el i j h0 hi h1 hj
    have a2 := h'.el i j h0 hi h1 hj
    rw [(h.good hl).sum_at (h'.good hl) i j h0 hi h1 hj] at hf ⊢
    rcases le_plus.1 (le_self hf) with q | q
    · have := a1 q.1; have := q.2
      have := (le_plus (y := at2 b i j)).2 (.inl (le_self q.1)) |>.2
      unfold plusF at *
      by_cases hb : infF (at2 b i j) = false
      · have := a2 hb
        cases hq : infF (at2 a i j) && infF (at2 b i j) <;> simp only [hq, cond_true, cond_false] at * <;> omega
      · have hb : infF (at2 b i j) = true := by simpa using hb
        rw [infF_true] at hb
        have h3 := q.1
        rw [infF_false] at h3
        cases hq : infF (at2 a i j) && infF (at2 b i j) <;> simp only [hq, cond_true, cond_false] at * <;> omega
    · have := a2 q.1; have := q.2
      have := (le_plus (x := at2 a i j)).2 (.inr (le_self q.1)) |>.2
      unfold plusF at *
      by_cases hb : infF (at2 a i j) = false
      · have := a1 hb
        cases hq : infF (at2 a i j) && infF (at2 b i j) <;> simp only [hq, cond_true, cond_false] at * <;> omega
      · have hb : infF (at2 a i j) = true := by simpa using hb
        rw [infF_true] at hb
        have h3 := q.1
        rw [infF_false] at h3
        cases hq : infF (at2 a i j) && infF (at2 b i j) <;> simp only [hq, cond_true, cond_false] at * <;> omega⟩

/-- Two matrices that bear the same numbers are the same. -/
theorem mat_ext (ha : Sq n a) (hb : Sq n b) (ca : ∀ i j : Int, 0 ≤ i → i < n → 0 ≤ j → j < n → cleanE (at2 a i j)) (cb : ∀ i j : Int, 0 ≤ i → i < n → 0 ≤ j → j < n → cleanE (at2 b i j))
    (h : ∀ z i j : Int, 0 ≤ i → i < n → 0 ≤ j → j < n → (Mp.le z (at2 a i j) ↔ Mp.le z (at2 b i j))) : a = b :=
  sq_ext ha hb fun i j h0 hi h1 hj => ext_le (ca i j h0 hi h1 hj) (cb i j h0 hi h1 hj) fun z => h z i j h0 hi h1 hj

theorem one_at {i j : Int} (h0 : 0 ≤ i) (hi : i < n) (h1 : 0 ≤ j) (hj : j < n) : at2 (oneF n) i j = one1 i j := buildF_at _ _ _ _ h0 hi h1 hj
theorem one_sq (n : Nat) : Sq n (oneF n) := buildF_sq _ _
theorem le_one {z i j : Int} : Mp.le z (one1 i j) ↔ i = j ∧ z ≤ 0 := by
  by_cases h : i = j
  · simp [one1, h, le, infF]
  · simp [one1, h, le, infF]
theorem one_clean (i j : Int) : cleanE (one1 i j) := by
  by_cases h : i = j
  · simp [one1, h, cleanE, infF]
  · simp [one1, h, cleanE, infF]
theorem one_bd (hn : n ≤ 40) (hL : 0 ≤ L) : Bd n L (oneF n) :=
  ⟨one_sq n, hn, fun i j h0 hi h1 hj hf => by
    rw [one_at h0 hi h1 hj] at hf ⊢
    by_cases h : i = j
    · simp [one1, h]; omega
    · simp [one1, h, infF] at hf⟩

theorem clean_at' {n : Nat} {a : List (List Int)} (h : Good n a) {z i j : Int} (h0 : 0 ≤ i) (hi : i < n) (h1 : 0 ≤ j) (hj : j < n) : Mp.le z (at2 (cleanF a) i j) ↔ Mp.le z (at2 a i j) := by
  rw [h.clean.2 i j h0 hi h1 hj, clean1, le_plus]
  exact ⟨fun q => q.elim id (fun q => by simp [le, infF] at q), .inl⟩

theorem prod_assoc {L'' : Int} (ha : Bd n L a) (hb : Bd n L' b) (hc : Bd n L'' c) (h1 : L + L' ≤ 1000000000) (h2 : L' + L'' ≤ 1000000000) (p : 0 ≤ L) (p' : 0 ≤ L') (p'' : 0 ≤ L'') :
    prodF (prodF a b) c = prodF a (prodF b c) := by
  have ab := ha.prod hb (by omega) (by omega)
  have bc := hb.prod hc (by omega) (by omega)
  refine mat_ext (ab.prod_sq hc (by omega) (by omega)) (ha.prod_sq bc (by omega) (by omega)) (fun i j h0 hi h1 hj => ab.prod_clean hc (by omega) (by omega) h0 hi h1 hj)
    (fun i j h0 hi h1 hj => ha.prod_clean bc (by omega) (by omega) h0 hi h1 hj) fun z i j h0 hi h1 hj => ?_
  rw [ab.le_prod hc (by omega) (by omega) h0 hi h1 hj, ha.le_prod bc (by omega) (by omega) h0 hi h1 hj]
  constructor
  · rintro ⟨k, u, v, k0, k1, hu, hv, hz⟩
    obtain ⟨l, x, y, l0, l1, hx, hy, hz2⟩ := (ha.le_prod hb (by omega) (by omega) h0 hi k0 k1).1 hu
    exact ⟨l, x, y + v, l0, l1, hx, (hb.le_prod hc (by omega) (by omega) l0 l1 h1 hj).2 ⟨k, y, v, k0, k1, hy, hv, by omega⟩, by omega⟩
  · rintro ⟨k, u, v, k0, k1, hu, hv, hz⟩
    obtain ⟨l, x, y, l0, l1, hx, hy, hz2⟩ := (hb.le_prod hc (by omega) (by omega) k0 k1 h1 hj).1 hv
    exact ⟨l, u + x, y, l0, l1, (ha.le_prod hb (by omega) (by omega) h0 hi l0 l1).2 ⟨k, u, x, k0, k1, hu, hx, by omega⟩, hy, by omega⟩
theorem prod_sum (ha : Bd n L a) (hb : Bd n L b) (hc : Bd n L c) (h1 : L + L ≤ 1000000000) (p : 0 ≤ L) : prodF a (sumF b c) = sumF (prodF a b) (prodF a c) := by
  have bc := hb.sum hc (by omega)
  have ab := ha.prod hb (by omega) (by omega)
  have ac := ha.prod hc (by omega) (by omega)
  refine mat_ext (ha.prod_sq bc (by omega) (by omega)) (ab.sum ac (by omega)).sq (fun i j h0 hi h1 hj => ha.prod_clean bc (by omega) (by omega) h0 hi h1 hj)
    (fun i j h0 hi h1 hj => ab.sum_clean ac (by omega) (by omega) h0 hi h1 hj) fun z i j h0 hi h1 hj => ?_
  rw [ha.le_prod bc (by omega) (by omega) h0 hi h1 hj, ab.le_sum ac (by omega) (by omega) h0 hi h1 hj, ha.le_prod hb (by omega) (by omega) h0 hi h1 hj, ha.le_prod hc (by omega) (by omega) h0 hi h1 hj]
  constructor
  · rintro ⟨k, u, v, k0, k1, hu, hv, hz⟩
    rcases (hb.le_sum hc (by omega) (by omega) k0 k1 h1 hj).1 hv with q | q
    · exact .inl ⟨k, u, v, k0, k1, hu, q, hz⟩
    · exact .inr ⟨k, u, v, k0, k1, hu, q, hz⟩
  · rintro (⟨k, u, v, k0, k1, hu, hv, hz⟩ | ⟨k, u, v, k0, k1, hu, hv, hz⟩)
    · exact ⟨k, u, v, k0, k1, hu, (hb.le_sum hc (by omega) (by omega) k0 k1 h1 hj).2 (.inl hv), hz⟩
    · exact ⟨k, u, v, k0, k1, hu, (hb.le_sum hc (by omega) (by omega) k0 k1 h1 hj).2 (.inr hv), hz⟩
theorem sum_prod (ha : Bd n L a) (hb : Bd n L b) (hc : Bd n L c) (h1 : L + L ≤ 1000000000) (p : 0 ≤ L) : prodF (sumF a b) c = sumF (prodF a c) (prodF b c) := by
  have ab := ha.sum hb (by omega)
  have ac := ha.prod hc (by omega) (by omega)
  have bc := hb.prod hc (by omega) (by omega)
  refine mat_ext (ab.prod_sq hc (by omega) (by omega)) (ac.sum bc (by omega)).sq (fun i j h0 hi h1 hj => ab.prod_clean hc (by omega) (by omega) h0 hi h1 hj)
    (fun i j h0 hi h1 hj => ac.sum_clean bc (by omega) (by omega) h0 hi h1 hj) fun z i j h0 hi h1 hj => ?_
  rw [ab.le_prod hc (by omega) (by omega) h0 hi h1 hj, ac.le_sum bc (by omega) (by omega) h0 hi h1 hj, ha.le_prod hc (by omega) (by omega) h0 hi h1 hj, hb.le_prod hc (by omega) (by omega) h0 hi h1 hj]
  constructor
  · rintro ⟨k, u, v, k0, k1, hu, hv, hz⟩
    rcases (ha.le_sum hb (by omega) (by omega) h0 hi k0 k1).1 hu with q | q
    · exact .inl ⟨k, u, v, k0, k1, q, hv, hz⟩
    · exact .inr ⟨k, u, v, k0, k1, q, hv, hz⟩
  · rintro (⟨k, u, v, k0, k1, hu, hv, hz⟩ | ⟨k, u, v, k0, k1, hu, hv, hz⟩)
    · exact ⟨k, u, v, k0, k1, (ha.le_sum hb (by omega) (by omega) h0 hi k0 k1).2 (.inl hu), hv, hz⟩
    · exact ⟨k, u, v, k0, k1, (ha.le_sum hb (by omega) (by omega) h0 hi k0 k1).2 (.inr hu), hv, hz⟩
theorem clean_clean (h : Good n a) {i j : Int} (h0 : 0 ≤ i) (hi : i < n) (h1 : 0 ≤ j) (hj : j < n) : cleanE (at2 (cleanF a) i j) := by
  rw [h.clean.2 i j h0 hi h1 hj]; exact clean_plus _ _
theorem prod_one (ha : Bd n L a) (hl : L ≤ 1000000000) (p : 0 ≤ L) : prodF a (oneF n) = cleanF a := by
  have ho := one_bd (L := L) ha.le p
  refine mat_ext (ha.prod_sq ho hl hl) (ha.good hl).clean.1 (fun i j h0 hi h1 hj => ha.prod_clean ho hl hl h0 hi h1 hj) (fun i j h0 hi h1 hj => clean_clean (ha.good hl) h0 hi h1 hj) fun z i j h0 hi h1 hj => ?_
  rw [ha.le_prod ho hl hl h0 hi h1 hj, clean_at' (ha.good hl) h0 hi h1 hj]
  constructor
  · rintro ⟨k, u, v, k0, k1, hu, hv, hz⟩
    rw [one_at k0 k1 h1 hj, le_one] at hv
    obtain ⟨rfl, hv⟩ := hv
    exact le_down (by omega) hu
  · intro hz
    exact ⟨j, z, 0, h1, hj, hz, by rw [one_at h1 hj h1 hj, le_one]; exact ⟨rfl, by omega⟩, by omega⟩
theorem one_prod (ha : Bd n L a) (hl : L ≤ 1000000000) (p : 0 ≤ L) : prodF (oneF n) a = cleanF a := by
  have ho := one_bd (L := L) ha.le p
  refine mat_ext (ho.prod_sq ha hl hl) (ha.good hl).clean.1 (fun i j h0 hi h1 hj => ho.prod_clean ha hl hl h0 hi h1 hj) (fun i j h0 hi h1 hj => clean_clean (ha.good hl) h0 hi h1 hj) fun z i j h0 hi h1 hj => ?_
  rw [ho.le_prod ha hl hl h0 hi h1 hj, clean_at' (ha.good hl) h0 hi h1 hj]
  constructor
  · rintro ⟨k, u, v, k0, k1, hu, hv, hz⟩
    rw [one_at h0 hi k0 k1, le_one] at hu
    obtain ⟨rfl, hu⟩ := hu
    exact le_down (by omega) hv
  · intro hz
    exact ⟨i, 0, z, h0, hi, by rw [one_at h0 hi h0 hi, le_one]; exact ⟨rfl, by omega⟩, hz, by omega⟩
end
end Go.Eng.Mp
