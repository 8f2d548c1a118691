/- Maxplus: the laws of stars. -/
import Derived.Test.YthdihjmpibfmgaaMp9
import Derived.Test.YthdihjmpibfmgaaMpStar
import Derived.Test.YthdihjmpibfmgaaMpL5
namespace Go.Eng.Mp
open Go.Proofs
section
variable {m a b s : List (List Int)} {n : Nat} {t : Int}
theorem PW.over (hS : ∀ i j z, In n i → In n j → le z (at2 s i j) → ∃ k, W m n n k i j z) : ∀ {p : Nat → Int} {k : Nat} {z : Int}, (∀ r, r ≤ k → In n (p r)) → PW s p k z → ∃ k', W m n n k' (p 0) (p k) z
  | p, 0, z, hp, h => ⟨0, W.zero (hp 0 (by omega)) h⟩
  | p, k + 1, z, hp, ⟨u, v, h1, h2, h3⟩ => by
    obtain ⟨k1, w1⟩ := PW.over hS (fun r hr => hp r (by omega)) h1
    obtain ⟨k2, w2⟩ := hS _ _ _ (hp k (by omega)) (hp (k + 1) (by omega)) h2
    exact ⟨k1 + k2, (w1.trans' w2).down h3⟩
theorem W.over (hS : ∀ i j z, In n i → In n j → le z (at2 s i j) → ∃ k, W m n n k i j z) {k : Nat} {i j z : Int} (h : W s n t k i j z) : ∃ k', W m n n k' i j z := by
  obtain ⟨p, h1, h2, h3, h4, h5⟩ := h
  have := PW.over hS h3 h5
  rwa [h1, h2] at this
theorem W.cons {k : Nat} {i j z : Int} (h : W m n n (k + 1) i j z) : ∃ l u v, In n l ∧ le u (at2 m i l) ∧ W m n n k l j v ∧ z ≤ u + v := by
  obtain ⟨p, h1, h2, h3, h4, h5⟩ := h
  have h5' : PW m p (1 + k) z := by rw [Nat.add_comm]; exact h5
  obtain ⟨u, v, q1, q2, q3⟩ := PW.split 1 k h5'
  obtain ⟨u0, u1, r1, r2, r3⟩ := q1
  have r1 : u0 ≤ 0 := r1
  simp only [Nat.zero_add, h1] at r2
  exact ⟨p 1, u1, v, h3 1 (by omega), r2, ⟨fun t => p (1 + t), rfl, by show p (1 + k) = j; rw [Nat.add_comm]; exact h2, fun r hr => h3 _ (by omega), fun r r1 r2 => (h3 _ (by omega)).2, q2⟩, by omega⟩
theorem W.snoc {k : Nat} {i j z : Int} (h : W m n n (k + 1) i j z) : ∃ l u v, In n l ∧ W m n n k i l u ∧ le v (at2 m l j) ∧ z ≤ u + v := by
  obtain ⟨p, h1, h2, h3, h4, h5⟩ := h
  obtain ⟨u, v, q1, q2, q3⟩ := h5
  rw [h2] at q2
  exact ⟨p k, u, v, h3 k (by omega), ⟨p, h1, rfl, fun r hr => h3 r (by omega), fun r r1 r2 => h4 r r1 (by omega), q1⟩, q2, q3⟩
theorem W.pow {k : Nat} {i u : Int} (h : W m n n k i i u) : ∀ r : Nat, ∃ k', W m n n k' i i (r * u)
  | 0 => ⟨0, W.zero h.ins.1 (by simp)⟩
  | r + 1 => by
    obtain ⟨k', w⟩ := W.pow h r
    refine ⟨k' + k, (w.trans' h).down ?_⟩
    rw [Int.natCast_add, Int.add_mul]; simp

theorem below_le (hb : belowF a b = true) (ha : Sq n a) {i j z : Int} (hi : In n i) (hj : In n j) (h : le z (at2 a i j)) : le z (at2 b i j) := by
  obtain ⟨h1, h2⟩ := belowF_iff.1 hb
  have hl := ha.len
  have h3 := h2 i.toNat (by have := hi.1; have := hi.2; omega)
  obtain ⟨h4, h5⟩ := rowBelow_iff.1 h3
  have hr := ha.row i hi.1 hi.2
  have h6 := h5 j.toNat (by have := hj.1; have := hj.2; omega)
  have h7 : over (at2 a i j) (at2 b i j) = false := by
    have e : ((j.toNat : Nat) : Int) = j := Int.toNat_of_nonneg hj.1
    rw [e] at h6; exact h6
  unfold over at h7
  rw [h.1] at h7
  have h8 : ¬ at2 a i j > at2 b i j := by simpa using h7
  have := le_iff.1 h
  exact le_iff.2 ⟨by omega, by omega⟩
theorem le_below (ha : Sq n a) (hb : Sq n b) (h : ∀ i j z, In n i → In n j → le z (at2 a i j) → le z (at2 b i j)) : belowF a b = true := by
  have hl := ha.len
  refine belowF_iff.2 ⟨by rw [hl, hb.len], fun i hi => rowBelow_iff.2 ⟨?_, fun j hj => ?_⟩⟩
  · have r := ha.row i (by omega) (by omega)
    have r' := hb.row i (by omega) (by omega)
    simp only [Int.toNat_natCast] at r r'
    rw [r, r']
  · have r := ha.row i (by omega) (by omega)
    simp only [Int.toNat_natCast] at r
    show over (at2 a i j) (at2 b i j) = false
    unfold over
    cases hf : infF (at2 a i j) with
    | true => rfl
    | false =>
      have := (h i j _ ⟨by omega, by omega⟩ ⟨by omega, by omega⟩ (le_self hf)).2
      have : ¬ at2 a i j > at2 b i j := by omega
      simp [this]
end

section
variable {m : List (List Int)} {n : Nat} {L : Int}
theorem star_one_prod (hm : Bd n 1000000 m) (hn : n ≤ 12) (h : NoPos m n) : starN m n = sumF (oneF n) (prodF m (starN m n)) ∧ starN m n = sumF (oneF n) (prodF (starN m n) m) ∧ starN m n = prodF (starN m n) (starN m n) := by
  have hs := (star_bd hm (by omega) (by omega) h).up (L' := 12000000) (by omega)
  have ms := hm.prod hs (by omega) (by omega)
  have sm := hs.prod hm (by omega) (by omega)
  have cl := fun {i j : Int} (h0 : 0 ≤ i) (hi : i < (n : Int)) (h1 : 0 ≤ j) (hj : j < (n : Int)) => starN_clean (m := m) hm.sq.len n (i := i) (j := j) ⟨h0, hi⟩ ⟨h1, hj⟩
  have ho1 := one_bd (n := n) (L := 1000000 + 12000000) hm.le (by omega)
  have ho2 := one_bd (n := n) (L := 12000000 + 1000000) hm.le (by omega)
  refine ⟨?_, ?_, ?_⟩
  · refine mat_ext hs.sq (ho1.sum ms (by omega)).sq (fun i j h0 hi h1 hj => cl h0 hi h1 hj) (fun i j h0 hi h1 hj => ho1.sum_clean ms (by omega) (by omega) h0 hi h1 hj) fun z i j h0 hi h1 hj => ?_
    rw [ho1.le_sum ms (by omega) (by omega) h0 hi h1 hj, one_at h0 hi h1 hj, le_one, hm.le_prod hs (by omega) (by omega) h0 hi h1 hj, le_star hm (by omega) (by omega) h ⟨h0, hi⟩ ⟨h1, hj⟩]
    constructor
    · rintro ⟨k, hk⟩
      cases k with
      | zero =>
        obtain ⟨p, h1, h2, _, _, h5⟩ := hk
        exact .inl ⟨by rw [← h1, ← h2], h5⟩
      | succ k =>
        obtain ⟨l, u, v, hl, hu, hv, hz⟩ := hk.cons
        exact .inr ⟨l, u, v, hl.1, hl.2, hu, (le_star hm (by omega) (by omega) h hl ⟨h1, hj⟩).2 ⟨k, hv⟩, hz⟩
    · rintro (⟨rfl, hz⟩ | ⟨l, u, v, l0, l1, hu, hv, hz⟩)
      · exact ⟨0, W.zero ⟨h0, hi⟩ hz⟩
      · obtain ⟨k, hk⟩ := (le_star hm (by omega) (by omega) h ⟨l0, l1⟩ ⟨h1, hj⟩).1 hv
        exact ⟨1 + k, ((W.one ⟨h0, hi⟩ ⟨l0, l1⟩ hu).trans' hk).down hz⟩
  · refine mat_ext hs.sq (ho2.sum sm (by omega)).sq (fun i j h0 hi h1 hj => cl h0 hi h1 hj) (fun i j h0 hi h1 hj => ho2.sum_clean sm (by omega) (by omega) h0 hi h1 hj) fun z i j h0 hi h1 hj => ?_
    rw [ho2.le_sum sm (by omega) (by omega) h0 hi h1 hj, one_at h0 hi h1 hj, le_one, hs.le_prod hm (by omega) (by omega) h0 hi h1 hj, le_star hm (by omega) (by omega) h ⟨h0, hi⟩ ⟨h1, hj⟩]
    constructor
    · rintro ⟨k, hk⟩
      cases k with
      | zero =>
        obtain ⟨p, h1, h2, _, _, h5⟩ := hk
        exact .inl ⟨by rw [← h1, ← h2], h5⟩
      | succ k =>
        obtain ⟨l, u, v, hl, hu, hv, hz⟩ := hk.snoc
        exact .inr ⟨l, u, v, hl.1, hl.2, (le_star hm (by omega) (by omega) h ⟨h0, hi⟩ hl).2 ⟨k, hu⟩, hv, hz⟩
    · rintro (⟨rfl, hz⟩ | ⟨l, u, v, l0, l1, hu, hv, hz⟩)
      · exact ⟨0, W.zero ⟨h0, hi⟩ hz⟩
      · obtain ⟨k, hk⟩ := (le_star hm (by omega) (by omega) h ⟨h0, hi⟩ ⟨l0, l1⟩).1 hu
        exact ⟨k + 1, (hk.trans' (W.one ⟨l0, l1⟩ ⟨h1, hj⟩ hv)).down hz⟩
  · refine mat_ext hs.sq (hs.prod_sq hs (by omega) (by omega)) (fun i j h0 hi h1 hj => cl h0 hi h1 hj) (fun i j h0 hi h1 hj => hs.prod_clean hs (by omega) (by omega) h0 hi h1 hj) fun z i j h0 hi h1 hj => ?_
    rw [hs.le_prod hs (by omega) (by omega) h0 hi h1 hj]
    constructor
    · intro hz
      exact ⟨j, z, 0, h1, hj, hz, (le_star hm (by omega) (by omega) h ⟨h1, hj⟩ ⟨h1, hj⟩).2 ⟨0, W.zero ⟨h1, hj⟩ (by omega)⟩, by omega⟩
    · rintro ⟨l, u, v, l0, l1, hu, hv, hz⟩
      obtain ⟨k, hk⟩ := (le_star hm (by omega) (by omega) h ⟨h0, hi⟩ ⟨l0, l1⟩).1 hu
      obtain ⟨k', hk'⟩ := (le_star hm (by omega) (by omega) h ⟨l0, l1⟩ ⟨h1, hj⟩).1 hv
      exact (le_star hm (by omega) (by omega) h ⟨h0, hi⟩ ⟨h1, hj⟩).2 ⟨k + k', (hk.trans' hk').down hz⟩
theorem star_star (hm : Bd n 1000000 m) (hn : n ≤ 12) (h : NoPos m n) : NoPos (starN m n) n ∧ starN (starN m n) n = starN m n := by
  have hs := (star_bd hm (by omega) (by omega) h).up (L' := 12000000) (by omega)
  have ov : ∀ {k i j z}, W (starN m n) n n k i j z → ∃ k', W m n n k' i j z := fun hw => hw.over (fun i j z hi hj hz => (le_star hm (by omega) (by omega) h hi hj).1 hz)
  have np : NoPos (starN m n) n := fun k x u hw => by
    obtain ⟨k', hk⟩ := ov hw
    exact h _ _ _ hk
  refine ⟨np, mat_ext (star_bd hs (by omega) (by omega) np).sq hs.sq (fun i j h0 hi h1 hj => starN_clean hs.sq.len n ⟨h0, hi⟩ ⟨h1, hj⟩) (fun i j h0 hi h1 hj => starN_clean hm.sq.len n ⟨h0, hi⟩ ⟨h1, hj⟩) fun z i j h0 hi h1 hj => ?_⟩
  rw [le_star hs (by omega) (by omega) np ⟨h0, hi⟩ ⟨h1, hj⟩]
  constructor
  · rintro ⟨k, hk⟩
    obtain ⟨k', hk'⟩ := ov hk
    exact (le_star hm (by omega) (by omega) h ⟨h0, hi⟩ ⟨h1, hj⟩).2 ⟨k', hk'⟩
  · intro hz
    exact ⟨1, W.one ⟨h0, hi⟩ ⟨h1, hj⟩ hz⟩
end

theorem s_Stars (m : List (List Int)) : SoundC Try.prog 7 [.dat M m] ⟨True, .dat .bool true⟩ := by
  refine sound_of_ev (c := c11) KS11 hm (vc_Stars m ⟨rfl, rfl, fun _ => ?_⟩)
  simp only [cnd_or, cnd_and, D.and, D.not, Bool.true_and, eq_self, true_and, and_true, imp_self, implies_true, Bool.not_eq_true', Bool.or_eq_true, Bool.or_eq_false_iff, Bool.not_eq_false', Bool.and_eq_true]
  refine ⟨fun h => (good_of (fine_iff.1 h).2).lens, fun ⟨fm, mm⟩ => ?_⟩
  have hv := (fine_iff.1 fm).2
  have hm := mild_bd hv mm
  have hn := few_len (fine_iff.1 fm).1
  have hP : starP m := by unfold starP; omega
  by_cases h : NoPos m m.length
  · obtain ⟨e1, e2⟩ := star_ok hm hv (by omega) (by omega) h
    obtain ⟨f1, f2, f3⟩ := star_one_prod hm (by omega) h
    have hs := (star_bd hm (by omega) (by omega) h).up (L' := 12000000) (by omega)
    obtain ⟨np, f4⟩ := star_star hm (by omega) h
    obtain ⟨g1, g2⟩ := star_ok hs (hs.good (by omega)).valid (by omega) (by omega) np
    have lo := (hs.good (by omega)).lensOk
    have hl := hs.sq.len
    rw [e1, e2, g1, g2, f4]
    refine ⟨hP, fun h => by simp at h, fun _ => ⟨by simp only [small, D.ilen]; omega, by unfold starP; omega, fun _ => lo, fun _ => lo, fun _ => lo, fun _ => lo, ⟨⟨⟨⟨?_, ?_⟩, ?_⟩, ?_⟩, ?_⟩, ?_⟩⟩
    · simp [D.eq, D.ilen, hl]
    · show sameF _ (sumF (oneF m.length) (prodF m (starN m m.length))) = true
      rw [← f1]; exact same_self _
    · show sameF _ (sumF (oneF m.length) (prodF (starN m m.length) m)) = true
      rw [← f2]; exact same_self _
    · rw [← f3]; exact same_self _
    · rfl
    · exact same_self _
  · obtain ⟨e1, e2⟩ := star_no hm hv (by omega) (by omega) h
    rw [e1, e2]
    exact ⟨hP, fun _ => ⟨rfl, rfl⟩, fun h => by simp at h⟩

theorem eq_iff {x y : Int} : D.eq x y = true ↔ x = y := by simp
theorem ne_iff {x y : Int} : D.ne x y = true ↔ x ≠ y := by simp
theorem ne_iff' {x y : Int} : D.ne x y = false ↔ x = y := by simp

theorem s_Least (m x : List (List Int)) : SoundC Try.prog 8 [.dat M m, .dat M x] ⟨True, .dat .bool true⟩ := by
  refine sound_of_ev (c := c11) KS11 hm (vc_Least m x ⟨rfl, rfl, fun _ => ?_⟩)
  simp only [cnd_or, cnd_and, D.and, D.not, Bool.true_and, eq_self, true_and, and_true, imp_self, implies_true, Bool.not_eq_true', Bool.or_eq_true, Bool.or_eq_false_iff, Bool.not_eq_false', Bool.and_eq_true, ne_len]
  have cp : ∀ {m}, fineF m = true → cleanP m := fun h => (good_of (fine_iff.1 h).2).lens
  refine ⟨fun h => cp h.1.1, fun h => cp h.1.1.2, fun ⟨⟨⟨⟨fm, fx⟩, hl⟩, mm⟩, mx⟩ => ?_⟩
  have hv := (fine_iff.1 fm).2
  have hm := mild_bd hv mm
  have hx : Bd m.length 1000000 x := by rw [hl]; exact mild_bd (fine_iff.1 fx).2 mx
  have hn := few_len (fine_iff.1 fm).1
  have hs := hm.sum hx (by omega)
  have hvs := (hs.good (by omega)).valid
  have sub : ∀ i j z, In m.length i → In m.length j → le z (at2 m i j) → ∃ k, W (sumF m x) m.length m.length k i j z := fun i j z hi hj hz =>
    ⟨1, W.one hi hj ((hm.le_sum hx (by omega) (by omega) hi.1 hi.2 hj.1 hj.2).2 (.inl hz))⟩
  have okS : starE (sumF m x) = 0 → NoPos (sumF m x) m.length := fun h0 => by
    by_cases h : NoPos (sumF m x) m.length
    · exact h
    · have := (star_no hs hvs (by omega) (by omega) h).1
      rw [this] at h0; cases h0
  have okM : NoPos (sumF m x) m.length → NoPos m m.length := fun h k i u hw => by
    obtain ⟨k', hk⟩ := hw.over sub
    exact h _ _ _ hk
  have lenS : NoPos m m.length → lensOk (starS m) := fun h => by
    rw [(star_ok hm hv (by omega) (by omega) h).2]
    exact (((star_bd hm (by omega) (by omega) h).up (L' := 12000000) (by omega)).good (by omega)).lensOk
  refine ⟨by unfold starP; omega, by unfold starP; rw [hs.sq.len]; omega, fun ⟨h1, h2⟩ => lenS (okM (okS (eq_iff.1 h1))), fun ⟨h1, h2⟩ => ?_, fun _ => ⟨by simp only [small, D.ilen]; omega, ?_, fun _ => ?_, fun ⟨⟨h1, h2⟩, h3⟩ => ?_⟩⟩
  · have np := okS (eq_iff.1 h1)
    have npm := okM np
    obtain ⟨e1, e2⟩ := star_ok hm hv (by omega) (by omega) npm
    obtain ⟨e3, e4⟩ := star_ok hs hvs (by omega) (by omega) np
    rw [e1, e2, e4] at h2
    rcases h2 with h2 | h2
    · simp at h2
    · rw [le_below (star_bd hm (by omega) (by omega) npm).sq (star_bd hs (by omega) (by omega) np).sq (fun i j z hi hj hz => ?_)] at h2
      · cases h2
      · obtain ⟨k, hk⟩ := (le_star hm (by omega) (by omega) npm hi hj).1 hz
        obtain ⟨k', hk'⟩ := hk.over sub
        exact (le_star hs (by omega) (by omega) np hi hj).2 ⟨k', hk'⟩
  · exact ((one_bd (n := m.length) (L := 1000000) hm.le (by omega)).good (by omega)).lensOk
  · exact ((hm.prod hx (by omega) (by omega)).good (by omega)).lensOk
  · have h1 : belowF (oneF m.length) x = true := h1
    have mp := hm.prod hx (by omega) (by omega)
    have abs : ∀ (k : Nat) (i j z : Int), W m m.length m.length k i j z → le z (at2 x i j) := by
      intro k
      induction k with
      | zero =>
        intro i j z hw
        have hins := hw.ins
        obtain ⟨p, q1, q2, _, _, q5⟩ := hw
        have e : i = j := by rw [← q1, ← q2]
        refine below_le h1 (one_sq _) hins.1 hins.2 ?_
        rw [one_at hins.1.1 hins.1.2 hins.2.1 hins.2.2, le_one]
        exact ⟨e, q5⟩
      | succ k ih =>
        intro i j z hw
        have hins := hw.ins
        obtain ⟨l, u, v, hl, hu, hv, hz⟩ := hw.cons
        have := below_le h2 mp.sq hins.1 hins.2 (z := z) ((hm.le_prod hx (by omega) (by omega) hins.1.1 hins.1.2 hins.2.1 hins.2.2).2 ⟨l, u, v, hl.1, hl.2, hu, ih _ _ _ hv, hz⟩)
        exact this
    have np : NoPos m m.length := fun k i u hw => by
      by_cases hu : u ≤ 0
      · exact hu
      · obtain ⟨k', hk⟩ := hw.pow 1000001
        have h4 := abs _ _ _ _ hk
        have h5 := hx.el i i hk.ins.1.1 hk.ins.1.2 hk.ins.1.1 hk.ins.1.2 h4.1
        have := h4.2
        omega
    obtain ⟨e1, e2⟩ := star_ok hm hv (by omega) (by omega) np
    refine ⟨fun _ => lenS np, by rw [e1]; rfl, ?_⟩
    rw [e2]
    refine le_below (star_bd hm (by omega) (by omega) np).sq hx.sq fun i j z hi hj hz => ?_
    obtain ⟨k, hk⟩ := (le_star hm (by omega) (by omega) np hi hj).1 hz
    exact abs _ _ _ _ hk
end Go.Eng.Mp
