/- Maxplus: the laws of cycles and of paths. -/
import Derived.Test.YthdihjmpibfmgaaMpL7
namespace Go.Eng.Mp
open Go.Proofs
section
variable {m : List (List Int)} {n : Nat}
theorem times_pos {x y : Int} (h : timesF x y > 0) : infF x = false ∧ infF y = false ∧ timesF x y = x + y := by
  unfold timesF at h ⊢
  cases hx : infF x <;> cases hy : infF y <;> simp [hx, hy] at h ⊢
theorem times_real {x y : Int} (h : infF (timesF x y) = false) : infF x = false ∧ infF y = false ∧ timesF x y = x + y := by
  unfold timesF at h ⊢
  cases hx : infF x <;> cases hy : infF y <;> simp [hx, hy] at h ⊢
  all_goals simp [infF] at h
theorem le_of_real {x : Int} (h : infF x = false) : le x x := le_self h
theorem pos_not (h : posWalk m) : ¬ NoPos m m.length := by
  obtain ⟨i, k, j, i0, i1, k0, k1, j0, j1, h⟩ := h
  have hi : In m.length i := ⟨i0, i1⟩
  have hk : In m.length k := ⟨k0, k1⟩
  have hj : In m.length j := ⟨j0, j1⟩
  intro np
  rcases h with h | h | h
  · have := np _ _ _ (W.one hi hi (le_iff.2 ⟨by omega, Int.le_refl _⟩))
    omega
  · obtain ⟨a, b, e⟩ := times_pos h
    have := np _ _ _ ((W.one hi hk (le_self a)).trans' (W.one hk hi (le_self b)))
    omega
  · obtain ⟨a, b, e⟩ := times_pos h
    obtain ⟨c, d, e2⟩ := times_real a
    have := np _ _ _ (((W.one hi hk (le_self c)).trans' (W.one hk hj (le_self d))).trans' (W.one hj hi (le_self b)))
    omega
theorem low_noPos (h : rowsLow m m.length 0) : NoPos m m.length := by
  have key : ∀ (p : Nat → Int) (k : Nat) (z : Int), (∀ s, s ≤ k → In m.length (p s)) → PW m p k z → z ≤ 0 := by
    intro p k
    induction k with
    | zero => intro z _ h; exact h
    | succ k ih =>
      intro z hp hw
      obtain ⟨u, v, h1, h2, h3⟩ := hw
      have := ih u (fun s hs => hp s (by omega)) h1
      have a := hp k (by omega)
      have b := hp (k + 1) (by omega)
      have := h _ _ a.1 (.inl a.2) b.1 b.2
      have := h2.2
      omega
  rintro k x u ⟨p, _, _, h3, _, h5⟩
  exact key p k u h3 h5
theorem elem_times' {x y : Int} (hx : elemF x = true) (hy : elemF y = true) : timesP x y := elem_times hx hy
theorem elem_times3 {x y z : Int} (hx : elemF x = true) (hy : elemF y = true) (hz : elemF z = true) : timesP (timesF x y) z := by
  intro h1 h2
  obtain ⟨a, b, e⟩ := times_real h1
  simp only [elemF, a, b, h2, Bool.false_or, Bool.and_eq_true, decide_eq_true_eq] at hx hy hz
  simp only [inR]; omega
end
theorem s_Cycles (m : List (List Int)) : SoundC Try.prog 9 [.dat M m] ⟨True, .dat .bool true⟩ := by
  refine sound_of_ev (c := c12) KS12 hm (vc_Cycles m ⟨rfl, rfl, fun _ => ?_⟩)
  simp only [cnd_or, cnd_and, D.and, D.not, Bool.true_and, eq_self, true_and, and_true, imp_self, implies_true, Bool.not_eq_true', Bool.or_eq_true, Bool.or_eq_false_iff, Bool.not_eq_false', Bool.and_eq_true, at2_eq]
  intro fm
  have hv := (fine_iff.1 fm).2
  obtain ⟨sq, hle, el⟩ := valid_sq hv
  have hn := few_len (fine_iff.1 fm).1
  have hP : starP m := by unfold starP; omega
  have hb : Bd m.length 1000000000 m := ⟨sq, hle, fun i j h0 hi h1 hj hf => by
    have := el i j h0 hi h1 hj
    simp only [elemF, hf, Bool.false_or, Bool.and_eq_true, decide_eq_true_eq] at this
    omega⟩
  have row : ∀ {i : Int}, 0 ≤ i → i < m.length → D.ilen (D.get m (D.nat i) (D.nil Int)) = m.length := fun h0 hi => by
    show (((m.getD _ []).length : Nat) : Int) = _
    rw [show D.nat _ = Int.toNat _ from rfl, sq.row _ h0 hi]
  refine ⟨hP, ⟨(0, false, false), ⟨by show (0 : Int) ≤ 0; omega, by show (0 : Int) ≤ _; omega, fun _ x y h0 h1 => by simp only at h1; omega, fun h => by cases h⟩, rfl, rfl, rfl⟩, fun x hx => ⟨fun hlt => ⟨⟨(0, p2 x, p3 x), ?_, rfl, rfl, rfl⟩, fun y hy => ⟨fun hlt2 => ?_, fun hge => ?_⟩⟩, fun hge => ?_⟩⟩
  · exact ⟨by show (0 : Int) ≤ 0; omega, by show (0 : Int) ≤ _; omega, hx.2.2.1, hx.2.2.2⟩
  · have i0 : D.ile 0 (p1 x) := hx.1
    have i1 : D.ilt (p1 x) (D.ilen m) := of_decide_eq_true hlt
    have j0 : D.ile 0 (p1 y) := hy.1
    have j1 : D.ilt (p1 y) (D.ilen m) := of_decide_eq_true hlt2
    simp only [row i0 i1, row j0 j1, i0, i1, j0, j1, implies_true, true_and]
    have i1 : p1 x < m.length := i1
    have j1 : p1 y < m.length := j1
    have exy := el _ _ i0 i1 j0 j1
    have eyx := el _ _ j0 j1 i0 i1
    refine ⟨⟨(0, p3 y), ⟨by show (0 : Int) ≤ 0; omega, by show (0 : Int) ≤ _; omega, hy.2.2.2⟩, rfl, rfl⟩, fun z hz => ⟨fun hlt3 => ?_, fun _ => ⟨by simp only [inR, D.add]; omega, (p1 y + 1, (p2 y || D.gt (at2 m (p1 x) (p1 y)) 0), q2 z), ⟨by show (0 : Int) ≤ p1 y + 1; have : 0 ≤ p1 y := j0; omega, by show p1 y + 1 ≤ _; omega, fun hf a b a0 hab b0 b1 => ?_, hz.2.2⟩, ⟨rfl, rfl, rfl⟩, ?_⟩⟩⟩
    · have k0 : 0 ≤ q1 z := hz.1
      have k1 : q1 z < m.length := of_decide_eq_true hlt3
      have eyz := el _ _ j0 j1 k0 k1
      have ezx := el _ _ k0 k1 i0 i1
      refine ⟨fun _ => elem_times exy eyx, fun _ => k0, fun _ => k1, fun _ => elem_times exy eyz, fun _ => k0, fun _ => k1, fun _ => by rw [row k0 k1]; exact i1, fun _ => elem_times3 exy eyz ezx, by simp only [inR, D.add]; omega,
        (q1 z + 1, _), ⟨by show 0 ≤ q1 z + 1; omega, by show q1 z + 1 ≤ _; omega, fun hc => ?_⟩, ⟨rfl, rfl⟩, ?_⟩
      · have hc : (q2 z || D.gt (at2 m (p1 x) (p1 x)) 0 || D.gt (timesF (at2 m (p1 x) (p1 y)) (at2 m (p1 y) (p1 x))) 0 || D.gt (timesF (timesF (at2 m (p1 x) (p1 y)) (at2 m (p1 y) (q1 z))) (at2 m (q1 z) (p1 x))) 0) = true := hc
        simp only [Bool.or_eq_true, decide_eq_true_eq] at hc
        rcases hc with ((hc | hc) | hc) | hc
        · exact hz.2.2 hc
        · exact ⟨p1 x, p1 y, q1 z, i0, i1, j0, j1, k0, k1, .inl hc⟩
        · exact ⟨p1 x, p1 y, q1 z, i0, i1, j0, j1, k0, k1, .inr (.inl hc)⟩
        · exact ⟨p1 x, p1 y, q1 z, i0, i1, j0, j1, k0, k1, .inr (.inr hc)⟩
      · show (D.sub (D.ilen m) (q1 z + 1)).toNat < (D.sub (D.ilen m) (q1 z)).toNat
        simp only [D.sub, D.ilen]; omega
    · simp only [Bool.or_eq_false_iff, decide_eq_false_iff_not] at hf
      by_cases e : b = p1 y ∧ a = p1 x
      · obtain ⟨rfl, rfl⟩ := e
        have := hf.2; omega
      · exact hy.2.2.1 hf.1 a b a0 (by have e3 : y.1 = p1 y := rfl; rcases hab with q | q <;> omega) b0 b1
    · show (D.sub (D.ilen m) (p1 y + 1)).toNat < (D.sub (D.ilen m) (p1 y)).toNat
      simp only [D.sub, D.ilen]; omega
  · have hge : ¬ p1 y < m.length := by simpa using hge
    have hlt : p1 x < m.length := of_decide_eq_true hlt
    have h0 : 0 ≤ p1 x := hx.1
    refine ⟨by simp only [inR, D.add]; omega, (p1 x + 1, p2 y, p3 y), ⟨by show 0 ≤ p1 x + 1; omega, by show p1 x + 1 ≤ _; omega, fun hf a b a0 hab b0 b1 => hy.2.2.1 hf a b a0 ?_ b0 b1, hy.2.2.2⟩, ⟨rfl, rfl, rfl⟩, ?_⟩
    · have : ¬ y.1 < m.length := hge
      have : x.1 = p1 x := rfl
      simp only at hab
      omega
    · show (D.sub (D.ilen m) (p1 x + 1)).toNat < (D.sub (D.ilen m) (p1 x)).toNat
      simp only [D.sub, D.ilen]; omega
  · have hge : ¬ p1 x < m.length := by simpa using hge
    have e1 : p1 x = m.length := by have : p1 x ≤ m.length := hx.2.1; omega
    have ok : NoPos m m.length → starE m = 0 := fun h => (star_ok hb hv (by omega) (by omega) h).1
    have no : ¬ NoPos m m.length → starE m = 120 := fun h => (star_no hb hv (by omega) (by omega) h).1
    simp only [eq_iff]
    refine ⟨⟨?_, ?_⟩, ?_⟩
    · by_cases h : NoPos m m.length
      · exact .inl (ok h)
      · exact .inr (no h)
    · cases hp : p2 x with
      | true => exact .inl rfl
      | false =>
        refine .inr (ok (low_noPos ?_))
        have := hx.2.2.1 hp
        rwa [show x.1 = (m.length : Int) from e1] at this
    · cases hp : p3 x with
      | false => exact .inl rfl
      | true => exact .inr (no (pos_not (hx.2.2.2 hp)))

section
variable {m : List (List Int)} {n : Nat}
theorem pow_succ (m : List (List Int)) (k : Nat) : powF m ((k : Int) + 1) = prodF (powF m k) (sumF (oneF m.length) m) := by
  unfold powF
  rw [show ((k : Int) + 1).toNat = k + 1 by omega, Int.toNat_natCast]; rfl
theorem pow_ok (hm : Bd m.length 1000000 m) (hn : m.length ≤ 10) : ∀ k : Nat, k ≤ 10 → Bd m.length (1000000 * ((k : Int) + 1)) (powF m k) ∧
    (∀ i j : Int, In m.length i → In m.length j → cleanE (at2 (powF m k) i j)) ∧ ∀ i j z, In m.length i → In m.length j → (le z (at2 (powF m k) i j) ↔ ∃ k', k' ≤ k ∧ W m m.length m.length k' i j z)
  | 0, _ => by
    refine ⟨one_bd hm.le (by omega), fun i j hi hj => ?_, fun i j z hi hj => ?_⟩
    · show cleanE (at2 (oneF m.length) i j)
      rw [one_at hi.1 hi.2 hj.1 hj.2]; exact one_clean _ _
    · show le z (at2 (oneF m.length) i j) ↔ _
      rw [one_at hi.1 hi.2 hj.1 hj.2, le_one]
      constructor
      · rintro ⟨rfl, hz⟩
        exact ⟨0, Nat.le_refl _, W.zero hi hz⟩
      · rintro ⟨k', hk, hw⟩
        have : k' = 0 := by omega
        subst this
        obtain ⟨p, h1, h2, _, _, h5⟩ := hw
        exact ⟨by rw [← h1, ← h2], h5⟩
  | k + 1, hk => by
    obtain ⟨b, c, l⟩ := pow_ok hm hn k (by omega)
    have st : Bd m.length 1000000 (sumF (oneF m.length) m) := (one_bd hm.le (by omega)).sum hm (by omega)
    have e : powF m (((k + 1 : Nat)) : Int) = prodF (powF m k) (sumF (oneF m.length) m) := by
      rw [show (((k + 1 : Nat)) : Int) = (k : Int) + 1 by omega]; exact pow_succ m k
    rw [e]
    have ho := one_bd (n := m.length) (L := 1000000) hm.le (by omega)
    refine ⟨(b.prod st (by omega) (by omega)).up (by omega), fun i j hi hj => b.prod_clean st (by omega) (by omega) hi.1 hi.2 hj.1 hj.2, fun i j z hi hj => ?_⟩
    rw [b.le_prod st (by omega) (by omega) hi.1 hi.2 hj.1 hj.2]
    constructor
    · rintro ⟨q, u, v, q0, q1, hu, hv, hz⟩
      obtain ⟨k', hk', hw⟩ := (l i q u hi ⟨q0, q1⟩).1 hu
      rcases (ho.le_sum hm (by omega) (by omega) q0 q1 hj.1 hj.2).1 hv with h | h
      · rw [one_at q0 q1 hj.1 hj.2, le_one] at h
        obtain ⟨rfl, h⟩ := h
        exact ⟨k', by omega, hw.down (by omega)⟩
      · exact ⟨k' + 1, by omega, (hw.trans' (W.one ⟨q0, q1⟩ hj h)).down hz⟩
    · rintro ⟨k', hk', hw⟩
      by_cases h : k' ≤ k
      · exact ⟨j, z, 0, hj.1, hj.2, (l i j z hi hj).2 ⟨k', h, hw⟩, (ho.le_sum hm (by omega) (by omega) hj.1 hj.2 hj.1 hj.2).2 (.inl (by rw [one_at hj.1 hj.2 hj.1 hj.2, le_one]; exact ⟨rfl, by omega⟩)), by omega⟩
      · have : k' = k + 1 := by omega
        subst this
        obtain ⟨q, u, v, hq, hu, hv, hz⟩ := hw.snoc
        exact ⟨q, u, v, hq.1, hq.2, (l i q u hi hq).2 ⟨k, Nat.le_refl _, hu⟩, (ho.le_sum hm (by omega) (by omega) hq.1 hq.2 hj.1 hj.2).2 (.inr hv), hz⟩
theorem pow_star (hm : Bd m.length 1000000 m) (hn : m.length ≤ 10) (h : NoPos m m.length) : powF m m.length = starN m m.length := by
  obtain ⟨b, c, l⟩ := pow_ok hm hn m.length hn
  refine mat_ext b.sq (star_bd hm (by omega) (by omega) h).sq (fun i j h0 hi h1 hj => c i j ⟨h0, hi⟩ ⟨h1, hj⟩) (fun i j h0 hi h1 hj => starN_clean rfl _ ⟨h0, hi⟩ ⟨h1, hj⟩) fun z i j h0 hi h1 hj => ?_
  rw [l i j z ⟨h0, hi⟩ ⟨h1, hj⟩, le_star hm (by omega) (by omega) h ⟨h0, hi⟩ ⟨h1, hj⟩]
  constructor
  · rintro ⟨k', _, hw⟩; exact ⟨k', hw⟩
  · rintro ⟨k, hw⟩
    obtain ⟨k', h1, h2⟩ := h.short hw
    exact ⟨k', by omega, h2⟩
theorem step_in {p : List Int} {k : Int} (hp : ∀ x ∈ p, 0 ≤ x) (hm : 0 < m.length) (h0 : 0 ≤ k) (hk : k < p.length) : In m.length (stepAt m p k) := by
  have := hp _ (getD_mem p 0 k.toNat (by omega))
  exact ⟨Int.tmod_nonneg _ this, Int.tmod_lt_of_pos _ (by omega)⟩
theorem wt_walk {p : List Int} (hp : ∀ x ∈ p, 0 ≤ x) (hm0 : 0 < m.length) : ∀ k : Nat, k < p.length → infF (wtN m p k) = false → W m m.length m.length k (stepAt m p 0) (stepAt m p k) (wtN m p k)
  | 0, hk, _ => W.zero (step_in hp hm0 (by omega) (by omega)) (Int.le_refl _)
  | k + 1, hk, hf => by
    obtain ⟨a, b, e⟩ := times_real (show infF (timesF (wtN m p k) (at2 m (stepAt m p k) (stepAt m p (k + 1)))) = false from hf)
    have h1 := wt_walk hp hm0 k (by omega) a
    have h2 := W.one (t := m.length) (step_in (k := (k : Int)) hp hm0 (by omega) (by omega)) (step_in (k := (k : Int) + 1) hp hm0 (by omega) (by omega)) (le_self b)
    have := h1.trans' h2
    rw [← e] at this
    exact this
theorem wt_bd {p : List Int} (hm : Bd m.length 1000000 m) (hp : ∀ x ∈ p, 0 ≤ x) (hm0 : 0 < m.length) : ∀ k : Nat, k < p.length → infF (wtN m p k) = false → -((k : Int) * 1000000) ≤ wtN m p k ∧ wtN m p k ≤ (k : Int) * 1000000
  | 0, _, _ => by simp [wtN]
  | k + 1, hk, hf => by
    obtain ⟨a, b, e⟩ := times_real (show infF (timesF (wtN m p k) (at2 m (stepAt m p k) (stepAt m p (k + 1)))) = false from hf)
    have h1 := wt_bd hm hp hm0 k (by omega) a
    have i1 := step_in (m := m) (k := (k : Int)) hp hm0 (by omega) (by omega)
    have i2 := step_in (m := m) (k := (k : Int) + 1) hp hm0 (by omega) (by omega)
    have h2 := hm.el _ _ i1.1 i1.2 i2.1 i2.2 b
    show -(((k + 1 : Nat) : Int) * 1000000) ≤ timesF _ _ ∧ timesF _ _ ≤ ((k + 1 : Nat) : Int) * 1000000
    rw [e]; omega
end
theorem s_Paths (m : List (List Int)) (p : List Int) (hp : ∀ x ∈ p, 0 ≤ x ∧ x ≤ 255) : SoundC Try.prog 10 [.dat M m, .dat B8 p] ⟨True, .dat .bool true⟩ := by
  refine sound_of_ev (c := c12) KS12 hm (vc_Paths m p ⟨rfl, rfl, fun _ => ?_⟩)
  simp only [cnd_or, cnd_and, D.and, D.not, Bool.true_and, eq_self, true_and, and_true, imp_self, implies_true, Bool.not_eq_true', Bool.or_eq_true, Bool.or_eq_false_iff, Bool.not_eq_false', Bool.and_eq_true, at2_eq]
  refine ⟨fun h => (good_of (fine_iff.1 h).2).lens, fun ⟨⟨fm, mm⟩, hlp⟩ => ⟨?_, fun ⟨he, hne⟩ => ?_⟩⟩
  · have := few_len (fine_iff.1 fm).1
    unfold starP; omega
  have hv := (fine_iff.1 fm).2
  have hm := mild_bd hv mm
  have hn := few_len (fine_iff.1 fm).1
  have hl20 : p.length ≤ 20 := by
    have : ¬ (p.length : Int) > 20 := by simpa using hlp
    omega
  have np : NoPos m m.length := by
    by_cases h : NoPos m m.length
    · exact h
    · have := (star_no hm hv (by omega) (by omega) h).1
      rw [this] at he; simp at he
  obtain ⟨e1, e2⟩ := star_ok hm hv (by omega) (by omega) np
  have hs := star_bd hm (by omega) (by omega) np
  have hsl := hs.sq.len
  have hm0 : 0 < m.length := by
    have : ¬ (m.length : Int) = 0 := by simpa [D.eq, D.ilen] using hne
    omega
  have hp0 : ∀ x ∈ p, 0 ≤ x := fun x hx => (hp x hx).1
  have sm : small (D.ilen m) := by simp only [small, D.ilen]; omega
  have rowS : ∀ {i : Int}, In m.length i → D.ilen (D.get (starN m m.length) (D.nat i) (D.nil Int)) = m.length := fun hi => by
    show ((((starN m m.length).getD _ []).length : Nat) : Int) = _
    rw [show D.nat _ = Int.toNat _ from rfl, hs.sq.row _ hi.1 hi.2]
  have rowM : ∀ {i : Int}, In m.length i → D.ilen (D.get m (D.nat i) (D.nil Int)) = m.length := fun hi => by
    show (((m.getD _ []).length : Nat) : Int) = _
    rw [show D.nat _ = Int.toNat _ from rfl, hm.sq.row _ hi.1 hi.2]
  rw [e2]
  refine ⟨fun h => ?_, fun _ => ⟨sm, sm, ⟨0, ⟨by omega, by simp only [D.ilen]; omega⟩, rfl, rfl⟩, fun x hx => ⟨fun hlt => ?_, fun hge => ?_⟩⟩⟩
  · simp [D.ne, D.ilen, hsl] at h
  · have hlt : x < m.length := of_decide_eq_true hlt
    have g0 := hx.1
    refine ⟨by simp only [inR, D.add]; omega, x + 1, ⟨by omega, by simp only [D.ilen]; omega⟩, ⟨?_, rfl⟩, by simp only [D.nlt, D.nat, D.sub, D.ilen]; omega⟩
    have := pow_succ m x.toNat
    rw [Int.toNat_of_nonneg g0] at this
    exact this.symm
  · have hge : ¬ x < m.length := by simpa using hge
    have ex : x = m.length := by have := hx.1; have : x ≤ m.length := hx.2; omega
    subst ex
    rw [pow_star hm hn np]
    refine ⟨((hs.up (L' := 12000000) (by omega)).good (by omega)).lensOk, fun h => (by rw [same_self] at h; cases h), fun _ hpe => ?_⟩
    have hpl : 0 < p.length := by
      have : ¬ (p.length : Int) = 0 := by simpa [D.eq, D.ilen] using hpe
      omega
    have byte : ∀ {k : Int}, 0 ≤ k → k < p.length → 0 ≤ D.get p (D.nat k) 0 ∧ D.get p (D.nat k) 0 ≤ 255 := fun h0 hk => hp _ (getD_mem p 0 _ (by simp only [D.nat]; omega))
    refine ⟨⟨1, ⟨by omega, by omega⟩, rfl, rfl⟩, fun y hy => ⟨fun hlt => ?_, fun hge => ?_⟩⟩
    · have hlt : y < p.length := of_decide_eq_true hlt
      have h1 := hy.1
      have b1 := byte (k := y - 1) (by omega) (by omega)
      have b2 := byte (k := y) (by omega) (by omega)
      have i1 := step_in (m := m) (k := y - 1) hp0 hm0 (by omega) (by omega)
      have i2 := step_in (m := m) (k := y) hp0 hm0 (by omega) (by omega)
      have hw : wtF m p (y + 1) = timesF (wtF m p y) (at2 m (stepAt m p (y - 1)) (stepAt m p y)) := by
        unfold wtF
        rw [show (y + 1 - 1).toNat = (y - 1).toNat + 1 by omega]
        show timesF (wtN m p (y - 1).toNat) (at2 m (stepAt m p ((y - 1).toNat : Int)) (stepAt m p (((y - 1).toNat : Int) + 1))) = _
        rw [Int.toNat_of_nonneg (by omega), show y - 1 + 1 = y by omega]
      refine ⟨by simp only [inR, D.sub]; omega, by simp only [D.ile, D.sub]; omega, by simp only [D.ilt, D.sub, D.ilen]; omega, (by rw [show D.sub y 1 = y - 1 from rfl]; simp only [inR]; omega), by simp only [D.ine, D.ilen]; omega, i1.1, i1.2, by simp only [D.ile]; omega, hlt, by simp only [inR]; omega,
        by simp only [D.ine, D.ilen]; omega, i2.1, ?_, ?_, by simp only [inR, D.add]; omega, y + 1, ⟨by omega, by omega⟩, ⟨hw.symm, rfl⟩, by simp only [D.nlt, D.nat, D.sub, D.ilen]; omega⟩
      · exact (rowM i1) ▸ i2.2
      · intro f1 f2
        have := wt_bd hm hp0 hm0 (y - 1).toNat (by omega) f1
        have h5 : ((y - 1).toNat : Int) ≤ 20 := by omega
        have := hm.el _ _ i1.1 i1.2 i2.1 i2.2 f2
        have e5 : wtF m p y = wtN m p (y - 1).toNat := rfl
        have e6 : D.get (D.get m (D.nat (D.rem (D.get p (D.nat (D.sub y 1)) 0) (D.ilen m))) (D.nil Int)) (D.nat (D.rem (D.get p (D.nat y) 0) (D.ilen m))) 0 = at2 m (stepAt m p (y - 1)) (stepAt m p y) := rfl
        show inR .i64 (wtF m p y + at2 m (stepAt m p (y - 1)) (stepAt m p y))
        rw [e5]; simp only [inR]; omega
    · have hge : ¬ y < p.length := by simpa using hge
      have ey : y = p.length := by have := hy.2; omega
      subst ey
      have b1 := byte (k := 0) (by omega) (by omega)
      have b2 := byte (k := (p.length : Int) - 1) (by omega) (by omega)
      have i1 := step_in (m := m) (k := 0) hp0 hm0 (by omega) (by omega)
      have i2 := step_in (m := m) (k := (p.length : Int) - 1) hp0 hm0 (by omega) (by omega)
      have r1 : D.ilt (D.rem (D.get p (D.nat 0) 0) (D.ilen m)) (D.ilen (starN m m.length)) := by
        show stepAt m p 0 < ((starN m m.length).length : Int)
        rw [hsl]; exact i1.2
      have r2 : D.ilt (D.rem (D.get p (D.nat (D.sub (D.ilen p) 1)) 0) (D.ilen m)) (D.ilen (D.get (starN m m.length) (D.nat (D.rem (D.get p (D.nat 0) 0) (D.ilen m))) (D.nil Int))) := (rowS i1) ▸ i2.2
      refine ⟨by simp only [D.ile]; omega, by simp only [D.ilt, D.ilen]; omega, by simp only [inR]; omega, by simp only [D.ine, D.ilen]; omega, by simp only [inR, D.sub, D.ilen]; omega, by simp only [D.ile, D.sub, D.ilen]; omega, by simp only [D.ilt, D.sub, D.ilen]; omega,
        by simp only [inR, D.sub, D.ilen] at b2 ⊢; omega, by simp only [D.ine, D.ilen]; omega, fun _ => i1.1, fun _ => r1, fun _ => i1.1, fun _ => r1, fun _ => i2.1, fun _ => r2, ?_, ?_⟩
      · rw [eq_iff]; exact rowS i1
      · cases hf : infF (wtF m p p.length) with
        | true => exact .inl rfl
        | false =>
          right
          have hw := wt_walk hp0 hm0 (((p.length : Int) - 1).toNat) (by omega) hf
          have e7 : ((((p.length : Int) - 1).toNat : Nat) : Int) = (p.length : Int) - 1 := by omega
          rw [e7] at hw
          have := ((le_star hm (by omega) (by omega) np i1 i2).2 ⟨_, hw⟩).2
          exact decide_eq_true this
end Go.Eng.Mp
