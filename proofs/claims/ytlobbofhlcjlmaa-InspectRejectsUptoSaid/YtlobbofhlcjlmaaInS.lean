/- PeInS: the seal of numbers, plain: one number changed changes it -/
set_option linter.unusedSimpArgs false
set_option linter.unusedVariables false

namespace Go.Eng.In
/-- One number's step: the power, the sum. -/
def sStep (st : Int × Int) (x : Int) : Int × Int := (st.1 * 3 % 65521, (st.2 + x * (st.1 * 3 % 65521)) % 65521)
def sRun (st : Int × Int) (l : List Int) : Int × Int := l.foldl sStep st
def sealOf (l : List Int) : Int := (sRun (1, 0) l).2
theorem sRun_cons (st : Int × Int) (x : Int) (l : List Int) : sRun st (x :: l) = sRun (sStep st x) l := rfl
theorem sRun_app (st : Int × Int) (a b : List Int) : sRun st (a ++ b) = sRun (sRun st a) b := by
  unfold sRun; exact List.foldl_append
def okSt (st : Int × Int) : Prop := (0 ≤ st.1 ∧ st.1 < 65521) ∧ (0 ≤ st.2 ∧ st.2 < 65521)
theorem sStep_ok (st : Int × Int) (x : Int) : okSt (sStep st x) :=
  ⟨⟨Int.emod_nonneg _ (by decide), Int.emod_lt_of_pos _ (by decide)⟩, ⟨Int.emod_nonneg _ (by decide), Int.emod_lt_of_pos _ (by decide)⟩⟩
theorem sRun_ok : ∀ (l : List Int) {st : Int × Int}, okSt st → okSt (sRun st l)
  | [], _, h => h
  | x :: l, st, _ => sRun_ok l (sStep_ok st x)
/-- A power that can be taken back. -/
def inv (p : Int) : Prop := ∃ q : Int, p * q % 65521 = 1
theorem inv_step {p : Int} (h : inv p) : inv (p * 3 % 65521) := by
  obtain ⟨q, hq⟩ := h
  refine ⟨q * 43681, ?_⟩
  rw [Int.mul_emod, Int.emod_emod_of_dvd _ (Int.dvd_refl _), ← Int.mul_emod]
  have e : p * 3 * (q * 43681) = p * q * 131043 := by
    rw [Int.mul_assoc, Int.mul_left_comm 3 q 43681, ← Int.mul_assoc]; rfl
  rw [e, Int.mul_emod, hq]; rfl
theorem inv_run : ∀ (l : List Int) {st : Int × Int}, inv st.1 → inv (sRun st l).1
  | [], _, h => h
  | _ :: l, _, h => inv_run l (inv_step h)
theorem inv_zero {p d : Int} (h : inv p) (hd : d * p % 65521 = 0) : d % 65521 = 0 := by
  obtain ⟨q, hq⟩ := h
  have h1 : d * p * q % 65521 = 0 := by rw [Int.mul_emod, hd]; simp
  rw [Int.mul_assoc, Int.mul_emod, hq, Int.mul_one, Int.emod_emod_of_dvd _ (Int.dvd_refl _)] at h1
  exact h1
/-- Other sums stay other ones. -/
theorem sRun_ne : ∀ (l : List Int) {p s t : Int}, 0 ≤ s → s < 65521 → 0 ≤ t → t < 65521 → s ≠ t → (sRun (p, s) l).2 ≠ (sRun (p, t) l).2
  | [], _, _, _, _, _, _, _, h => h
  | x :: l, p, s, t, s0, s1, t0, t1, h => by
    rw [sRun_cons, sRun_cons]
    have e : ∀ y : Int, sStep (p, y) x = (p * 3 % 65521, (y + x * (p * 3 % 65521)) % 65521) := fun _ => rfl
    rw [e, e]
    generalize x * (p * 3 % 65521) = z
    exact sRun_ne l (Int.emod_nonneg _ (by decide)) (Int.emod_lt_of_pos _ (by decide)) (Int.emod_nonneg _ (by decide)) (Int.emod_lt_of_pos _ (by decide)) (by omega)
theorem seal_range (l : List Int) : 0 ≤ sealOf l ∧ sealOf l < 65521 := (sRun_ok l (st := (1, 0)) ⟨⟨by decide, by decide⟩, ⟨by decide, by decide⟩⟩).2
/-- One number changed (both from 0 to 65519): another seal. -/
theorem seal_set {l : List Int} {k : Nat} {x : Int} (hk : k < l.length) (h0 : ∀ y ∈ l, 0 ≤ y ∧ y ≤ 65519) (x0 : 0 ≤ x) (x1 : x ≤ 65519) (hne : x ≠ l[k]) : sealOf (l.set k x) ≠ sealOf l := by
  have e1 : l = l.take k ++ l[k] :: l.drop (k + 1) := by rw [List.getElem_cons_drop, List.take_append_drop]
  have e2 : l.set k x = l.take k ++ x :: l.drop (k + 1) := List.set_eq_take_append_cons_drop .. |>.trans (by rw [if_pos hk])
  obtain ⟨y0, y1⟩ := h0 l[k] (List.getElem_mem _)
  unfold sealOf
  rw [e2]
  conv => rhs; rw [e1]
  rw [sRun_app, sRun_app, sRun_cons, sRun_cons]
  have hi : inv (sRun (1, 0) (l.take k)).1 := inv_run _ ⟨1, rfl⟩
  have ho : okSt (sRun (1, 0) (l.take k)) := sRun_ok _ ⟨⟨by decide, by decide⟩, ⟨by decide, by decide⟩⟩
  generalize sRun (1, 0) (l.take k) = st at *
  obtain ⟨p, s⟩ := st
  have e : ∀ y : Int, sStep (p, s) y = (p * 3 % 65521, (s + y * (p * 3 % 65521)) % 65521) := fun _ => rfl
  rw [e, e]
  refine sRun_ne _ (Int.emod_nonneg _ (by decide)) (Int.emod_lt_of_pos _ (by decide)) (Int.emod_nonneg _ (by decide)) (Int.emod_lt_of_pos _ (by decide)) fun h => ?_
  have hz : (x - l[k]) * (p * 3 % 65521) % 65521 = 0 := by
    rw [Int.sub_mul]
    generalize x * (p * 3 % 65521) = a at *
    generalize l[k] * (p * 3 % 65521) = b at *
    omega
  have := inv_zero (inv_step hi) hz
  omega
end Go.Eng.In
