/- Maxplus: the laws of products and of columns. -/
import Derived.Test.YthdihjmpibfmgaaMp8
import Derived.Test.YthdihjmpibfmgaaMpMath
namespace Go.Eng.Mp
open Go.Proofs
theorem same_self (a : List (List Int)) : sameF a a = true := by simp [sameF]
theorem ints_self (a : List Int) : intsF a a = true := by simp [intsF]
theorem cnd_or (x y : Bool) : D.cnd x true y = (x || y) := by cases x <;> rfl
theorem cnd_and (x y : Bool) : D.cnd x y false = (x && y) := by cases x <;> rfl
theorem ne_len {α β : Type} {a : List α} {b : List β} : D.ne (D.ilen a) (D.ilen b) = false ↔ a.length = b.length := by
  simp only [D.ne, D.ilen, bne_eq_false_iff_eq]; omega
theorem s_Products (a b c : List (List Int)) : SoundC Try.prog 5 [.dat M a, .dat M b, .dat M c] ⟨True, .dat .bool true⟩ := by
  refine sound_of_ev (c := c11) KS11 hm (vc_Products a b c ⟨rfl, rfl, fun _ => ?_⟩)
  simp only [cnd_or, cnd_and, D.and, D.not, Bool.true_and, eq_self, true_and, and_true, imp_self, implies_true, Bool.not_eq_true', Bool.or_eq_true, Bool.or_eq_false_iff, Bool.not_eq_false', Bool.and_eq_true, ne_len]
  have cp : ∀ {m}, fineF m = true → cleanP m := fun h => (good_of (fine_iff.1 h).2).lens
  refine ⟨fun h => cp h.1.1.1.1, fun h => cp h.1.1.1.1.2, fun h => cp h.1.1.1.1.2, fun h => ?_⟩
  obtain ⟨⟨⟨⟨⟨⟨⟨fa, fb⟩, fc⟩, lab⟩, lbc⟩, ma⟩, mb⟩, mc⟩ := h
  have ba : Bd a.length 1000000 a := mild_bd (fine_iff.1 fa).2 ma
  have bb : Bd a.length 1000000 b := by rw [lab]; exact mild_bd (fine_iff.1 fb).2 mb
  have bc : Bd a.length 1000000 c := by rw [lab, lbc]; exact mild_bd (fine_iff.1 fc).2 mc
  have hn := ba.le
  have e1 : prodF (prodF a b) c = prodF a (prodF b c) := prod_assoc ba bb bc (by omega) (by omega) (by omega) (by omega) (by omega)
  have e2 : prodF a (sumF b c) = sumF (prodF a b) (prodF a c) := prod_sum ba bb bc (by omega) (by omega)
  have e3 : prodF (sumF a b) c = sumF (prodF a c) (prodF b c) := sum_prod ba bb bc (by omega) (by omega)
  have e4 : prodF a (oneF (D.ilen a)) = cleanF a := prod_one ba (by omega) (by omega)
  have e5 : prodF (oneF (D.ilen a)) a = cleanF a := one_prod ba (by omega) (by omega)
  have ab := ba.prod bb (by omega) (by omega)
  have ac := ba.prod bc (by omega) (by omega)
  have lx := ((ab.prod bc (by omega) (by omega)).good (by omega)).lensOk
  have ly := ((ab.sum ac (by omega)).good (by omega)).lensOk
  have lz := (((ba.sum bb (by omega)).prod bc (by omega) (by omega)).good (by omega)).lensOk
  have lo := (ba.prod (one_bd (L := 1000000) hn (by omega)) (by omega) (by omega)).good (by omega) |>.lensOk
  have lo2 := ((one_bd (L := 1000000) hn (by omega)).prod ba (by omega) (by omega)).good (by omega) |>.lensOk
  rw [← e2] at ly
  refine ⟨lx, fun _ => ly, fun _ => lz, ?_, fun _ => cp fa, fun _ => lo, fun _ => cp fa, fun _ => lo2, ?_⟩
  · simp only [small, D.ilen]; omega
  · rw [e1, e2, e3, e4, e5]; simp only [same_self, and_self]

/-- A column of n numbers within L. -/
structure Cv (n : Nat) (L : Int) (v : List Int) : Prop where
  len : v.length = n
  el : ∀ k : Int, 0 ≤ k → k < n → infF (at1 v k) = false → -L ≤ at1 v k ∧ at1 v k ≤ L
theorem mild_cv {v : List Int} (h : mildF [v] = true) : Cv v.length 1000000 v :=
  ⟨rfl, fun k h0 hk hf => by
    have a : v.all mild1 = true := by simpa [mildF] using h
    have b : mild1 (at1 v k) = true := List.all_eq_true.1 a _ (getD_mem v 0 k.toNat (by omega))
    simp only [mild1, hf, Bool.false_or, Bool.and_eq_true, decide_eq_true_eq] at b
    omega⟩
section
variable {n : Nat} {L L' : Int} {m a b : List (List Int)} {v : List Int}
theorem Cv.wrong (h : Cv n L v) (hl : L ≤ 1000000000) : wrongF v = false := wrongF_false.2 fun k h0 hk => by
  unfold elemF
  cases hf : infF (at1 v k) with
  | true => rfl
  | false =>
    have := h.el k h0 (by have := h.len; omega) hf
    have : at1 v k ≥ -1000000000 ∧ at1 v k ≤ 1000000000 := by omega
    simp [this]
theorem ap_eq (h : Bd n L m) (hv : Cv n L' v) (hl : L ≤ 1000000000) (hl' : L' ≤ 1000000000) : applyF m v = (List.range n).map fun i : Nat => foldI plusF (aterm m i v) (-1099511627776) n := by
  have e : (v.length : Int) = m.length := by rw [hv.len, h.sq.len]
  simp only [applyF, (h.good hl).valid, cond_true, e, decide_true, hv.wrong hl', cond_false, h.sq.len]
theorem ap_len (h : Bd n L m) (hv : Cv n L' v) (hl : L ≤ 1000000000) (hl' : L' ≤ 1000000000) : (applyF m v).length = n := by
  rw [ap_eq h hv hl hl']; simp
theorem ap_at (h : Bd n L m) (hv : Cv n L' v) (hl : L ≤ 1000000000) (hl' : L' ≤ 1000000000) {i : Int} (h0 : 0 ≤ i) (hi : i < n) : at1 (applyF m v) i = foldI plusF (aterm m i v) (-1099511627776) n := by
  rw [ap_eq h hv hl hl', at1, List.getD_eq_getElem?_getD, List.getElem?_map, List.getElem?_range (by omega)]
  simp [Int.toNat_of_nonneg h0]
theorem le_ap (h : Bd n L m) (hv : Cv n L' v) (hl : L ≤ 1000000000) (hl' : L' ≤ 1000000000) (hs : L + L' < 549755813888) {z i : Int} (h0 : 0 ≤ i) (hi : i < n) :
    Mp.le z (at1 (applyF m v) i) ↔ ∃ k u w, 0 ≤ k ∧ k < (n : Int) ∧ Mp.le u (at2 m i k) ∧ Mp.le w (at1 v k) ∧ z ≤ u + w := by
  rw [ap_at h hv hl hl' h0 hi, le_fold]
  have no : ∀ k : Int, 0 ≤ k → k < n → infF (at2 m i k) = false → infF (at1 v k) = false → -549755813888 < at2 m i k + at1 v k := fun k g0 g1 e1 e2 => by
    have := h.el i k h0 hi g0 g1 e1
    have := hv.el k g0 g1 e2
    omega
  constructor
  · rintro ⟨k, g0, g1, hz⟩
    obtain ⟨u, w, q⟩ := (le_times (no k g0 g1)).1 hz
    exact ⟨k, u, w, g0, g1, q⟩
  · rintro ⟨k, u, w, g0, g1, q⟩
    exact ⟨k, g0, g1, (le_times (no k g0 g1)).2 ⟨u, w, q⟩⟩
theorem ap_clean (h : Bd n L m) (hv : Cv n L' v) (hl : L ≤ 1000000000) (hl' : L' ≤ 1000000000) {i : Int} (h0 : 0 ≤ i) (hi : i < n) : cleanE (at1 (applyF m v) i) := by
  rw [ap_at h hv hl hl' h0 hi]; exact clean_fold
theorem ap_cv (h : Bd n L m) (hv : Cv n L' v) (hl : L ≤ 1000000000) (hl' : L' ≤ 1000000000) : Cv n (L + L') (applyF m v) :=
  ⟨ap_len h hv hl hl', fun i h0 hi hf => by
    obtain ⟨k, u, w, g0, g1, hu, hw, hz⟩ := (le_ap h hv hl hl' (by omega) h0 hi).1 (le_self hf)
    have a1 := h.el i k h0 hi g0 g1 hu.1
    have a2 := hv.el k g0 g1 hw.1
    have a3 := ((le_ap h hv hl hl' (by omega) h0 hi).2 ⟨k, _, _, g0, g1, le_self hu.1, le_self hw.1, Int.le_refl _⟩).2
    have := hu.2; have := hw.2
    omega⟩
theorem col_ext {v w : List Int} (h : v.length = n) (h' : w.length = n) (e : ∀ k : Int, 0 ≤ k → k < n → at1 v k = at1 w k) : v = w := by
  refine List.ext_getElem (by rw [h, h']) fun i hi hi' => ?_
  have := e i (by omega) (by omega)
  simp only [at1, Int.toNat_natCast, List.getD_eq_getElem?_getD, List.getElem?_eq_getElem hi, List.getElem?_eq_getElem hi', Option.getD_some] at this
  exact this
theorem plus_max {x y : Int} (hx : cleanE x) (hy : cleanE y) : plusF x y = max x y := by
  simp only [cleanE, infF_false] at hx hy
  simp only [plusF, infF, Bool.cond_eq_ite, Bool.and_eq_true, decide_eq_true_eq]
  split <;> omega
theorem ap_sum (ha : Bd n L a) (hb : Bd n L b) (hv : Cv n L v) (hl : L ≤ 1000000) (p : 0 ≤ L) {i : Int} (h0 : 0 ≤ i) (hi : i < n) :
    at1 (applyF (sumF a b) v) i = max (at1 (applyF a v) i) (at1 (applyF b v) i) := by
  have ab := ha.sum hb (by omega)
  have c1 := ap_clean ha hv (by omega) (by omega) h0 hi
  have c2 := ap_clean hb hv (by omega) (by omega) h0 hi
  rw [← plus_max c1 c2]
  refine ext_le (ap_clean ab hv (by omega) (by omega) h0 hi) (clean_plus _ _) fun z => ?_
  rw [le_plus, le_ap ab hv (by omega) (by omega) (by omega) h0 hi, le_ap ha hv (by omega) (by omega) (by omega) h0 hi, le_ap hb hv (by omega) (by omega) (by omega) h0 hi]
  constructor
  · rintro ⟨k, u, w, k0, k1, hu, hw, hz⟩
    rcases (ha.le_sum hb (by omega) (by omega) h0 hi k0 k1).1 hu with q | q
    · exact .inl ⟨k, u, w, k0, k1, q, hw, hz⟩
    · exact .inr ⟨k, u, w, k0, k1, q, hw, hz⟩
  · rintro (⟨k, u, w, k0, k1, hu, hw, hz⟩ | ⟨k, u, w, k0, k1, hu, hw, hz⟩)
    · exact ⟨k, u, w, k0, k1, (ha.le_sum hb (by omega) (by omega) h0 hi k0 k1).2 (.inl hu), hw, hz⟩
    · exact ⟨k, u, w, k0, k1, (ha.le_sum hb (by omega) (by omega) h0 hi k0 k1).2 (.inr hu), hw, hz⟩
theorem ap_prod (ha : Bd n L a) (hb : Bd n L b) (hv : Cv n L v) (hl : L ≤ 1000000) (p : 0 ≤ L) : applyF (prodF a b) v = applyF a (applyF b v) := by
  have ab := ha.prod hb (by omega) (by omega)
  have bv := ap_cv hb hv (by omega) (by omega)
  refine col_ext (ap_len ab hv (by omega) (by omega)) (ap_len ha bv (by omega) (by omega)) fun i h0 hi => ?_
  refine ext_le (ap_clean ab hv (by omega) (by omega) h0 hi) (ap_clean ha bv (by omega) (by omega) h0 hi) fun z => ?_
  rw [le_ap ab hv (by omega) (by omega) (by omega) h0 hi, le_ap ha bv (by omega) (by omega) (by omega) h0 hi]
  constructor
  · rintro ⟨k, u, w, k0, k1, hu, hw, hz⟩
    obtain ⟨l, x, y, l0, l1, hx, hy, hz2⟩ := (ha.le_prod hb (by omega) (by omega) h0 hi k0 k1).1 hu
    exact ⟨l, x, y + w, l0, l1, hx, (le_ap hb hv (by omega) (by omega) (by omega) l0 l1).2 ⟨k, y, w, k0, k1, hy, hw, by omega⟩, by omega⟩
  · rintro ⟨k, u, w, k0, k1, hu, hw, hz⟩
    obtain ⟨l, x, y, l0, l1, hx, hy, hz2⟩ := (le_ap hb hv (by omega) (by omega) (by omega) k0 k1).1 hw
    exact ⟨l, u + x, y, l0, l1, (ha.le_prod hb (by omega) (by omega) h0 hi l0 l1).2 ⟨k, u, x, k0, k1, hu, hx, by omega⟩, hy, by omega⟩
theorem cleanR_at {v : List Int} {k : Int} (h0 : 0 ≤ k) (hk : k < v.length) : at1 (cleanR v) k = clean1 (at1 v k) := by
  simp only [at1, cleanR, List.getD_eq_getElem?_getD, List.getElem?_map, List.getElem?_eq_getElem (show k.toNat < v.length by omega)]; rfl
theorem ap_one (hn : n ≤ 40) (hv : Cv n L v) (hl : L ≤ 1000000) (p : 0 ≤ L) : applyF (oneF n) v = cleanR v := by
  have ho := one_bd (L := L) hn p
  have hlen := hv.len
  refine col_ext (ap_len ho hv (by omega) (by omega)) (by simp [cleanR, hv.len]) fun i h0 hi => ?_
  rw [cleanR_at h0 (by rw [hv.len]; exact hi)]
  refine ext_le (ap_clean ho hv (by omega) (by omega) h0 hi) (clean_plus _ _) fun z => ?_
  rw [le_ap ho hv (by omega) (by omega) (by omega) h0 hi, clean1, le_plus]
  constructor
  · rintro ⟨k, u, w, k0, k1, hu, hw, hz⟩
    rw [one_at h0 hi k0 k1, le_one] at hu
    obtain ⟨rfl, hu⟩ := hu
    exact .inl (le_down (by omega) hw)
  · rintro (h | h)
    · exact ⟨i, 0, z, h0, hi, by rw [one_at h0 hi h0 hi, le_one]; exact ⟨rfl, by omega⟩, h, by omega⟩
    · simp [le, infF] at h
end
theorem s_Columns (a b : List (List Int)) (v : List Int) : SoundC Try.prog 6 [.dat M a, .dat M b, .dat R v] ⟨True, .dat .bool true⟩ := by
  refine sound_of_ev (c := c11) KS11 hm (vc_Columns a b v ⟨rfl, rfl, fun _ => ?_⟩)
  simp only [cnd_or, cnd_and, D.and, D.not, Bool.true_and, eq_self, true_and, and_true, imp_self, implies_true, Bool.not_eq_true', Bool.or_eq_true, Bool.or_eq_false_iff, Bool.not_eq_false', Bool.and_eq_true, ne_len]
  have cp : ∀ {m}, fineF m = true → cleanP m := fun h => (good_of (fine_iff.1 h).2).lens
  have cv : fineF a = true → v.length = a.length → cleanP [v] := fun h e => by
    have := (cp h).1
    exact ⟨by simp, fun r hr => by simp at hr; subst hr; omega⟩
  refine ⟨fun h => cp h.1.1.1, fun h => cp h.1.1.1.2, fun h => cv h.1.1.1.1.1 h.1.1.2, fun h => ?_⟩
  obtain ⟨⟨⟨⟨⟨⟨fa, fb⟩, lab⟩, lv⟩, ma⟩, mb⟩, mv⟩ := h
  have ba : Bd v.length 1000000 a := by rw [lv]; exact mild_bd (fine_iff.1 fa).2 ma
  have bb : Bd v.length 1000000 b := by rw [lv, lab]; exact mild_bd (fine_iff.1 fb).2 mb
  have bv := mild_cv mv
  have hn := ba.le
  have la := ap_len ba bv (by omega) (by omega)
  have lb := ap_len bb bv (by omega) (by omega)
  have ls := ap_len (ba.sum bb (by omega)) bv (by omega) (by omega)
  have e1 : applyF (prodF a b) v = applyF a (applyF b v) := ap_prod ba bb bv (by omega) (by omega)
  have e2 : applyF (oneF (D.ilen v)) v = cleanR v := ap_one hn bv (by omega) (by omega)
  refine ⟨?_, fun _ => ⟨⟨0, ⟨by omega, by simp only [D.ilen]; omega⟩, rfl⟩, fun x hx => ⟨fun hlt => ?_, fun hge => ?_⟩⟩⟩
  · have := ne_len.2 la; have := ne_len.2 lb; have := ne_len.2 ls
    simp_all
  · have hlt : x < v.length := of_decide_eq_true hlt
    have g0 := hx.1
    have es := ap_sum ba bb bv (by omega) (by omega) g0 hlt
    refine ⟨g0, by simp only [D.ilt, D.ilen]; omega, g0, by simp only [D.ilt, D.ilen]; omega, g0, by simp only [D.ilt, D.ilen]; omega, fun hne => ?_, fun _ => ⟨by simp only [inR, D.add]; omega, x + 1, ⟨by omega, by simp only [D.ilen]; omega⟩, rfl, ?_⟩⟩
    · have : (at1 (applyF (sumF a b) v) x != max (at1 (applyF a v) x) (at1 (applyF b v) x)) = true := hne
      rw [es] at this; simp at this
    · simp only [D.nlt, D.nat, D.sub, D.ilen]; omega
  · have le := ap_len (ba.prod bb (by omega) (by omega)) bv (by omega) (by omega)
    refine ⟨fun _ => by unfold lenOk; omega, fun _ => by simp only [small, D.ilen]; omega, fun _ => cv fa lv, fun _ => ?_, ?_, ?_⟩
    · refine ⟨by simp, fun r hr => ?_⟩
      simp at hr; subst hr
      rw [show applyF (oneF v.length) v = applyF (oneF (D.ilen v)) v from rfl, e2]
      simp only [lenOk, cleanR, List.length_map]; omega
    · rw [e1]; exact ints_self _
    · rw [e2]; exact same_self _
end Go.Eng.Mp
