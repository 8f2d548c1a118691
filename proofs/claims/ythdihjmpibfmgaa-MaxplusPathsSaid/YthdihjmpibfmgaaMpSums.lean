/- PeMpSums -/
import Derived.Test.YthdihjmpibfmgaaEng18
import Derived.Test.YthdihjmpibfmgaaMpHead
namespace Go.Eng.Mp
open Go.Proofs
noncomputable def K10 : Kt := fun f args => match f, args with
  | 26, [.dat (.sl (.sl (.int .i64))) m] => some ⟨True, .dat .bool (fineF m)⟩
  | 11, [] => some ⟨True, .dat .bool true⟩
  | _, _ => K9 f args
noncomputable def c10 : Cfg := ⟨Try.prog, K10, fun _ => false⟩
theorem vc_Sums (a b c : List (List Int)) (h :
     true = true ∧ true = true ∧ (True → True ∧ True ∧ (D.not (D.not (fineF a)) = true → D.not (D.not (fineF a)) = true → D.not (D.not (fineF a)) = true)
    ∧ (D.not (D.not (fineF a)) = true → True) ∧ (D.not (D.not (fineF a)) = true → D.not (D.not (fineF a)) = true → D.not (D.not (fineF a)) = true) ∧ (D.and true
    (D.not (D.not (fineF a))) = true → D.not (D.not (fineF a)) = true) ∧ (D.not (D.cnd (D.not (fineF a)) true (D.not (fineF b))) = true → D.not (D.cnd (D.not (fineF
    a)) true (D.not (fineF b))) = true → D.not (D.cnd (D.not (fineF a)) true (D.not (fineF b))) = true) ∧ (D.not (D.cnd (D.not (fineF a)) true (D.not (fineF b))) =
    true → True) ∧ (D.not (D.cnd (D.not (fineF a)) true (D.not (fineF b))) = true → D.not (D.cnd (D.not (fineF a)) true (D.not (fineF b))) = true → D.not (D.cnd
    (D.not (fineF a)) true (D.not (fineF b))) = true) ∧ (D.and true (D.not (D.cnd (D.not (fineF a)) true (D.not (fineF b)))) = true → D.not (D.cnd (D.not (fineF a))
    true (D.not (fineF b))) = true) ∧ (D.not (D.cnd (D.cnd (D.not (fineF a)) true (D.not (fineF b))) true (D.not (fineF c))) = true → D.not (D.cnd (D.cnd (D.not
    (fineF a)) true (D.not (fineF b))) true (D.not (fineF c))) = true → D.not (D.cnd (D.cnd (D.not (fineF a)) true (D.not (fineF b))) true (D.not (fineF c))) =
    true) ∧ (D.not (D.cnd (D.cnd (D.not (fineF a)) true (D.not (fineF b))) true (D.not (fineF c))) = true → D.not (D.cnd (D.cnd (D.not (fineF a)) true (D.not (fineF
    b))) true (D.not (fineF c))) = true → D.not (D.cnd (D.cnd (D.not (fineF a)) true (D.not (fineF b))) true (D.not (fineF c))) = true) ∧ (D.not (D.cnd (D.cnd
    (D.not (fineF a)) true (D.not (fineF b))) true (D.not (fineF c))) = true → D.not (D.cnd (D.cnd (D.not (fineF a)) true (D.not (fineF b))) true (D.not (fineF c)))
    = true → D.not (D.cnd (D.cnd (D.not (fineF a)) true (D.not (fineF b))) true (D.not (fineF c))) = true) ∧ (D.not (D.cnd (D.cnd (D.not (fineF a)) true (D.not
    (fineF b))) true (D.not (fineF c))) = true → D.not (D.cnd (D.cnd (D.not (fineF a)) true (D.not (fineF b))) true (D.not (fineF c))) = true → D.not (D.cnd (D.cnd
    (D.not (fineF a)) true (D.not (fineF b))) true (D.not (fineF c))) = true) ∧ (D.and true (D.not (D.cnd (D.cnd (D.not (fineF a)) true (D.not (fineF b))) true
    (D.not (fineF c)))) = true → D.not (D.cnd (D.cnd (D.not (fineF a)) true (D.not (fineF b))) true (D.not (fineF c))) = true) ∧ (D.not (D.cnd (D.cnd (D.cnd (D.not
    (fineF a)) true (D.not (fineF b))) true (D.not (fineF c))) true (D.ne (D.ilen a) (D.ilen b))) = true → D.not (D.cnd (D.cnd (D.cnd (D.not (fineF a)) true (D.not
    (fineF b))) true (D.not (fineF c))) true (D.ne (D.ilen a) (D.ilen b))) = true → D.not (D.cnd (D.cnd (D.cnd (D.not (fineF a)) true (D.not (fineF b))) true (D.not
    (fineF c))) true (D.ne (D.ilen a) (D.ilen b))) = true) ∧ (D.not (D.cnd (D.cnd (D.cnd (D.not (fineF a)) true (D.not (fineF b))) true (D.not (fineF c))) true
    (D.ne (D.ilen a) (D.ilen b))) = true → D.not (D.cnd (D.cnd (D.cnd (D.not (fineF a)) true (D.not (fineF b))) true (D.not (fineF c))) true (D.ne (D.ilen a)
    (D.ilen b))) = true → D.not (D.cnd (D.cnd (D.cnd (D.not (fineF a)) true (D.not (fineF b))) true (D.not (fineF c))) true (D.ne (D.ilen a) (D.ilen b))) = true) ∧
    (D.not (D.cnd (D.cnd (D.cnd (D.not (fineF a)) true (D.not (fineF b))) true (D.not (fineF c))) true (D.ne (D.ilen a) (D.ilen b))) = true → D.not (D.cnd (D.cnd
    (D.cnd (D.not (fineF a)) true (D.not (fineF b))) true (D.not (fineF c))) true (D.ne (D.ilen a) (D.ilen b))) = true → D.not (D.cnd (D.cnd (D.cnd (D.not (fineF
    a)) true (D.not (fineF b))) true (D.not (fineF c))) true (D.ne (D.ilen a) (D.ilen b))) = true) ∧ (D.not (D.cnd (D.cnd (D.cnd (D.not (fineF a)) true (D.not
    (fineF b))) true (D.not (fineF c))) true (D.ne (D.ilen a) (D.ilen b))) = true → D.not (D.cnd (D.cnd (D.cnd (D.not (fineF a)) true (D.not (fineF b))) true (D.not
    (fineF c))) true (D.ne (D.ilen a) (D.ilen b))) = true → D.not (D.cnd (D.cnd (D.cnd (D.not (fineF a)) true (D.not (fineF b))) true (D.not (fineF c))) true (D.ne
    (D.ilen a) (D.ilen b))) = true) ∧ (D.and true (D.not (D.cnd (D.cnd (D.cnd (D.not (fineF a)) true (D.not (fineF b))) true (D.not (fineF c))) true (D.ne (D.ilen
    a) (D.ilen b)))) = true → D.not (D.cnd (D.cnd (D.cnd (D.not (fineF a)) true (D.not (fineF b))) true (D.not (fineF c))) true (D.ne (D.ilen a) (D.ilen b))) =
    true) ∧ (D.cnd (D.cnd (D.cnd (D.cnd (D.not (fineF a)) true (D.not (fineF b))) true (D.not (fineF c))) true (D.ne (D.ilen a) (D.ilen b))) true (D.ne (D.ilen b)
    (D.ilen c)) = true → true = true ∧ True) ∧ (D.cnd (D.cnd (D.cnd (D.cnd (D.not (fineF a)) true (D.not (fineF b))) true (D.not (fineF c))) true (D.ne (D.ilen a)
    (D.ilen b))) true (D.ne (D.ilen b) (D.ilen c)) = false → True ∧ (true = true → true = true → true = true) ∧ (true = true → true = true → true = true) ∧ (true =
    true → True) ∧ (true = true → true = true → true = true) ∧ (true = true → true = true → true = true) ∧ (true = true → lensOk (sumF a b)) ∧ (D.and true true =
    true → true = true) ∧ (D.cnd true (sameF (sumF a b) (sumF b a)) false = true → D.cnd true (sameF (sumF a b) (sumF b a)) false = true → D.cnd true (sameF (sumF a
    b) (sumF b a)) false = true) ∧ (D.cnd true (sameF (sumF a b) (sumF b a)) false = true → D.cnd true (sameF (sumF a b) (sumF b a)) false = true → D.cnd true
    (sameF (sumF a b) (sumF b a)) false = true) ∧ (D.cnd true (sameF (sumF a b) (sumF b a)) false = true → True) ∧ (D.cnd true (sameF (sumF a b) (sumF b a)) false =
    true → D.cnd true (sameF (sumF a b) (sumF b a)) false = true → D.cnd true (sameF (sumF a b) (sumF b a)) false = true) ∧ (D.cnd true (sameF (sumF a b) (sumF b
    a)) false = true → D.cnd true (sameF (sumF a b) (sumF b a)) false = true → D.cnd true (sameF (sumF a b) (sumF b a)) false = true) ∧ (D.cnd true (sameF (sumF a
    b) (sumF b a)) false = true → True) ∧ (D.cnd true (sameF (sumF a b) (sumF b a)) false = true → D.cnd true (sameF (sumF a b) (sumF b a)) false = true → D.cnd
    true (sameF (sumF a b) (sumF b a)) false = true) ∧ (D.cnd true (sameF (sumF a b) (sumF b a)) false = true → D.cnd true (sameF (sumF a b) (sumF b a)) false =
    true → D.cnd true (sameF (sumF a b) (sumF b a)) false = true) ∧ (D.cnd true (sameF (sumF a b) (sumF b a)) false = true → True) ∧ (D.cnd true (sameF (sumF a b)
    (sumF b a)) false = true → D.cnd true (sameF (sumF a b) (sumF b a)) false = true → D.cnd true (sameF (sumF a b) (sumF b a)) false = true) ∧ (D.cnd true (sameF
    (sumF a b) (sumF b a)) false = true → D.cnd true (sameF (sumF a b) (sumF b a)) false = true → D.cnd true (sameF (sumF a b) (sumF b a)) false = true) ∧ (D.cnd
    true (sameF (sumF a b) (sumF b a)) false = true → lensOk (sumF (sumF a b) c)) ∧ (D.and true (D.cnd true (sameF (sumF a b) (sumF b a)) false) = true → D.cnd true
    (sameF (sumF a b) (sumF b a)) false = true) ∧ (D.cnd (D.cnd true (sameF (sumF a b) (sumF b a)) false) (sameF (sumF (sumF a b) c) (sumF a (sumF b c))) false =
    true → D.cnd (D.cnd true (sameF (sumF a b) (sumF b a)) false) (sameF (sumF (sumF a b) c) (sumF a (sumF b c))) false = true → D.cnd (D.cnd true (sameF (sumF a b)
    (sumF b a)) false) (sameF (sumF (sumF a b) c) (sumF a (sumF b c))) false = true) ∧ (D.cnd (D.cnd true (sameF (sumF a b) (sumF b a)) false) (sameF (sumF (sumF a
    b) c) (sumF a (sumF b c))) false = true → D.cnd (D.cnd true (sameF (sumF a b) (sumF b a)) false) (sameF (sumF (sumF a b) c) (sumF a (sumF b c))) false = true →
    D.cnd (D.cnd true (sameF (sumF a b) (sumF b a)) false) (sameF (sumF (sumF a b) c) (sumF a (sumF b c))) false = true) ∧ (D.cnd (D.cnd true (sameF (sumF a b)
    (sumF b a)) false) (sameF (sumF (sumF a b) c) (sumF a (sumF b c))) false = true → True) ∧ (D.cnd (D.cnd true (sameF (sumF a b) (sumF b a)) false) (sameF (sumF
    (sumF a b) c) (sumF a (sumF b c))) false = true → D.cnd (D.cnd true (sameF (sumF a b) (sumF b a)) false) (sameF (sumF (sumF a b) c) (sumF a (sumF b c))) false =
    true → D.cnd (D.cnd true (sameF (sumF a b) (sumF b a)) false) (sameF (sumF (sumF a b) c) (sumF a (sumF b c))) false = true) ∧ (D.cnd (D.cnd true (sameF (sumF a
    b) (sumF b a)) false) (sameF (sumF (sumF a b) c) (sumF a (sumF b c))) false = true → cleanP a) ∧ (D.cnd (D.cnd true (sameF (sumF a b) (sumF b a)) false) (sameF
    (sumF (sumF a b) c) (sumF a (sumF b c))) false = true → D.cnd (D.cnd true (sameF (sumF a b) (sumF b a)) false) (sameF (sumF (sumF a b) c) (sumF a (sumF b c)))
    false = true → D.cnd (D.cnd true (sameF (sumF a b) (sumF b a)) false) (sameF (sumF (sumF a b) c) (sumF a (sumF b c))) false = true) ∧ (D.cnd (D.cnd true (sameF
    (sumF a b) (sumF b a)) false) (sameF (sumF (sumF a b) c) (sumF a (sumF b c))) false = true → D.cnd (D.cnd true (sameF (sumF a b) (sumF b a)) false) (sameF (sumF
    (sumF a b) c) (sumF a (sumF b c))) false = true → D.cnd (D.cnd true (sameF (sumF a b) (sumF b a)) false) (sameF (sumF (sumF a b) c) (sumF a (sumF b c))) false =
    true) ∧ (D.cnd (D.cnd true (sameF (sumF a b) (sumF b a)) false) (sameF (sumF (sumF a b) c) (sumF a (sumF b c))) false = true → lensOk (sumF a a)) ∧ (D.and true
    (D.cnd (D.cnd true (sameF (sumF a b) (sumF b a)) false) (sameF (sumF (sumF a b) c) (sumF a (sumF b c))) false) = true → D.cnd (D.cnd true (sameF (sumF a b)
    (sumF b a)) false) (sameF (sumF (sumF a b) c) (sumF a (sumF b c))) false = true) ∧ (D.cnd (D.cnd (D.cnd true (sameF (sumF a b) (sumF b a)) false) (sameF (sumF
    (sumF a b) c) (sumF a (sumF b c))) false) (sameF (sumF a a) (cleanF a)) false = true → D.cnd (D.cnd (D.cnd true (sameF (sumF a b) (sumF b a)) false) (sameF
    (sumF (sumF a b) c) (sumF a (sumF b c))) false) (sameF (sumF a a) (cleanF a)) false = true → D.cnd (D.cnd (D.cnd true (sameF (sumF a b) (sumF b a)) false)
    (sameF (sumF (sumF a b) c) (sumF a (sumF b c))) false) (sameF (sumF a a) (cleanF a)) false = true) ∧ (D.cnd (D.cnd (D.cnd true (sameF (sumF a b) (sumF b a))
    false) (sameF (sumF (sumF a b) c) (sumF a (sumF b c))) false) (sameF (sumF a a) (cleanF a)) false = true → D.cnd (D.cnd (D.cnd true (sameF (sumF a b) (sumF b
    a)) false) (sameF (sumF (sumF a b) c) (sumF a (sumF b c))) false) (sameF (sumF a a) (cleanF a)) false = true → D.cnd (D.cnd (D.cnd true (sameF (sumF a b) (sumF
    b a)) false) (sameF (sumF (sumF a b) c) (sumF a (sumF b c))) false) (sameF (sumF a a) (cleanF a)) false = true) ∧ (D.cnd (D.cnd (D.cnd true (sameF (sumF a b)
    (sumF b a)) false) (sameF (sumF (sumF a b) c) (sumF a (sumF b c))) false) (sameF (sumF a a) (cleanF a)) false = true → lensOk a) ∧ (D.and true (D.cnd (D.cnd
    (D.cnd true (sameF (sumF a b) (sumF b a)) false) (sameF (sumF (sumF a b) c) (sumF a (sumF b c))) false) (sameF (sumF a a) (cleanF a)) false) = true → D.cnd
    (D.cnd (D.cnd true (sameF (sumF a b) (sumF b a)) false) (sameF (sumF (sumF a b) c) (sumF a (sumF b c))) false) (sameF (sumF a a) (cleanF a)) false = true) ∧
    D.cnd (D.cnd (D.cnd (D.cnd true (sameF (sumF a b) (sumF b a)) false) (sameF (sumF (sumF a b) c) (sumF a (sumF b c))) false) (sameF (sumF a a) (cleanF a)) false)
    (belowF a (sumF a b)) false = true ∧ True))) :
    evF c10 noAnn 4 [.dat M a, .dat M b, .dat M c] ⟨True, .dat .bool true⟩ := of_eq (by kernel_rfl) h

theorem KS9 : KSound Try.prog K9 := by
  intro f args c h
  unfold K9 at h
  split at h
  · cases h; exact s_same _ _
  · cases h; exact s_rvalid _
  · cases h; exact s_valid _
  · cases h; exact s_clean _
  · cases h; exact s_below _ _
  · exact KS8 _ _ _ h
theorem s_fine (m : List (List Int)) : SoundC Try.prog 26 [.dat M m] ⟨True, .dat .bool (fineF m)⟩ :=
  sound_of_ev (c := c9) KS9 hm (vc_fine m (by cases h : fewF m 10 <;> simp [fineF, h, fewP]))
theorem KS10 : KSound Try.prog K10 := by
  intro f args c h
  unfold K10 at h
  split at h
  · cases h; exact s_fine _
  · cases h; exact s_head
  · exact KS9 _ _ _ h
theorem plusF_comm (x y : Int) : plusF x y = plusF y x := by
  simp only [plusF, infF, Bool.cond_eq_ite, Bool.and_eq_true, decide_eq_true_eq]
  repeat' split
  all_goals omega
theorem plusF_assoc (x y z : Int) : plusF (plusF x y) z = plusF x (plusF y z) := by
  simp only [plusF, infF, Bool.cond_eq_ite, Bool.and_eq_true, decide_eq_true_eq]
  repeat' split
  all_goals omega
theorem plusF_idem (x : Int) : plusF x x = clean1 x := by
  simp only [clean1, plusF, infF, Bool.cond_eq_ite, Bool.and_eq_true, decide_eq_true_eq]
  repeat' split
  all_goals omega
theorem over_plus (x y : Int) : over x (plusF x y) = false := by
  simp only [over, plusF, infF, Bool.cond_eq_ite]
  by_cases h : x ≤ -549755813888
  · simp [h]
  · simp [h]; omega
theorem elem_plus {x y : Int} (hx : elemF x = true) (hy : elemF y = true) : elemF (plusF x y) = true := by
  simp only [elemF, infF, Bool.or_eq_true, Bool.and_eq_true, decide_eq_true_eq] at hx hy ⊢
  simp only [plusF, infF, Bool.cond_eq_ite, Bool.and_eq_true, decide_eq_true_eq]
  repeat' split
  all_goals omega
theorem sq_ext {n : Nat} {m m' : List (List Int)} (h : Sq n m) (h' : Sq n m') (e : ∀ i j : Int, 0 ≤ i → i < n → 0 ≤ j → j < n → at2 m i j = at2 m' i j) : m = m' := by
  refine List.ext_getElem (by rw [h.len, h'.len]) fun i hi hi' => ?_
  have hin : i < n := by rw [← h.len]; exact hi
  have r := h.row i (by omega) (by omega)
  have r' := h'.row i (by omega) (by omega)
  have q : m.getD i [] = m[i] := by rw [List.getD_eq_getElem?_getD, List.getElem?_eq_getElem hi]; rfl
  have q' : m'.getD i [] = m'[i] := by rw [List.getD_eq_getElem?_getD, List.getElem?_eq_getElem hi']; rfl
  simp only [Int.toNat_natCast, q, q'] at r r'
  refine List.ext_getElem (by rw [r, r']) fun j hj hj' => ?_
  have := e i j (by omega) (by omega) (by omega) (by omega)
  simp only [at2, Int.toNat_natCast, q, q', List.getD_eq_getElem?_getD, List.getElem?_eq_getElem hj, List.getElem?_eq_getElem hj', Option.getD_some] at this
  exact this
theorem valid_of {n : Nat} {m : List (List Int)} (h : Sq n m) (hn : n ≤ 40) (e : ∀ i j : Int, 0 ≤ i → i < n → 0 ≤ j → j < n → elemF (at2 m i j) = true) : validF m = true := by
  have hl := h.len
  refine validF_end (k := m.length) ⟨by omega, by omega, by omega, ?_⟩ (by omega)
  rw [Int.toNat_natCast, List.take_length, List.any_eq_false]
  intro row hrow
  obtain ⟨i, hi, rfl⟩ := List.getElem_of_mem hrow
  have q : m.getD i [] = m[i] := by rw [List.getD_eq_getElem?_getD, List.getElem?_eq_getElem hi]; rfl
  have r := h.row i (by omega) (by omega)
  simp only [Int.toNat_natCast, q] at r
  have w : wrongF m[i] = false := wrongF_false.2 fun k h0 hk => by
    have := e i k (by omega) (by omega) h0 (by omega)
    simpa only [at2, Int.toNat_natCast, q, at1] using this
  have ne : ¬ ((m[i].length : Int) ≠ m.length) := by omega
  simp only [rowBad, w, ne, decide_false]; exact Bool.false_ne_true
theorem fine_iff {m : List (List Int)} : fineF m = true ↔ fewF m 10 = true ∧ validF m = true := by
  unfold fineF; cases fewF m 10 <;> simp
theorem few_len {m : List (List Int)} (h : fewF m 10 = true) : m.length ≤ 10 := by
  unfold fewF at h
  simp only [Bool.and_eq_true, Bool.not_eq_true', decide_eq_false_iff_not] at h
  omega
structure Good (n : Nat) (m : List (List Int)) : Prop where
  sq : Sq n m
  le : n ≤ 40
  el : ∀ i j : Int, 0 ≤ i → i < n → 0 ≤ j → j < n → elemF (at2 m i j) = true
theorem good_of {m : List (List Int)} (h : validF m = true) : Good m.length m := ⟨(valid_sq h).1, (valid_sq h).2.1, (valid_sq h).2.2⟩
theorem Good.valid {n : Nat} {m : List (List Int)} (h : Good n m) : validF m = true := valid_of h.sq h.le h.el
theorem Good.alike {n : Nat} {a b : List (List Int)} (h : Good n a) (h' : Good n b) : alikeF a b = true := alike_iff.2 ⟨h.valid, h'.valid, by rw [h.sq.len, h'.sq.len]⟩
theorem Good.sum_eq {n : Nat} {a b : List (List Int)} (h : Good n a) (h' : Good n b) : sumF a b = buildF (plus2 a b) n := by
  simp [sumF, h.alike h', h.sq.len]
theorem Good.sum_at {n : Nat} {a b : List (List Int)} (h : Good n a) (h' : Good n b) (i j : Int) (h0 : 0 ≤ i) (hi : i < n) (h1 : 0 ≤ j) (hj : j < n) : at2 (sumF a b) i j = plusF (at2 a i j) (at2 b i j) := by
  rw [h.sum_eq h', buildF_at _ _ _ _ h0 hi h1 hj]; rfl
theorem Good.sum {n : Nat} {a b : List (List Int)} (h : Good n a) (h' : Good n b) : Good n (sumF a b) :=
  ⟨by rw [h.sum_eq h']; exact buildF_sq _ _, h.le, fun i j h0 hi h1 hj => by rw [h.sum_at h' i j h0 hi h1 hj]; exact elem_plus (h.el i j h0 hi h1 hj) (h'.el i j h0 hi h1 hj)⟩
theorem Good.lens {n : Nat} {a : List (List Int)} (h : Good n a) : (a.length : Int) ≤ 1000000 ∧ ∀ r ∈ a, (r.length : Int) ≤ 1000000 := by
  have hl := h.sq.len
  have := h.le
  refine ⟨by omega, fun r hr => ?_⟩
  obtain ⟨i, hi, rfl⟩ := List.getElem_of_mem hr
  have q : a.getD i [] = a[i] := by rw [List.getD_eq_getElem?_getD, List.getElem?_eq_getElem hi]; rfl
  have r := h.sq.row i (by omega) (by omega)
  simp only [Int.toNat_natCast, q] at r
  omega
theorem Good.lensOk {n : Nat} {a : List (List Int)} (h : Good n a) : lensOk a := ⟨by have := h.lens.1; omega, fun r hr => by have := h.lens.2 r hr; unfold lenOk; omega⟩
theorem Good.clean {n : Nat} {a : List (List Int)} (h : Good n a) : Sq n (cleanF a) ∧ ∀ i j : Int, 0 ≤ i → i < n → 0 ≤ j → j < n → at2 (cleanF a) i j = clean1 (at2 a i j) := by
  have hl := h.sq.len
  have row : ∀ i : Int, 0 ≤ i → i < n → (cleanF a).getD i.toNat [] = cleanR (a.getD i.toNat []) := fun i h0 hi => by
    simp only [cleanF, List.getD_eq_getElem?_getD, List.getElem?_map, List.getElem?_eq_getElem (show i.toNat < a.length by omega)]; rfl
  refine ⟨⟨by simp [cleanF, hl], fun i h0 hi => by rw [row i h0 hi, cleanR, List.length_map]; exact h.sq.row i h0 hi⟩, fun i j h0 hi h1 hj => ?_⟩
  have hr := h.sq.row i h0 hi
  unfold at2
  rw [row i h0 hi]
  generalize a.getD i.toNat [] = r at hr ⊢
  simp only [cleanR, List.getD_eq_getElem?_getD, List.getElem?_map, List.getElem?_eq_getElem (show j.toNat < r.length by omega)]; rfl
theorem sum_idem {n : Nat} {a : List (List Int)} (h : Good n a) : sumF a a = cleanF a :=
  sq_ext (h.sum h).sq h.clean.1 fun i j h0 hi h1 hj => by rw [h.sum_at h i j h0 hi h1 hj, h.clean.2 i j h0 hi h1 hj, plusF_idem]
theorem sum_comm {n : Nat} {a b : List (List Int)} (h : Good n a) (h' : Good n b) : sumF a b = sumF b a :=
  sq_ext (h.sum h').sq (h'.sum h).sq fun i j h0 hi h1 hj => by rw [h.sum_at h' i j h0 hi h1 hj, h'.sum_at h i j h0 hi h1 hj, plusF_comm]
theorem sum_assoc {n : Nat} {a b c : List (List Int)} (h : Good n a) (h' : Good n b) (h'' : Good n c) : sumF (sumF a b) c = sumF a (sumF b c) :=
  sq_ext ((h.sum h').sum h'').sq (h.sum (h'.sum h'')).sq fun i j h0 hi h1 hj => by
    rw [(h.sum h').sum_at h'' i j h0 hi h1 hj, h.sum_at h' i j h0 hi h1 hj, h.sum_at (h'.sum h'') i j h0 hi h1 hj, h'.sum_at h'' i j h0 hi h1 hj, plusF_assoc]
theorem below_sum {n : Nat} {a b : List (List Int)} (h : Good n a) (h' : Good n b) : belowF a (sumF a b) = true := by
  have hl := h.sq.len
  have hs := (h.sum h').sq
  refine belowF_iff.2 ⟨by rw [hl, hs.len], fun i hi => rowBelow_iff.2 ⟨?_, fun j hj => ?_⟩⟩
  · have r := h.sq.row i (by omega) (by omega)
    have r' := hs.row i (by omega) (by omega)
    simp only [Int.toNat_natCast] at r r'
    rw [r, r']
  · have r := h.sq.row i (by omega) (by omega)
    simp only [Int.toNat_natCast] at r
    have e := h.sum_at h' i j (by omega) (by omega) (by omega) (by omega)
    have e2 : at1 ((sumF a b).getD i []) j = at2 (sumF a b) i j := rfl
    have e3 : at1 (a.getD i []) j = at2 a i j := rfl
    rw [e2, e3, e]; exact over_plus _ _

theorem s_Sums (a b c : List (List Int)) : SoundC Try.prog 4 [.dat M a, .dat M b, .dat M c] ⟨True, .dat .bool true⟩ := by
  refine sound_of_ev (c := c10) KS10 hm (vc_Sums a b c ⟨rfl, rfl, fun _ => ?_⟩)
  simp only [D.and, D.not, D.cnd, Bool.true_and, cond_true, eq_self, true_and, and_true, imp_self, implies_true]
  intro h
  obtain ⟨fa, fb, fc, l1, l2⟩ : fineF a = true ∧ fineF b = true ∧ fineF c = true ∧ a.length = b.length ∧ b.length = c.length := by
    cases ha : fineF a <;> cases hb : fineF b <;> cases hc : fineF c <;> simp [ha, hb, hc, D.ne, D.ilen] at h ⊢
    by_cases e : (a.length : Int) = b.length
    · simp [e] at h; omega
    · simp [e] at h
  have ga : Good a.length a := good_of (fine_iff.1 fa).2
  have gb : Good a.length b := by rw [l1]; exact good_of (fine_iff.1 fb).2
  have gc : Good a.length c := by rw [l1, l2]; exact good_of (fine_iff.1 fc).2
  have e1 := sum_comm ga gb
  have e2 := sum_assoc ga gb gc
  have e3 := sum_idem ga
  have e4 := below_sum ga gb
  have l1 := (ga.sum gb).lensOk
  have l2 := ((ga.sum gb).sum gc).lensOk
  have l3 := (ga.sum ga).lensOk
  refine ⟨fun _ => l1, fun _ => l2, fun _ => ga.lens, fun _ => l3, fun _ => ga.lensOk, ?_⟩
  simp [sameF, e4, e3, e2, ← e1]
end Go.Eng.Mp
