/- PeMm5m -/
import Derived.Test.YtgphkkpblecfgaaY22
import Derived.Test.YtgphkkpblecfgaaMm4m
set_option linter.unusedSimpArgs false
set_option linter.unusedVariables false
set_option maxRecDepth 100000
namespace Go.Eng.Mp
open Go.Proofs
open Go.Eng.Sv (I R M G0 KI0)
open Go.Eng.Sv (KI0s hm cnd_or cnd_and in_small)

noncomputable def hm1 : List (List Int) := [[-1099511627776, 3], [-5, -1099511627776]]
noncomputable def hm2 : List (List Int) := [[-1099511627776, 3], [-2, -1099511627776]]
noncomputable def hm3 : List (List Int) := [[1], [2]]
/- In the examples of head each call has one answer. -/
noncomputable def Kh : Kt := fun f args m => match f, args, m with
  | 14, [.dat (.sl (.sl (.int .i64))) m], [] => if m = hm1 then some ⟨m = hm1, .tup [.dat M [[0, 3], [-5, 0]], .dat I 0], []⟩ else if m = hm2 then some ⟨m = hm2, .tup [.dat M [], .dat I 120], []⟩ else if m = hm3 then some ⟨m = hm3, .tup [.dat M [], .dat I 1], []⟩ else some ⟨m = [], .tup [.dat M [], .dat I 0], []⟩
  | 21, [.dat (.sl (.sl (.int .i64))) a, .dat (.sl (.sl (.int .i64))) b], [] => some ⟨a = hm1 ∧ b = hm1, .dat M [[-2, -1099511627776], [-1099511627776, -2]], []⟩
  | 19, [.dat (.sl (.sl (.int .i64))) a, .dat (.sl (.sl (.int .i64))) b], [] => some ⟨a = hm1 ∧ b = [[0, 4], [-9, -1099511627783]], .dat M [[0, 4], [-5, -1099511627776]], []⟩
  | 24, [.dat (.sl (.sl (.int .i64))) m, .dat (.sl (.int .i64)) v], [] => if v = [1, 2] then some ⟨m = hm1 ∧ v = [1, 2], .dat R [5, -4], []⟩ else some ⟨m = hm1 ∧ v = [1, 1000000001], .dat R [], []⟩
  | 16, [.dat (.sl (.sl (.int .i64))) a, .dat (.sl (.sl (.int .i64))) b], [] => some ⟨lensOk a ∧ a = b, .dat .bool true, []⟩
  | 23, [.dat (.sl (.int .i64)) a, .dat (.sl (.int .i64)) b], [] => some ⟨lenOk a ∧ a = b, .dat .bool true, []⟩
  | 17, [.dat (.sl (.sl (.int .i64))) m], [] => if m = hm1 then some ⟨m = hm1, .dat .bool true, []⟩ else some ⟨m = [[1000000001]], .dat .bool false, []⟩
  | _, _, _ => none
noncomputable def ch : Cfg := Sv.mkc Kh
set_option maxRecDepth 100000 in
theorem vc_head  (hvc :
 let c1 := [(3 : Int)];
 let c2 := (-1099511627776 : Int) :: c1;
 let c3 := [(-1099511627776 : Int)];
 let c4 := [(-5 : Int) :: c3];
 let c5 := c2 :: c4;
 let c6 := (-2 : Int) :: c3;
 let c7 := [c2, c6];
 let c8 := [(2 : Int)];
 let c9 := [[(1 : Int)], c8];
 let c10 := [c6, [(-1099511627776 : Int), (-2 : Int)]];
 let c11 := D.sub (-1099511627776 : Int) (7 : Int);
 let c12 := [(0 : Int), (4 : Int)];
 let c13 := c12 :: c4;
 let c14 := D.cnd true true false;
 let c15 := (1 : Int) :: c8;
 let c16 := [(5 : Int), (-4 : Int)];
 let c17 := D.cnd c14 true false;
 let c18 := D.eq (0 : Int) (0 : Int);
 let c19 := D.cnd c17 c18 false;
 let c20 := [(0 : Int) :: c1, [(-5 : Int), (0 : Int)]];
 let c21 := D.cnd c19 true false;
 let c22 := D.cnd c21 (D.eq (120 : Int) (120 : Int)) false;
 let c23 := D.cnd c22 (D.eq (1 : Int) (1 : Int)) false;
 let c24 := D.cnd c23 c18 false;
 let c25 := D.cnd c24 (D.eq (D.ilen (D.nil (List Int))) (0 : Int)) false;
 let c26 := D.cnd c25 true false;
 let c27 := [(1000000001 : Int)];
 let c28 := [c27];
 let c29 := D.cnd c26 (D.not false) false;
 let c30 := (1 : Int) :: c27; true = true ∧ (True → c5 = c5 ∧ c7 = c7 ∧ c9 = c9 ∧ D.nil (List Int) = D.nil (List Int) ∧ (c5 = c5 ∧ c5 = c5) ∧ (lensOk c10 ∧ c10 =
  c10) ∧ (true = true → true = true → true = true) ∧ (true = true → inR IntKind.i64 c11) ∧ (true = true → true = true → true = true) ∧ (true = true → true = true
  → true = true) ∧ (true = true → true = true → true = true) ∧ (true = true → true = true → true = true) ∧ (true = true → true = true → true = true) ∧ (true =
  true → c5 = c5 ∧ [c12, [(-9 : Int), c11]] = [c12, [(-9 : Int), (-1099511627783 : Int)]]) ∧ (true = true → true = true → true = true) ∧ (true = true → true =
  true → true = true) ∧ (true = true → true = true → true = true) ∧ (true = true → true = true → true = true) ∧ (true = true → true = true → true = true) ∧ (true
  = true → lensOk c13 ∧ c13 = c13) ∧ (D.and true true = true → true = true) ∧ (c14 = true → c14 = true → c14 = true) ∧ (c14 = true → c14 = true → c14 = true) ∧
  (c14 = true → c5 = c5 ∧ c15 = c15) ∧ (c14 = true → c14 = true → c14 = true) ∧ (c14 = true → c14 = true → c14 = true) ∧ (c14 = true → lenOk c16 ∧ c16 = c16) ∧
  (D.and true c14 = true → c14 = true) ∧ (c17 = true → c17 = true → c17 = true) ∧ (D.and true c17 = true → c17 = true) ∧ (c19 = true → c19 = true → c19 = true) ∧
  (c19 = true → c19 = true → c19 = true) ∧ (c19 = true → c19 = true → c19 = true) ∧ (c19 = true → c19 = true → c19 = true) ∧ (c19 = true → lensOk c20 ∧ c20 =
  c20) ∧ (D.and true c19 = true → c19 = true) ∧ (c21 = true → c21 = true → c21 = true) ∧ (D.and true c21 = true → c21 = true) ∧ (c22 = true → c22 = true → c22 =
  true) ∧ (D.and true c22 = true → c22 = true) ∧ (c23 = true → c23 = true → c23 = true) ∧ (D.and true c23 = true → c23 = true) ∧ (c24 = true → c24 = true → c24 =
  true) ∧ (c24 = true → c24 = true → c24 = true) ∧ (D.and true c24 = true → c24 = true) ∧ (c25 = true → c25 = true → c25 = true) ∧ (c25 = true → c5 = c5) ∧
  (D.and true c25 = true → c25 = true) ∧ (c26 = true → c26 = true → c26 = true) ∧ (c26 = true → c26 = true → c26 = true) ∧ (c26 = true → c28 = c28) ∧ (c26 = true
  → c26 = true → c26 = true) ∧ (D.and true c26 = true → c26 = true) ∧ (c29 = true → c29 = true → c29 = true) ∧ (c29 = true → c29 = true → c29 = true) ∧ (c29 =
  true → c5 = c5 ∧ c30 = c30) ∧ (c29 = true → c29 = true → c29 = true) ∧ (c29 = true → c29 = true → c29 = true) ∧ (D.and true c29 = true → c29 = true) ∧ D.cnd
  c29 (D.eq (D.ilen (D.nil Int)) (0 : Int)) false = true ∧ True)) :
    evF ch noAnn 11 [] [] ⟨True, .dat .bool true, []⟩ := of_eq (by kernel_rfl) hvc

theorem KSh : KSound Try.prog G0 Kh := by
  intro f args m c h
  unfold Kh at h
  split at h
  · split at h
    · cases h
      exact fun hp => by subst hp; exact s_star hm1 (by show hm1.length ≤ 20; decide)
    · split at h
      · cases h
        exact fun hp => by subst hp; exact s_star hm2 (by show hm2.length ≤ 20; decide)
      · split at h
        · cases h
          exact fun hp => by subst hp; exact s_star hm3 (by show hm3.length ≤ 20; decide)
        · cases h
          exact fun hp => by simp only at hp; subst hp; exact s_star [] (by show [].length ≤ 20; decide)
  · cases h
    exact fun hp => by obtain ⟨rfl, rfl⟩ := hp; exact s_prod hm1 hm1 trivial
  · cases h
    exact fun hp => by obtain ⟨rfl, rfl⟩ := hp; exact s_sum hm1 _ trivial
  · split at h
    · cases h
      exact fun hp => by obtain ⟨rfl, rfl⟩ := hp; exact s_apply hm1 _ trivial
    · cases h
      exact fun hp => by obtain ⟨rfl, rfl⟩ := hp; exact s_apply hm1 _ trivial
  · rename_i a b
    cases h
    exact fun hp => by
      obtain ⟨h1, rfl⟩ := hp
      have := s_same a a
      rw [show sameF a a = true by simp [sameF]] at this
      exact this h1
  · rename_i a b
    cases h
    exact fun hp => by
      obtain ⟨h1, rfl⟩ := hp
      have := s_ints a a
      rw [show intsF a a = true by simp [intsF]] at this
      exact this h1
  · split at h
    · cases h
      exact fun hp => by subst hp; exact s_valid hm1 trivial
    · cases h
      exact fun hp => by simp only at hp; subst hp; exact s_valid _ trivial
  · cases h
theorem s_head : SoundC Try.prog G0 11 [] [] ⟨True, .dat .bool true, []⟩ :=
  sound_of_ev (c := ch) KSh KI0s hm (vc_head (by simp [lensOk, lenOk, inR]; simp only [D.sub]; omega))
noncomputable def K11 : Kt := kOr 11 (dataK [] (fun _ => True) fun _ => .dat .bool true) <|
  kOr 13 (dataK [.val I] (fun (n, _) => small n) fun (n, _) => .dat M (oneF n)) <|
  kOr 15 (dataK [.val M] (fun _ => True) fun (m, _) => .tup [.dat M (rstarS m), .dat I (rstarE m)]) <|
  kOr 20 (dataK [.val M, .val M] (fun _ => True) fun (a, b, _) => .dat M (sumF a b)) <|
  kOr 22 (dataK [.val M, .val M] (fun _ => True) fun (a, b, _) => .dat M (prodF a b)) <|
  kOr 25 (dataK [.val M, .val R] (fun _ => True) fun (m, v, _) => .dat R (applyF m v)) K9
set_option maxRecDepth 100000 in
theorem vc_match (a b : List (List Int)) (v : List Int) (hvc :
 let c1 := D.not (fewF a (12 : Int));
 let c2 := D.not c1;
 let c3 := D.cnd c1 true (D.not (fewF b (12 : Int)));
 let c4 := D.not c3;
 let c5 := D.cnd c3 true (D.gt (D.ilen v) (14 : Int));
 let c6 := D.cnd true (D.eq (starE a) (rstarE a)) false;
 let c7 := D.cnd c6 (sameF (starS a) (rstarS a)) false;
 let c8 := D.cnd c7 (D.beq (validF a) (validF a)) false;
 let c9 := D.cnd c8 (sameF (sumF a b) (sumF a b)) false;
 let c10 := D.cnd c9 (sameF (prodF a b) (prodF a b)) false;
 let c11 := D.cnd c10 (intsF (applyF a v) (applyF a v)) false; true = true ∧ (True → True ∧ fewP (12 : Int) ∧ (c2 = true → c2 = true → c2 = true) ∧ (c2 = true →
  fewP (12 : Int)) ∧ (c2 = true → c2 = true → c2 = true) ∧ (D.and true c2 = true → c2 = true) ∧ (c4 = true → c4 = true → c4 = true) ∧ (c4 = true → c4 = true → c4
  = true) ∧ (D.and true c4 = true → c4 = true) ∧ (c5 = true → true = true ∧ True) ∧ (c5 = false → small (41 : Int) ∧ starP a ∧ True ∧ (true = true → true = true
  → true = true) ∧ (true = true → true = true → true = true) ∧ (D.and true true = true → true = true) ∧ (c6 = true → c6 = true → c6 = true) ∧ (c6 = true → c6 =
  true → c6 = true) ∧ (c6 = true → lensOk (starS a)) ∧ (D.and true c6 = true → c6 = true) ∧ (c7 = true → c7 = true → c7 = true) ∧ (c7 = true → True) ∧ (c7 = true
  → c7 = true → c7 = true) ∧ (c7 = true → True) ∧ (c7 = true → c7 = true → c7 = true) ∧ (c7 = true → c7 = true → c7 = true) ∧ (D.and true c7 = true → c7 = true)
  ∧ (c8 = true → c8 = true → c8 = true) ∧ (c8 = true → c8 = true → c8 = true) ∧ (c8 = true → True) ∧ (c8 = true → c8 = true → c8 = true) ∧ (c8 = true → c8 = true
  → c8 = true) ∧ (c8 = true → True) ∧ (c8 = true → c8 = true → c8 = true) ∧ (c8 = true → c8 = true → c8 = true) ∧ (c8 = true → lensOk (sumF a b)) ∧ (D.and true
  c8 = true → c8 = true) ∧ (c9 = true → c9 = true → c9 = true) ∧ (c9 = true → c9 = true → c9 = true) ∧ (c9 = true → True) ∧ (c9 = true → c9 = true → c9 = true) ∧
  (c9 = true → c9 = true → c9 = true) ∧ (c9 = true → True) ∧ (c9 = true → c9 = true → c9 = true) ∧ (c9 = true → c9 = true → c9 = true) ∧ (c9 = true → lensOk
  (prodF a b)) ∧ (D.and true c9 = true → c9 = true) ∧ (c10 = true → c10 = true → c10 = true) ∧ (c10 = true → c10 = true → c10 = true) ∧ (c10 = true → True) ∧
  (c10 = true → c10 = true → c10 = true) ∧ (c10 = true → c10 = true → c10 = true) ∧ (c10 = true → True) ∧ (c10 = true → c10 = true → c10 = true) ∧ (c10 = true →
  c10 = true → c10 = true) ∧ (c10 = true → lenOk (applyF a v)) ∧ (D.and true c10 = true → c10 = true) ∧ (c11 = true → c11 = true → c11 = true) ∧ (c11 = true →
  True) ∧ (c11 = true → c11 = true → c11 = true) ∧ (D.and true c11 = true → c11 = true) ∧ D.cnd c11 (D.not (validF (oneF (41 : Int)))) false = true ∧ True))) :
    evF (Sv.mkc K11) noAnn 3 [.dat M a, .dat M b, .dat R v] [] ⟨True, .dat .bool true, []⟩ := of_eq (by kernel_rfl) hvc

theorem KS11 : KSound Try.prog G0 K11 := kOr_ok (dataK_ok fun _ => s_head) <| kOr_ok (dataK_ok fun (n, _) => s_one n) <| kOr_ok (dataK_ok fun (m, _) => s_rstar m) <| kOr_ok (dataK_ok fun (a, b, _) => s_rsum a b) <| kOr_ok (dataK_ok fun (a, b, _) => s_rprod a b) <| kOr_ok (dataK_ok fun (m, v, _) => s_rapp m v) KS9
theorem lens_nil : lensOk [] := ⟨by simp, fun r hr => by cases hr⟩
theorem lens_sum (a b : List (List Int)) : lensOk (sumF a b) := by
  cases h : alikeF a b with
  | false => rw [show sumF a b = [] by simp [sumF, h]]; exact lens_nil
  | true =>
    rw [show sumF a b = buildF (plus2 a b) a.length by simp [sumF, h]]
    exact lens_sq (buildF_sq _ _) (valid_sq (alike_iff.1 h).1).2.1
theorem lens_prod (a b : List (List Int)) : lensOk (prodF a b) := by
  cases h : alikeF a b with
  | false => rw [show prodF a b = [] by simp [prodF, h]]; exact lens_nil
  | true =>
    rw [show prodF a b = buildF (dotF a b) a.length by simp [prodF, h]]
    exact lens_sq (buildF_sq _ _) (valid_sq (alike_iff.1 h).1).2.1
theorem lens_star (m : List (List Int)) : lensOk (starS m) := by
  cases h : validF m with
  | false => rw [show starS m = [] by simp [starS, starF, h]]; exact lens_nil
  | true =>
    cases h2 : starBad m with
    | true => rw [show starS m = [] by simp [starS, starF, h, h2]]; exact lens_nil
    | false =>
      rw [show starS m = starN m m.length by simp [starS, starF, h, h2]]
      exact lens_sq (starN_sq _ _) (valid_sq h).2.1
theorem len_app (m : List (List Int)) (v : List Int) : lenOk (applyF m v) := by
  unfold lenOk
  cases h : validF m with
  | false => rw [show applyF m v = [] by simp [applyF, h]]; simp
  | true =>
    have := (valid_sq h).2.1
    have hl : (applyF m v).length ≤ m.length := by
      unfold applyF
      rw [h]
      simp only [cond_true]
      cases decide ((v.length : Int) = m.length) <;> simp only [cond_true, cond_false, List.length_nil, Nat.zero_le]
      cases wrongF v <;> simp
    omega
theorem s_match (a b : List (List Int)) (v : List Int) : SoundC Try.prog G0 3 [.dat M a, .dat M b, .dat R v] [] ⟨True, .dat .bool true, []⟩ := by
  refine sound_of_ev (c := Sv.mkc K11) KS11 KI0s hm (vc_match a b v ⟨rfl, fun _ => ?_⟩)
  have hs := rstar_eq (m := a)
  have o41 : validF (oneF 41) = false := by
    have : ((oneF 41).length : Int) = 41 := by rw [show oneF 41 = buildF one1 (41 : Nat) from rfl, (buildF_sq one1 41).len]; rfl
    simp [validF, this]
  simp only [cnd_or, cnd_and, D.and, D.or, D.not, Bool.true_and, Bool.and_true, Bool.false_or, Bool.or_false, eq_self, true_and, and_true, imp_self, implies_true, Bool.not_eq_true', Bool.or_eq_true, Bool.or_eq_false_iff, Bool.not_eq_false', Bool.and_eq_true, Bool.and_eq_false_imp, Bool.not_not, forall_const, exists_eq_right, exists_eq_right', exists_eq_left, exists_eq_left', Int.toNat_natCast, Nat.zero_add, Nat.mul_one, Int.ofNat_eq_natCast, D.nil, D.eq, D.ne, D.lt, D.gt, D.le, D.ge, D.beq, D.ilen, D.slen, D.ile, D.ilt, D.ine, D.nle, D.nlt, D.sub, D.add, D.mul, D.neg, D.nat, D.ofN, D.len, D.nadd, D.nmul, D.get, D.mn, D.mx, D.set, D.app, D.tail, D.part, D.seg, D.rep, D.at2, decide_eq_true_eq, decide_eq_false_iff_not, beq_iff_eq, bne_iff_ne, beq_eq_false_iff_ne, bne_eq_false_iff_eq, D.wrap, D.allNil]
  have f12 : fewP 12 := by show (12 : Int) ≤ 1000000; omega
  refine ⟨f12, fun _ => f12, fun ⟨⟨h1, _⟩, _⟩ => ?_⟩
  have la : a.length ≤ 12 := by
    unfold fewF at h1
    simp only [Bool.and_eq_true, Bool.not_eq_true', decide_eq_false_iff_not] at h1
    omega
  obtain ⟨e1, e2⟩ := hs (by omega)
  have same : ∀ m : List (List Int), sameF m m = true := fun m => by simp [sameF]
  have ints : ∀ m : List Int, intsF m m = true := fun m => by simp [intsF]
  rw [e1, e2]
  exact ⟨by show (41 : Int) ≤ 1000000; omega, by show a.length ≤ 20; omega, fun _ => lens_star a, fun _ => lens_sum a b, fun _ => lens_prod a b, fun _ => len_app a v, ⟨⟨⟨⟨rfl, same _⟩, same _⟩, same _⟩, ints _⟩, o41⟩
end Go.Eng.Mp
