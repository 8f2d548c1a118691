/- PeInLi -/
import Derived.Test.YtlobbofhlcjlmaaZ22
import Derived.Test.YtlobbofhlcjlmaaIn7i
set_option linter.unusedSimpArgs false
set_option linter.unusedVariables false
set_option maxRecDepth 100000
namespace Go.Eng.In
open Go.Proofs
theorem fewAll_bnd {n : Net} {l : List Int} (h : fewAll n l = true) : l.length ≤ 3000 ∧ netP n ∧ n.2.2.2.1.length ≤ 6 ∧ n.2.2.2.2.2.length ≤ 8 := by
  unfold fewAll smF at h
  simp only [Bool.and_eq_true, decide_eq_true_eq] at h
  obtain ⟨⟨⟨h1, h2⟩, _⟩, h3⟩ := h
  have h4 := (fewF_iff.1 h1).1
  unfold fewLen at h4
  rw [decide_eq_true_eq] at h4
  exact ⟨by omega, ⟨⟨⟨by omega, by omega⟩, by omega⟩, by omega⟩, by omega, by omega⟩
theorem limI_of {l : List Int} (h : l.length ≤ 2000000) : limI l := by show l.length ≤ 2000000000000000; omega
theorem limS_of {l : List Int} (h : l.length ≤ 2000000) : limS l := by show l.length ≤ 9223372036854775807; omega
theorem not_sealed {n : Net} {l : List Int} {s : Int} (h : sealedF l s = false) : openC (l, s) = 180 ∧ checkF n l s = 180 := by
  have h1 : openOk (l, s) = false := by unfold openOk; rw [show sealedF (l, s).1 (l, s).2 = false from h]; rfl
  have h2 : openE (l, s) = 180 := by unfold openE; rw [show sealedF (l, s).1 (l, s).2 = false from h]; rfl
  unfold openC checkF
  rw [h1, h2]
  exact ⟨rfl, rfl⟩
theorem rl_self {l : List Int} (h : inSeal l = true) : rl l = l := by
  unfold rl
  conv => rhs; rw [← List.map_id l]
  refine List.map_congr_left fun x hx => ?_
  have := inSeal_iff.1 h x hx
  show x % 65521 = x
  omega
theorem sealG_self {l : List Int} (h : inSeal l = true) : sealG l = sealOf l := by unfold sealG; rw [rl_self h]
theorem sealed_own {l : List Int} (h : inSeal l = true) : sealedF l (sealG l) = true := by
  unfold sealedF
  rw [h, sealG_self h]; simp
theorem sealed_in {l : List Int} {s : Int} (h : sealedF l s = true) : inSeal l = true ∧ s = sealOf l := by
  unfold sealedF at h
  rwa [Bool.and_eq_true, decide_eq_true_eq] at h
/-- Another seal. -/
theorem rej_seal {n : Net} {l : List Int} {b : Int} (h : sealedF l (sealG l) = true) (hb : sealG l ≠ b) : openC (l, b) = 180 ∧ checkF n l b = 180 := by
  refine not_sealed ?_
  have h1 := (sealed_in h).1
  unfold sealedF
  rw [decide_eq_false (p := b = sealOf l) (fun e => hb (by rw [sealG_self h1, e])), Bool.and_false]
/-- Another number. -/
theorem rej_num {n : Net} {l : List Int} {b : Int} {k : Nat} (h : sealedF l (sealG l) = true) (hk : k < l.length) (hb : l.getD k 0 ≠ b) : openC (l.set k b, sealG l) = 180 ∧ checkF n (l.set k b) (sealG l) = 180 := by
  refine not_sealed ?_
  have h1 := (sealed_in h).1
  cases e : sealedF (l.set k b) (sealG l) with
  | false => rfl
  | true =>
    exfalso
    obtain ⟨h2, h3⟩ := sealed_in e
    have hb2 := inSeal_iff.1 h2 b (List.mem_set hk b)
    refine seal_set hk (inSeal_iff.1 h1) hb2.1 hb2.2 (fun e2 => hb ?_) (h3.symm.trans (sealG_self h1))
    rw [List.getD_eq_getElem?_getD, List.getElem?_eq_getElem hk, Option.getD_some, e2]
/-! ### What is accepted -/
structure Acc (n : Net) (l : List Int) : Prop where
  ins : inSeal l = true
  pl : plOk l = true
  us : usF n = true
  fit : fitF n (planF l) = true
  len : l.length ≤ 40000
  run : allRun n (planF l) (plRest l) = some []
theorem acc_iff {n : Net} {l : List Int} : checkF n l (sealG l) = 0 ↔ Acc n l := by
  constructor
  · intro h
    unfold checkF at h
    split at h
    case isFalse => unfold openE at h; split at h <;> omega
    rename_i h1
    split at h
    case isFalse => omega
    rename_i h2
    split at h
    case isFalse => omega
    rename_i h3
    unfold runE at h
    split at h
    case isFalse => omega
    rename_i h4
    unfold openOk at h1
    rw [Bool.and_eq_true] at h1
    unfold fitsAll sizeOk at h3
    rw [Bool.and_eq_true, decide_eq_true_eq] at h3
    exact ⟨(sealed_in h1.1).1, h1.2, h2, h3.1, h3.2, h4⟩
  · rintro ⟨h1, h2, h3, h4, h5, h6⟩
    unfold checkF
    rw [if_pos (by unfold openOk; rw [sealed_own h1]; exact h2), if_pos h3, if_pos (by unfold fitsAll sizeOk; rw [h4, decide_eq_true h5]; rfl)]
    unfold runE
    rw [if_pos h6]
/-- Sealed, usable, but refused: the proof error. -/
theorem ref_proof {n : Net} {l : List Int} (h1 : inSeal l = true) (h3 : usF n = true) (h : ¬ Acc n l) : checkF n l (sealG l) = 190 := by
  have h0 : checkF n l (sealG l) ≠ 0 := fun e => h (acc_iff.1 e)
  unfold checkF at h0 ⊢
  split
  case isFalse => unfold openE; rw [show sealedF (l, sealG l).1 (l, sealG l).2 = true from sealed_own h1]; rfl
  rename_i g
  rw [if_pos g, if_pos h3] at h0
  try rw [if_pos h3]
  split
  case isFalse => rfl
  rename_i g2
  rw [if_pos g2] at h0
  unfold runE at h0 ⊢
  split
  · rename_i g3; rw [if_pos g3] at h0; omega
  · rfl
/-! ### Numbers behind the last one -/
theorem one_app {xs : List Int} (z : List Int) (h : hasOne xs = true) : hasOne (xs ++ z) = true ∧ hd (xs ++ z) = hd xs ∧ tl (xs ++ z) = tl xs ++ z := by
  have h := of_decide_eq_true h
  cases xs with
  | nil => exact absurd h (by simp)
  | cons x r => exact ⟨by unfold hasOne; simp, rfl, rfl⟩
theorem okDay_app {n : Net} {o c : Int} {p : Plan} {x t : Int} : okDay n o c p x t = okDay n o c p x t := rfl
theorem folF_app {n : Net} {p : Plan} {d : Int} (z : List Int) : ∀ (f : Nat) {o t : Int} {xs : List Int}, (folF n p d f o t xs).1 = true → folF n p d f o t (xs ++ z) = (true, (folF n p d f o t xs).2.1, (folF n p d f o t xs).2.2 ++ z)
  | 0, o, t, xs, h => by
    have h : decide (o = d) = true := h
    show (decide (o = d), t, xs ++ z) = _
    rw [h]; rfl
  | f + 1, o, t, xs, h => by
    have e : ∀ ys : List Int, folF n p d (f + 1) o t ys = if o = d then (true, t, ys) else if cellAt p o d = -1 then (false, t, ys) else if hasOne ys = false then (false, t, ys) else
      if okDay n o (cellAt p o d) p (hd ys) t = true then folF n p d f (linAt n (cellAt p o d)).2.2.1 (momF (calAt n o).1 (hd ys - 2 + p.1) (linAt n (cellAt p o d)).2.2.2.1 + (linAt n (cellAt p o d)).2.2.2.2.1) (tl ys) else (false, t, tl ys) := fun ys => rfl
    rw [e] at h
    rw [e, e]
    by_cases h1 : o = d
    · rw [if_pos h1, if_pos h1]
    rw [if_neg h1] at h
    rw [if_neg h1, if_neg h1]
    by_cases h2 : cellAt p o d = -1
    · rw [if_pos h2] at h; cases h
    rw [if_neg h2] at h
    rw [if_neg h2, if_neg h2]
    by_cases h3 : hasOne xs = false
    · rw [if_pos h3] at h; cases h
    rw [if_neg h3] at h
    obtain ⟨a1, a2, a3⟩ := one_app z (by simpa using h3)
    rw [if_neg h3, if_neg (by rw [a1]; exact Bool.noConfusion), a2, a3]
    by_cases h4 : okDay n o (cellAt p o d) p (hd xs) t = true
    · rw [if_pos h4] at h
      rw [if_pos h4, if_pos h4]
      exact folF_app z f h
    · rw [if_neg h4] at h; cases h
theorem one_run_app {n : Net} {p : Plan} {k o d : Int} {j : Nat} {xs ys : List Int} (z : List Int) (h : oneRun n p k o d j xs = some ys) : oneRun n p k o d j (xs ++ z) = some (ys ++ z) := by
  unfold oneRun at h ⊢
  generalize (cutsF n p k o).getD j 0 = c at h ⊢
  split at h
  case isFalse => cases h
  rename_i hk
  cases h
  have hf : (folF n p d 19 o c xs).1 = true := by
    unfold proOk at hk
    rw [Bool.and_eq_true] at hk
    exact hk.1
  have e := folF_app z 19 hf
  have e1 : folOk n p o d c (xs ++ z) = folOk n p o d c xs := by unfold folOk; rw [e, hf]
  have e2 : folT n p o d c (xs ++ z) = folT n p o d c xs := by unfold folT; rw [e]
  have e3 : folR n p o d c (xs ++ z) = folR n p o d c xs ++ z := by unfold folR; rw [e]
  have e4 : proOk n p k o d c (xs ++ z) = proOk n p k o d c xs := by
    unfold proOk needL lastD
    rw [e1, e2]
  rw [e4, if_pos hk, e3]
theorem runN_mono {f g : Nat → List Int → Option (List Int)} (z : List Int) (hfg : ∀ i xs ys, f i xs = some ys → g i (xs ++ z) = some (ys ++ z)) : ∀ (m : Nat) {xs ys : List Int}, runN f m xs = some ys → runN g m (xs ++ z) = some (ys ++ z)
  | 0, _, _, h => by cases h; rfl
  | m + 1, xs, ys, h => by
    rw [runN] at h ⊢
    obtain ⟨us, h1, h2⟩ := Option.bind_eq_some_iff.1 h
    rw [runN_mono z hfg m h1]
    exact hfg _ _ _ h2
theorem cell_app {n : Net} {p : Plan} {k o d : Int} (z : List Int) {xs ys : List Int} (h : cellRun n p k o d xs = some ys) : cellRun n p k o d (xs ++ z) = some (ys ++ z) := by
  unfold cellRun at h ⊢
  split at h
  · rename_i g; cases h; rw [if_pos g]
  · rename_i g; rw [if_neg g]; exact runN_mono z (fun i a b hab => one_run_app z hab) _ h
theorem all_app {n : Net} {p : Plan} (z : List Int) {xs ys : List Int} (h : allRun n p xs = some ys) : allRun n p (xs ++ z) = some (ys ++ z) :=
  runN_mono z (fun _ _ _ h1 => runN_mono z (fun _ _ _ h2 => runN_mono z (fun _ _ _ h3 => cell_app z h3) _ h2) _ h1) _ h
theorem getD_app {l : List Int} (z : List Int) {k : Nat} (h : k < l.length) : (l ++ z).getD k 0 = l.getD k 0 := by
  rw [List.getD_eq_getElem?_getD, List.getElem?_append_left h, List.getD_eq_getElem?_getD]
theorem drop_app {l : List Int} (z : List Int) {k : Int} (h : k ≤ l.length) : dropI (l ++ z) k = dropI l k ++ z := by
  unfold dropI
  rw [List.drop_append_of_le_length (by omega)]
theorem build_congr {g h : Int → Int → Int} {n : Int} (e : ∀ i j, 0 ≤ i → i < n → 0 ≤ j → j < n → g i j = h i j) : buildF g n = buildF h n := by
  unfold buildF
  refine List.map_congr_left fun i hi => List.map_congr_left fun j hj => ?_
  have := List.mem_range.1 hi
  have := List.mem_range.1 hj
  exact e _ _ (by omega) (by omega) (by omega) (by omega)
theorem mul_bnd {i j m : Int} (i0 : 0 ≤ i) (i1 : i < m) (j0 : 0 ≤ j) (j1 : j < m) : 0 ≤ i * m + j ∧ i * m + j < m * m := by
  have h1 : 0 ≤ i * m := Int.mul_nonneg i0 (by omega)
  have h2 : (i + 1) * m ≤ m * m := Int.mul_le_mul_of_nonneg_right (by omega) (by omega)
  rw [Int.add_mul, Int.one_mul] at h2
  omega
theorem tab_app {m : Int} {l : List Int} (z : List Int) (h : m * m ≤ l.length) : tabF m (l ++ z) = tabF m l := by
  refine build_congr fun i j i0 i1 j0 j1 => ?_
  obtain ⟨a, b⟩ := mul_bnd i0 i1 j0 j1
  unfold tg
  rw [getD_app z (by omega)]
theorem tabs_app {q m : Int} {l : List Int} (z : List Int) (m0 : 0 ≤ m) (h : q * (m * m) ≤ l.length) : tabsF q m (l ++ z) = tabsF q m l := by
  unfold tabsF
  refine List.map_congr_left fun k hk => ?_
  have hk := List.mem_range.1 hk
  have mm : 0 ≤ m * m := Int.mul_nonneg m0 m0
  have h2 : ((k : Int) + 1) * (m * m) ≤ q * (m * m) := Int.mul_le_mul_of_nonneg_right (by omega) mm
  rw [Int.add_mul, Int.one_mul] at h2
  have h3 : 0 ≤ (k : Int) * (m * m) := Int.mul_nonneg (by omega) mm
  rw [drop_app z (by omega)]
  exact tab_app z (by rw [drop_len]; omega)
theorem plOk_iff {l : List Int} : plOk l = true ↔ 4 ≤ l.length ∧ plHead l = true ∧ 4 + l.getD 2 0 * l.getD 2 0 + l.getD 3 0 * (l.getD 2 0 * l.getD 2 0) ≤ l.length := by
  unfold plOk
  rw [Bool.and_eq_true, Bool.and_eq_true, decide_eq_true_eq, decide_eq_true_eq, and_assoc]
theorem plan_app {l : List Int} (z : List Int) (hl : numsOk l) (h : plOk l = true) : plOk (l ++ z) = true ∧ planF (l ++ z) = planF l ∧ plRest (l ++ z) = plRest l ++ z := by
  obtain ⟨h4, hh, hlen⟩ := plOk_iff.1 h
  obtain ⟨⟨m0, m1⟩, ⟨q0, q1⟩, _⟩ := plan_parts hl h
  have e : ∀ k : Nat, k < 4 → (l ++ z).getD k 0 = l.getD k 0 := fun k hk => getD_app z (by omega)
  have e0 := e 0 (by decide)
  have e1 := e 1 (by decide)
  have e2 := e 2 (by decide)
  have e3 := e 3 (by decide)
  have mm : 0 ≤ l.getD 2 0 * l.getD 2 0 := Int.mul_nonneg m0 m0
  have qm : 0 ≤ l.getD 3 0 * (l.getD 2 0 * l.getD 2 0) := Int.mul_nonneg q0 mm
  refine ⟨plOk_iff.2 ⟨by rw [List.length_append]; omega, ?_, ?_⟩, ?_, ?_⟩
  · unfold plHead at hh ⊢
    rw [e0, e1, e2, e3]; exact hh
  · rw [e2, e3, List.length_append]; omega
  · unfold planF
    rw [e0, e1, e2, e3, drop_app z (by omega), drop_app z (by omega), tab_app z (by rw [drop_len]; omega), tabs_app z m0 (by rw [drop_len]; omega)]
  · unfold plRest
    rw [e2, e3, drop_app z (by omega)]
theorem acc_nums {n : Net} {l : List Int} (hl : limI l) (h : Acc n l) : numsOk l := ⟨h.ins, hl⟩
theorem acc_len {n : Net} {l : List Int} (h : Acc n l) : 4 ≤ l.length := (plOk_iff.1 h.pl).1
/-- A number more. -/
theorem num_more {n : Net} {l : List Int} {x : Int} (hl : limI l) (h : Acc n l) (x0 : 0 ≤ x) (x1 : x ≤ 65519) : checkF n (l ++ [x]) (sealG (l ++ [x])) = 190 := by
  have hi : inSeal (l ++ [x]) = true := inSeal_iff.2 fun y hy => by
    rcases List.mem_append.1 hy with g | g
    · exact inSeal_iff.1 h.ins y g
    · rw [List.mem_singleton.1 g]; exact ⟨x0, x1⟩
  refine ref_proof hi h.us fun g => ?_
  obtain ⟨_, e2, e3⟩ := plan_app [x] (acc_nums hl h) h.pl
  have := g.run
  rw [e2, e3, all_app [x] h.run] at this
  simp at this
/-- Without the last one. -/
theorem num_less {n : Net} {l : List Int} (hl : limI l) (h : Acc n l) : checkF n (l.take (l.length - 1)) (sealG (l.take (l.length - 1))) = 190 := by
  have hi : inSeal (l.take (l.length - 1)) = true := inSeal_iff.2 fun y hy => inSeal_iff.1 h.ins y (List.mem_of_mem_take hy)
  refine ref_proof hi h.us fun g => ?_
  have h4 := acc_len h
  have e : l = l.take (l.length - 1) ++ l.drop (l.length - 1) := (List.take_append_drop _ _).symm
  have hll : limI (l.take (l.length - 1)) := by
    show (l.take (l.length - 1)).length ≤ 2000000000000000
    rw [List.length_take]; have : l.length ≤ 2000000000000000 := hl; omega
  obtain ⟨_, e2, e3⟩ := plan_app (l.drop (l.length - 1)) (acc_nums hll g) g.pl
  have := h.run
  rw [e, e2, e3, all_app _ g.run] at this
  simp only [List.nil_append, Option.some.injEq] at this
  have h5 := congrArg List.length this
  rw [List.length_drop] at h5
  simp only [List.length_nil] at h5
  omega
/-! ### One number of a promise changed -/
theorem drop_at (l : List Int) (a : Int) (j : Nat) : (dropI l a).getD j 0 = l.getD (a.toNat + j) 0 := by
  unfold dropI
  rw [List.getD_eq_getElem?_getD, List.getElem?_drop, List.getD_eq_getElem?_getD]
theorem set_at {l : List Int} {i : Nat} {v : Int} (hi : i < l.length) (j : Nat) : (l.set i v).getD j 0 = if j = i then v else l.getD j 0 := by
  rw [List.getD_eq_getElem?_getD, List.getElem?_set, List.getD_eq_getElem?_getD]
  by_cases e : i = j
  · subst e; rw [if_pos rfl, if_pos hi, if_pos rfl]; rfl
  · rw [if_neg e, if_neg (fun g => e g.symm)]
noncomputable def pos (m k o d : Int) : Int := 4 + m * m + k * (m * m) + (o * m + d)
theorem days_at {l : List Int} {k o d : Int} (hm : 0 ≤ l.getD 2 0) (hk : 0 ≤ k ∧ k < l.getD 3 0) (ho : 0 ≤ o ∧ o < l.getD 2 0) (hd : 0 ≤ d ∧ d < l.getD 2 0) : daysAt (planF l) k o d = l.getD (pos (l.getD 2 0) k o d).toNat 0 - 1 := by
  have mm : 0 ≤ l.getD 2 0 * l.getD 2 0 := Int.mul_nonneg hm hm
  have km : 0 ≤ k * (l.getD 2 0 * l.getD 2 0) := Int.mul_nonneg hk.1 mm
  have om := mul_bnd ho.1 ho.2 hd.1 hd.2
  have e : (planF l).2.2.2.getD k.toNat [] = tabF (l.getD 2 0) (dropI (dropI l (4 + l.getD 2 0 * l.getD 2 0)) (k * (l.getD 2 0 * l.getD 2 0))) := by
    show (tabsF _ _ _).getD _ _ = _
    unfold tabsF
    rw [List.getD_eq_getElem?_getD, List.getElem?_map, List.getElem?_range (by omega), Option.map_some, Option.getD_some, Int.toNat_of_nonneg hk.1]
  unfold daysAt
  rw [e]
  show ((buildF _ _).getD _ _).getD _ _ = _
  rw [build_at ho hd]
  unfold tg
  rw [drop_drop (by omega) km, drop_at]
  unfold pos
  congr 2
  omega
theorem folF_same {n : Net} {p p' : Plan} (h1 : p'.1 = p.1) (h3 : p'.2.2.1 = p.2.2.1) {d : Int} : ∀ (f : Nat) (o t : Int) (xs : List Int), folF n p' d f o t xs = folF n p d f o t xs
  | 0, _, _, _ => rfl
  | f + 1, o, t, xs => by
    have e : ∀ p : Plan, folF n p d (f + 1) o t xs = if o = d then (true, t, xs) else if cellAt p o d = -1 then (false, t, xs) else if hasOne xs = false then (false, t, xs) else
      if okDay n o (cellAt p o d) p (hd xs) t = true then folF n p d f (linAt n (cellAt p o d)).2.2.1 (momF (calAt n o).1 (hd xs - 2 + p.1) (linAt n (cellAt p o d)).2.2.2.1 + (linAt n (cellAt p o d)).2.2.2.2.1) (tl xs) else (false, t, tl xs) := fun p => rfl
    have ec : cellAt p' o d = cellAt p o d := by unfold cellAt; rw [h3]
    have eo : ∀ c x, okDay n o c p' x t = okDay n o c p x t := fun c x => by unfold okDay; rw [h1]
    rw [e, e, ec, eo, h1, folF_same h1 h3 f]
theorem runN_le {f g : Nat → List Int → Option (List Int)} : ∀ (m : Nat) (hfg : ∀ i, i < m → ∀ xs ys, f i xs = some ys → g i xs = some ys) {xs ys : List Int}, runN f m xs = some ys → runN g m xs = some ys
  | 0, _, _, _, h => h
  | m + 1, hfg, xs, ys, h => by
    rw [runN] at h ⊢
    obtain ⟨us, h1, h2⟩ := Option.bind_eq_some_iff.1 h
    rw [runN_le m (fun i hi => hfg i (by omega)) h1]
    exact hfg _ (by omega) _ _ h2
theorem cuts_same {n : Net} {p p' : Plan} {k o : Int} (h1 : p'.1 = p.1) (h2 : p'.2.1 = p.2.1) : cutsF n p' k o = cutsF n p k o := by
  unfold cutsF cutD
  have : cutIn p' = cutIn p := by funext t; unfold cutIn; rw [h1, h2]
  rw [this, h1, h2]
theorem one_up {n : Net} {p p' : Plan} {k o d : Int} (h1 : p'.1 = p.1) (h2 : p'.2.1 = p.2.1) (h3 : p'.2.2.1 = p.2.2.1) (hd : daysAt p k o d ≤ daysAt p' k o d) {j : Nat} {xs ys : List Int} (h : oneRun n p k o d j xs = some ys) : oneRun n p' k o d j xs = some ys := by
  unfold oneRun at h ⊢
  rw [cuts_same h1 h2]
  generalize (cutsF n p k o).getD j 0 = c at h ⊢
  split at h
  case isFalse => cases h
  rename_i hk
  have e1 : folOk n p' o d c xs = folOk n p o d c xs := by unfold folOk; rw [folF_same h1 h3]
  have e2 : folT n p' o d c xs = folT n p o d c xs := by unfold folT; rw [folF_same h1 h3]
  have e3 : folR n p' o d c xs = folR n p o d c xs := by unfold folR; rw [folF_same h1 h3]
  have hk2 : proOk n p' k o d c xs = true := by
    unfold proOk needL lastD at hk ⊢
    rw [e1, e2]
    simp only [Bool.and_eq_true, decide_eq_true_eq] at hk ⊢
    exact ⟨hk.1, hk.2.1, hk.2.2.1, by omega⟩
  rw [if_pos hk2, e3]
  exact h
theorem one_stay {n : Net} {p : Plan} {k o : Int} {j : Nat} {xs ys : List Int} (h : oneRun n p k o o j xs = some ys) : ys = xs := by
  unfold oneRun at h
  split at h
  case isFalse => cases h
  cases h
  unfold folR
  rw [show (19 : Nat) = 18 + 1 from rfl, folF, if_pos rfl]
theorem run_stay {f : Nat → List Int → Option (List Int)} (hf : ∀ i xs ys, f i xs = some ys → ys = xs) : ∀ (m : Nat) {xs ys : List Int}, runN f m xs = some ys → ys = xs
  | 0, _, _, h => by cases h; rfl
  | m + 1, xs, ys, h => by
    rw [runN] at h
    obtain ⟨us, h1, h2⟩ := Option.bind_eq_some_iff.1 h
    rw [hf _ _ _ h2, run_stay hf m h1]
theorem acc_change {n : Net} {l : List Int} {i : Nat} {v : Int} (hl : limI l) (h : Acc n l) (i0 : 4 + l.getD 2 0 * l.getD 2 0 ≤ i) (i1 : (i : Int) < 4 + l.getD 2 0 * l.getD 2 0 + l.getD 3 0 * (l.getD 2 0 * l.getD 2 0)) (v0 : 0 ≤ v) (v1 : v ≤ 65519)
    (hr : ∀ k o d : Int, 0 ≤ k ∧ k < l.getD 3 0 → 0 ≤ o ∧ o < l.getD 2 0 → 0 ≤ d ∧ d < l.getD 2 0 → (pos (l.getD 2 0) k o d).toNat = i → (0 < l.getD i 0 ∧ l.getD i 0 ≤ v) ∨ (v = 0 ∧ o = d)) : Acc n (l.set i v) := by
  obtain ⟨h4, hh, hlen⟩ := plOk_iff.1 h.pl
  have hn := acc_nums hl h
  obtain ⟨⟨m0, m1⟩, ⟨q0, q1⟩, _⟩ := plan_parts hn h.pl
  have hi : i < l.length := by omega
  have mm : 0 ≤ l.getD 2 0 * l.getD 2 0 := Int.mul_nonneg m0 m0
  have e : ∀ k : Nat, k < 4 → (l.set i v).getD k 0 = l.getD k 0 := fun k hk => by rw [set_at hi, if_neg (by omega)]
  have e0 := e 0 (by decide)
  have e1 := e 1 (by decide)
  have e2 := e 2 (by decide)
  have e3 := e 3 (by decide)
  have ePl : plOk (l.set i v) = true := plOk_iff.2 ⟨by rw [List.length_set]; exact h4, by unfold plHead at hh ⊢; rw [e0, e1, e2, e3]; exact hh, by rw [e2, e3, List.length_set]; exact hlen⟩
  have f1 : (planF (l.set i v)).1 = (planF l).1 := e0
  have f2 : (planF (l.set i v)).2.1 = (planF l).2.1 := e1
  have f3 : (planF (l.set i v)).2.2.1 = (planF l).2.2.1 := by
    show tabF _ _ = tabF _ _
    rw [e2]
    refine build_congr fun a b a0 a1 b0 b1 => ?_
    obtain ⟨g1, g2⟩ := mul_bnd a0 a1 b0 b1
    unfold tg
    rw [drop_at, drop_at, set_at hi, if_neg]
    have : (4 : Int).toNat = 4 := rfl
    omega
  have f4 : (planF (l.set i v)).2.2.2.length = (planF l).2.2.2.length := by
    show (tabsF _ _ _).length = (tabsF _ _ _).length
    rw [tabs_len, tabs_len, e3]
  have f5 : plRest (l.set i v) = plRest l := by
    unfold plRest
    rw [e2, e3]
    unfold dropI
    rw [List.drop_set, if_pos (by omega)]
  have ins : inSeal (l.set i v) = true := inSeal_iff.2 fun x hx => by
    rcases List.mem_or_eq_of_mem_set hx with g | g
    · exact inSeal_iff.1 h.ins x g
    · rw [g]; exact ⟨v0, v1⟩
  have hn2 : numsOk (l.set i v) := ⟨ins, by show (l.set i v).length ≤ _; rw [List.length_set]; exact hl⟩
  have fit2 : fitF n (planF (l.set i v)) = true := by
    have := h.fit
    unfold fitF at this ⊢
    rw [f3, f4]; exact this
  refine ⟨ins, ePl, h.us, fit2, by rw [List.length_set]; exact h.len, ?_⟩
  have pp := plan_plP hn h.pl h.fit
  have pp2 := plan_plP hn2 ePl fit2
  have lq : (planF l).2.2.2.length = (l.getD 3 0).toNat := tabs_len _ _ _
  have lm : (planF l).2.2.1.length = (l.getD 2 0).toNat := build_len _ _
  have lm2 := pp.2.1.1
  rw [f5]
  have hrun := h.run
  unfold allRun st1 at hrun ⊢
  rw [Int.toNat_natCast] at hrun ⊢
  rw [f4]
  refine runN_le _ (fun k hk xs ys h1 => ?_) hrun
  have r1 := pp.2.2.2.2 (rowsD (planF l) k) (by unfold rowsD; rw [Int.toNat_natCast]; exact getD_mem hk)
  have r2 := pp2.2.2.2.2 (rowsD (planF (l.set i v)) k) (by unfold rowsD; rw [Int.toNat_natCast]; exact getD_mem (by rw [f4]; exact hk))
  unfold tabRun at h1 ⊢
  rw [r2.1, ← r1.1]
  refine runN_le _ (fun o ho xs ys h2 => ?_) h1
  have s1 := r1.2 (cellsD (planF l) k o) (by unfold cellsD rowsD; rw [Int.toNat_natCast]; exact getD_mem ho)
  have s2 := r2.2 (cellsD (planF (l.set i v)) k o) (by unfold cellsD rowsD; rw [Int.toNat_natCast]; exact getD_mem (by show o < (rowsD (planF (l.set i v)) (k : Int)).length; rw [r2.1, ← r1.1]; exact ho))
  unfold rowRun at h2 ⊢
  rw [s2, ← s1]
  refine runN_le _ (fun d hd xs ys h3 => ?_) h2
  have ro := r1.1
  have kb : 0 ≤ (k : Int) ∧ (k : Int) < l.getD 3 0 := ⟨by omega, by omega⟩
  have ob : 0 ≤ (o : Int) ∧ (o : Int) < l.getD 2 0 := ⟨by omega, by omega⟩
  have db : 0 ≤ (d : Int) ∧ (d : Int) < l.getD 2 0 := ⟨by omega, by omega⟩
  have D1 := days_at m0 kb ob db
  have D2 : daysAt (planF (l.set i v)) k o d = (l.set i v).getD (pos (l.getD 2 0) k o d).toNat 0 - 1 := by
    have := days_at (l := l.set i v) (k := k) (o := o) (d := d) (by rw [e2]; exact m0) (by rw [e3]; exact kb) (by rw [e2]; exact ob) (by rw [e2]; exact db)
    rw [e2] at this; exact this
  rw [set_at hi] at D2
  unfold cellRun at h3 ⊢
  by_cases hp : (pos (l.getD 2 0) k o d).toNat = i
  · rw [if_pos hp] at D2
    rw [hp] at D1
    rcases hr k o d kb ob db hp with ⟨g1, g2⟩ | ⟨g1, g2⟩
    · rw [if_neg (by omega)] at h3
      rw [if_neg (by omega), cuts_same f1 f2]
      exact runN_le _ (fun j _ xs ys h4 => one_up f1 f2 f3 (by omega) h4) h3
    · rw [if_pos (by omega)]
      have g2 : (o : Int) = (d : Int) := g2
      rw [← g2] at h3
      split at h3
      · exact h3
      · rw [run_stay (fun j a b hab => one_stay hab) _ h3]
  · rw [if_neg hp] at D2
    have eD : daysAt (planF (l.set i v)) k o d = daysAt (planF l) k o d := by omega
    rw [eD]
    split at h3
    · rename_i g; rw [if_pos g]; exact h3
    · rename_i g
      rw [if_neg g, cuts_same f1 f2]
      exact runN_le _ (fun j _ xs ys h4 => one_up f1 f2 f3 (by omega) h4) h3
theorem digit {m a b t u : Int} (a0 : 0 ≤ a) (a1 : a < m) (b0 : 0 ≤ b) (b1 : b < m) (h : a + t * m = b + u * m) : a = b ∧ t = u := by
  have e1 : (a + t * m) % m = a := by rw [Int.add_mul_emod_self_right, Int.emod_eq_of_lt a0 a1]
  have e2 : (b + u * m) % m = b := by rw [Int.add_mul_emod_self_right, Int.emod_eq_of_lt b0 b1]
  have e3 : (a + t * m) / m = t := by rw [Int.add_mul_ediv_right _ _ (by omega), Int.ediv_eq_zero_of_lt a0 a1, Int.zero_add]
  have e4 : (b + u * m) / m = u := by rw [Int.add_mul_ediv_right _ _ (by omega), Int.ediv_eq_zero_of_lt b0 b1, Int.zero_add]
  rw [h, e2] at e1
  rw [h, e4] at e3
  exact ⟨e1.symm, e3.symm⟩
theorem pos_inj {m k o d K O X : Int} (o0 : 0 ≤ o) (o1 : o < m) (d0 : 0 ≤ d) (d1 : d < m) (O0 : 0 ≤ O) (O1 : O < m) (X0 : 0 ≤ X) (X1 : X < m) (h : pos m k o d = pos m K O X) : o = O ∧ d = X := by
  unfold pos at h
  have h2 : d + (o + k * m) * m = X + (O + K * m) * m := by
    rw [Int.add_mul, Int.add_mul, Int.mul_assoc, Int.mul_assoc]
    omega
  obtain ⟨g1, g2⟩ := digit d0 d1 X0 X1 h2
  obtain ⟨g3, _⟩ := digit o0 o1 O0 O1 g2
  exact ⟨g3, g1⟩
theorem mul2 {a b A B : Int} (a0 : 0 ≤ a) (a1 : a ≤ A) (b0 : 0 ≤ b) (b1 : b ≤ B) : 0 ≤ a * b ∧ a * b ≤ A * B :=
  ⟨Int.mul_nonneg a0 b0, Int.mul_le_mul a1 b1 b0 (by omega)⟩
theorem pos_in {m q K O X : Int} (m0 : 0 < m) (K0 : 0 ≤ K) (K1 : K < q) (O0 : 0 ≤ O) (O1 : O < m) (X0 : 0 ≤ X) (X1 : X < m) : 4 + m * m ≤ pos m K O X ∧ pos m K O X < 4 + m * m + q * (m * m) := by
  have mm : 0 ≤ m * m := Int.mul_nonneg (by omega) (by omega)
  have h1 : 0 ≤ K * (m * m) := Int.mul_nonneg K0 mm
  have h2 : (K + 1) * (m * m) ≤ q * (m * m) := Int.mul_le_mul_of_nonneg_right (by omega) mm
  rw [Int.add_mul, Int.one_mul] at h2
  have h3 := mul_bnd O0 O1 X0 X1
  unfold pos
  omega
theorem weaker_days {n : Net} {l : List Int} {K O X d : Int} (hl : limI l) (h : Acc n l) (m0 : 0 < l.getD 2 0) (K0 : 0 ≤ K) (K1 : K < l.getD 3 0) (O0 : 0 ≤ O) (O1 : O < l.getD 2 0) (X0 : 0 ≤ X) (X1 : X < l.getD 2 0) (d0 : 0 ≤ d)
    (h1 : 0 < l.getD (pos (l.getD 2 0) K O X).toNat 0) (h2 : l.getD (pos (l.getD 2 0) K O X).toNat 0 + d ≤ 65519) : Acc n (l.set (pos (l.getD 2 0) K O X).toNat (l.getD (pos (l.getD 2 0) K O X).toNat 0 + d)) := by
  obtain ⟨p0, p1⟩ := pos_in m0 K0 K1 O0 O1 X0 X1
  have mm : 0 ≤ l.getD 2 0 * l.getD 2 0 := Int.mul_nonneg (by omega) (by omega)
  exact acc_change hl h (by omega) (by omega) (by omega) h2 fun k o d _ _ _ _ => .inl ⟨h1, by omega⟩
theorem weaker_none {n : Net} {l : List Int} {K O : Int} (hl : limI l) (h : Acc n l) (m0 : 0 < l.getD 2 0) (K0 : 0 ≤ K) (K1 : K < l.getD 3 0) (O0 : 0 ≤ O) (O1 : O < l.getD 2 0) : Acc n (l.set (pos (l.getD 2 0) K O O).toNat 0) := by
  obtain ⟨p0, p1⟩ := pos_in m0 K0 K1 O0 O1 O0 O1
  have mm : 0 ≤ l.getD 2 0 * l.getD 2 0 := Int.mul_nonneg (by omega) (by omega)
  refine acc_change hl h (by omega) (by omega) (by omega) (by omega) fun k o d hk ho hd hp => .inr ⟨rfl, ?_⟩
  have km : 0 ≤ k * (l.getD 2 0 * l.getD 2 0) := Int.mul_nonneg hk.1 mm
  obtain ⟨q0, q1⟩ := pos_in m0 hk.1 hk.2 ho.1 ho.2 hd.1 hd.2
  obtain ⟨g1, g2⟩ := pos_inj ho.1 ho.2 hd.1 hd.2 O0 O1 O0 O1 (show pos (l.getD 2 0) k o d = pos (l.getD 2 0) K O O by omega)
  omega
end Go.Eng.In
