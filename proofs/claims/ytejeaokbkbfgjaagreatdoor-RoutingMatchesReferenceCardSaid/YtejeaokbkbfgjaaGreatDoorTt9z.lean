/- PeTt9z -/
import Derived.Test.YtejeaokbkbfgjaaGreatDoorX22
import Derived.Test.YtejeaokbkbfgjaaGreatDoorTt8z
set_option linter.unusedSimpArgs false
set_option linter.unusedVariables false
set_option maxRecDepth 100000
namespace Go.Eng.Sv
open Go.Proofs
abbrev cy : List (Int × List Bool × List Int) := [(0, [true, true, true, true, true, false, false], [])]
abbrev cz : List (Int × List Bool × List Int) := [(0, [false, false, false, false, false, false, false], [])]
abbrev ny : List ByteArray := [⟨#[99]⟩]
abbrev oy : List ByteArray := [⟨#[112]⟩]
abbrev fy : List Off := [(⟨#[97]⟩, 0, 0, 2, 1, 10, []), (⟨#[98]⟩, 0, 0, 2, 1, 10, [])]
abbrev ly : List Line := [(⟨#[108]⟩, 0, 1, 480, 120, 1), (⟨#[109]⟩, 1, 0, 600, 60, 1)]
abbrev ky : List Cla := [(⟨#[107]⟩, 1020, 720)]
theorem vc_example13  (hvc :
 let c1 := [((0 : Int), [true, true, true, true, true, false, false], D.nil Int)];
 let c2 := [ByteArray.mk #[(99 : UInt8)]];
 let c3 := [ByteArray.mk #[(112 : UInt8)]];
 let c4 := ((0 : Int), (0 : Int), (2 : Int), (1 : Int), (10 : Int), D.nil ByteArray);
 let c5 := [(ByteArray.mk #[(97 : UInt8)], c4), (ByteArray.mk #[(98 : UInt8)], c4)];
 let c6 := [(ByteArray.mk #[(108 : UInt8)], (0 : Int), (1 : Int), (480 : Int), (120 : Int), (1 : Int)), (ByteArray.mk #[(109 : UInt8)], (1 : Int), (0 : Int),
  (600 : Int), (60 : Int), (1 : Int))];
 let c7 := [(ByteArray.mk #[(107 : UInt8)], (1020 : Int), (720 : Int))]; true = true ∧ (True → 1 = 1 ∧ 0 = 0 ∧ 1 = 1 ∧ 1 = 1 ∧ 0 = 0 ∧ 1 = 1 ∧ 1 = 1 ∧ 0 = 0 ∧ 1
  = 1 ∧ 1 = 1 ∧ 0 = 0 ∧ 1 = 1 ∧ 0 = 0 ∧ 1 = 1 ∧ 0 = 0 ∧ 1 = 1 ∧ 0 = 0 ∧ c1 = c1 ∧ c2 = c2 ∧ c3 = c3 ∧ c5 = c5 ∧ c6 = c6 ∧ c7 = c7 ∧ True)) :
    evF (mkc KT14) noAnn 32 [] [] ⟨True, .agg [.dat (.sl C) cy, .dat (.sl S) ny, .dat (.sl S) oy, .dat (.sl Of) fy, .dat (.sl Ln) ly, .dat (.sl Kl) ky], []⟩ := of_eq (by kernel_rfl) hvc
noncomputable def KT15 : Kt := kOr 32 (dataK [] (fun _ => True) fun _ => .agg [.dat (.sl C) cy, .dat (.sl S) ny, .dat (.sl S) oy, .dat (.sl Of) fy, .dat (.sl Ln) ly, .dat (.sl Kl) ky]) KT14
theorem vc_head13  (hvc :
 let c1 := ((0 : Int), (0 : Int), (2 : Int), (1 : Int), (10 : Int), D.nil ByteArray);
 let c2 := ([ByteArray.mk #[(99 : UInt8)]], [ByteArray.mk #[(112 : UInt8)]], [(ByteArray.mk #[(97 : UInt8)], c1), (ByteArray.mk #[(98 : UInt8)], c1)],
  [(ByteArray.mk #[(108 : UInt8)], (0 : Int), (1 : Int), (480 : Int), (120 : Int), (1 : Int)), (ByteArray.mk #[(109 : UInt8)], (1 : Int), (0 : Int), (600 : Int),
  (60 : Int), (1 : Int))], [(ByteArray.mk #[(107 : UInt8)], (1020 : Int), (720 : Int))]);
 let c3 := ([((0 : Int), [true, true, true, true, true, false, false], D.nil Int)], c2);
 let c4 := D.eq (departE c3 (0 : Int) (480 : Int)) (0 : Int);
 let c5 := D.cnd c4 (D.eq (departD c3 (0 : Int) (480 : Int)) (480 : Int)) false;
 let c6 := D.cnd c5 (D.eq (departE c3 (0 : Int) (481 : Int)) (0 : Int)) false;
 let c7 := D.cnd c6 (D.eq (departD c3 (0 : Int) (481 : Int)) (1920 : Int)) false;
 let c8 := D.cnd c7 (D.eq (departE c3 (0 : Int) (6241 : Int)) (0 : Int)) false;
 let c9 := D.cnd c8 (D.eq (departD c3 (0 : Int) (6241 : Int)) (10560 : Int)) false;
 let c10 := depsF c3 (0 : Int) (0 : Int) (2880 : Int);
 let c11 := D.cnd c9 (sameI c10 [(480 : Int), (1920 : Int)]) false;
 let c12 := D.cnd c11 (D.eq (waitE c3 (0 : Int) (0 : Int) (10080 : Int)) (0 : Int)) false;
 let c13 := D.cnd c12 (D.eq (waitD c3 (0 : Int) (0 : Int) (10080 : Int)) (4319 : Int)) false;
 let c14 := D.cnd c13 (D.eq (departE c3 (2 : Int) (0 : Int)) (1 : Int)) false; true = true ∧ (True → True ∧ 1 = 1 ∧ 0 = 0 ∧ 1 = 1 ∧ 0 = 0 ∧ True ∧ 1 = 1 ∧ 0 = 0
  ∧ True ∧ 1 = 1 ∧ 0 = 0 ∧ True ∧ 1 = 1 ∧ 0 = 0 ∧ True ∧ 1 = 1 ∧ 0 = 0 ∧ True ∧ 1 = 1 ∧ 0 = 0 ∧ True ∧ 1 = 1 ∧ 0 = 0 ∧ 1 = 1 ∧ 0 = 0 ∧ D.ile (0 : Int) (7 : Int)
  ∧ D.ile (D.mul (D.ofN (1)) (7 : Int)) (281474976710656 : Int) ∧ D.ile (7 : Int) (9223372036854775807 : Int) ∧ 1 = 1 ∧ 1 = 1 ∧ 0 = 0 ∧ 1 = 1 ∧ 0 = 0 ∧ True ∧
  (c4 = true → c4 = true → c4 = true) ∧ (D.and true c4 = true → c4 = true) ∧ (c5 = true → c5 = true → c5 = true) ∧ (D.and true c5 = true → c5 = true) ∧ (c6 =
  true → c6 = true → c6 = true) ∧ (D.and true c6 = true → c6 = true) ∧ (c7 = true → c7 = true → c7 = true) ∧ (D.and true c7 = true → c7 = true) ∧ (c8 = true → c8
  = true → c8 = true) ∧ (D.and true c8 = true → c8 = true) ∧ (c9 = true → c9 = true → c9 = true) ∧ (c9 = true → c9 = true → c9 = true) ∧ (c9 = true → mildI c10)
  ∧ (D.and true c9 = true → c9 = true) ∧ (c11 = true → c11 = true → c11 = true) ∧ (D.and true c11 = true → c11 = true) ∧ (c12 = true → c12 = true → c12 = true) ∧
  (D.and true c12 = true → c12 = true) ∧ (c13 = true → c13 = true → c13 = true) ∧ (D.and true c13 = true → c13 = true) ∧ (c14 = true → c14 = true → c14 = true) ∧
  (D.and true c14 = true → c14 = true) ∧ D.cnd c14 (D.eq (departE ([((0 : Int), D.rep (7 : Int) false, D.nil Int)], c2) (0 : Int) (0 : Int)) (20 : Int)) false =
  true ∧ True)) :
    evF { mkc KT15 with mb := fun t => t == 45 } noAnn 11 [] [] ⟨True, .dat .bool true, []⟩ := of_eq (by kernel_rfl) hvc
abbrev ey : Net := (cy, ny, oy, fy, ly, ky)
abbrev ez : Net := (cz, ny, oy, fy, ly, ky)
theorem ok_ly : LinesOk 2 ly := ⟨by decide, fun l hl => by
  simp only [ly, List.mem_cons, List.not_mem_nil, or_false] at hl
  rcases hl with rfl | rfl <;> decide⟩
noncomputable def e2 (x y : Int) (i : Nat) : Int := if i = 0 then x else if i = 1 then y else -1
theorem isDist_e2 {ls : List Line} {a : Nat} {x y : Int} (h1 : e2 x y a = 0) (h2 : -1 ≤ x) (h3 : -1 ≤ y) (h4 : ∀ l ∈ ls, 0 ≤ e2 x y (lFrom l).toNat → 0 ≤ e2 x y (lTo l).toNat ∧ e2 x y (lTo l).toNat ≤ e2 x y (lFrom l).toNat + lTravel l)
    (h5 : 0 ≠ a → 0 ≤ x → ∃ l ∈ ls, (lTo l).toNat = 0 ∧ 0 ≤ e2 x y (lFrom l).toNat ∧ x = e2 x y (lFrom l).toNat + lTravel l) (h6 : 1 ≠ a → 0 ≤ y → ∃ l ∈ ls, (lTo l).toNat = 1 ∧ 0 ≤ e2 x y (lFrom l).toNat ∧ y = e2 x y (lFrom l).toNat + lTravel l) : IsDist ls a (e2 x y) := by
  refine ⟨h1, fun b _ => ?_, h4, fun b _ hne h0 => ?_⟩
  · unfold e2; split
    · exact h2
    · split
      · exact h3
      · decide
  · by_cases e0 : b = 0
    · subst e0; exact h5 hne h0
    · by_cases e1 : b = 1
      · subst e1; exact h6 hne h0
      · exfalso; unfold e2 at h0; rw [if_neg e0, if_neg e1] at h0; exact absurd h0 (by decide)
theorem ly0 {b : Nat} (hb : b < 12) : cell (relaxedF ly) 0 b = e2 0 120 b := (relaxedF_dist ok_ly (by decide)).unique ok_ly (isDist_e2 (by decide) (by decide) (by decide) (fun l hl => by
  simp only [ly, List.mem_cons, List.not_mem_nil, or_false] at hl
  rcases hl with rfl | rfl <;> decide) (fun h => (h rfl).elim) (fun _ _ => ⟨(⟨#[108]⟩, 0, 1, 480, 120, 1), by simp [ly], by decide, by decide, by decide⟩)) hb
theorem ly1 {b : Nat} (hb : b < 12) : cell (relaxedF ly) 1 b = e2 60 0 b := (relaxedF_dist ok_ly (by decide)).unique ok_ly (isDist_e2 (by decide) (by decide) (by decide) (fun l hl => by
  simp only [ly, List.mem_cons, List.not_mem_nil, or_false] at hl
  rcases hl with rfl | rfl <;> decide) (fun _ _ => ⟨(⟨#[109]⟩, 1, 0, 600, 60, 1), by simp [ly], by decide, by decide, by decide⟩) (fun h => (h rfl).elim)) hb
theorem reach_ly : reachTo 2 ly 2 = [] := by
  have h0 : reach1 2 ly 0 = false := by
    show (decide (cell (relaxedF ly) 0 0 = -1) || (decide (cell (relaxedF ly) 1 0 = -1) || false)) = false
    rw [ly0 (by decide), ly1 (by decide)]; rfl
  have h1 : reach1 2 ly 1 = false := by
    show (decide (cell (relaxedF ly) 0 1 = -1) || (decide (cell (relaxedF ly) 1 1 = -1) || false)) = false
    rw [ly0 (by decide), ly1 (by decide)]; rfl
  show ([0, 1].filterMap fun b : Nat => if reach1 2 ly b then some (3, (b : Int), 111) else none) = []
  simp [h0, h1]
theorem fey : faultsF ey = [] := by decide +kernel
theorem fez : faultsF ez = [] := by decide +kernel
theorem sey : soundF ey = true := by unfold soundF checkF; rw [if_pos (noF_iff.2 fey)]; show (reachTo 2 ly 2).isEmpty = true; rw [reach_ly]; rfl
theorem sez : soundF ez = true := by unfold soundF checkF; rw [if_pos (noF_iff.2 fez)]; show (reachTo 2 ly 2).isEmpty = true; rw [reach_ly]; rfl
theorem uey {ts : List Int} (h : ts.all timeOk = true) : usableF ey 0 ts = true := by unfold usableF; rw [h, sey]; rfl
theorem dey {t u : Int} (ht : timeOk t = true) (h : firstO ey 0 t = some u) : departD ey 0 t = u ∧ departE ey 0 t = 0 := by
  unfold departD departE firstD firstB
  rw [uey (by simp [ht]), h]; exact ⟨rfl, rfl⟩
theorem dey1 : departD ey 0 480 = 480 ∧ departE ey 0 480 = 0 := dey (by decide) (by decide +kernel)
theorem dey2 : departD ey 0 481 = 1920 ∧ departE ey 0 481 = 0 := dey (by decide) (by decide +kernel)
theorem dey3 : departD ey 0 6241 = 10560 ∧ departE ey 0 6241 = 0 := dey (by decide) (by decide +kernel)
theorem dey4 : depsF ey 0 0 2880 = [480, 1920] := by unfold depsF; rw [uey (by decide)]; decide +kernel
theorem dey5 : waitD ey 0 0 10080 = 4319 ∧ waitE ey 0 0 10080 = 0 := by
  have h : waitO ey 0 0 10080 = some 4319 := by
    decide +kernel
  unfold waitD waitE waitOk
  rw [uey (by decide), h]; exact ⟨rfl, rfl⟩
theorem dey6 : departE ey 2 0 = 1 := by unfold departE usableF; rfl
theorem dez : departE ez 0 0 = 20 := by
  have h : firstO ez 0 0 = none := by decide +kernel
  unfold departE firstB usableF
  rw [sez, h]; rfl
theorem t_example13 : SoundC Tryz.prog G0 32 [] [] ⟨True, .agg [.dat (.sl C) cy, .dat (.sl S) ny, .dat (.sl S) oy, .dat (.sl Of) fy, .dat (.sl Ln) ly, .dat (.sl Kl) ky], []⟩ := by
  refine sound_of_ev (c := mkc KT14) KST14 KI0s hm (vc_example13 ⟨rfl, fun _ => ?_⟩)
  exact ⟨rfl, rfl, rfl, rfl, rfl, rfl, rfl, rfl, rfl, rfl, rfl, rfl, rfl, rfl, rfl, rfl, rfl, rfl, rfl, rfl, rfl, rfl, rfl, trivial⟩
theorem KST15 : KSound Tryz.prog G0 KT15 := kOr_ok (dataK_ok fun _ => t_example13) KST14
theorem t_head13 : SoundC Tryz.prog G0 11 [] [] ⟨True, .dat .bool true, []⟩ := by
  refine sound_of_ev (c := { mkc KT15 with mb := fun t => t == 45 }) KST15 KI0s hm (vc_head13 ?_)
  intro c1 c2 c3 c4 c5 c6 c7 c8 c9 c10 c11 c12 c13 c14
  have e4 : c4 = true := by show D.eq (departE ey 0 480) 0 = true; rw [dey1.2]; rfl
  have e5 : c5 = true := by show D.cnd c4 (D.eq (departD ey 0 480) 480) false = true; rw [e4, dey1.1]; rfl
  have e6 : c6 = true := by show D.cnd c5 (D.eq (departE ey 0 481) 0) false = true; rw [e5, dey2.2]; rfl
  have e7 : c7 = true := by show D.cnd c6 (D.eq (departD ey 0 481) 1920) false = true; rw [e6, dey2.1]; rfl
  have e8 : c8 = true := by show D.cnd c7 (D.eq (departE ey 0 6241) 0) false = true; rw [e7, dey3.2]; rfl
  have e9 : c9 = true := by show D.cnd c8 (D.eq (departD ey 0 6241) 10560) false = true; rw [e8, dey3.1]; rfl
  have q10 : c10 = [480, 1920] := dey4
  have e11 : c11 = true := by show D.cnd c9 (sameI c10 [480, 1920]) false = true; rw [e9, q10]; rfl
  have e12 : c12 = true := by show D.cnd c11 (D.eq (waitE ey 0 0 10080) 0) false = true; rw [e11, dey5.2]; rfl
  have e13 : c13 = true := by show D.cnd c12 (D.eq (waitD ey 0 0 10080) 4319) false = true; rw [e12, dey5.1]; rfl
  have e14 : c14 = true := by show D.cnd c13 (D.eq (departE ey 2 0) 1) false = true; rw [e13, dey6]; rfl
  have e15 : D.cnd c14 (D.eq (departE ([((0 : Int), D.rep (7 : Int) false, D.nil Int)], c2) (0 : Int) (0 : Int)) (20 : Int)) false = true := by
    show D.cnd c14 (D.eq (departE ez 0 0) 20) false = true; rw [e14, dez]; rfl
  have m10 : mildI c10 := by rw [q10]; exact (by decide : (2 : Nat) ≤ 1000000)
  have k7 : D.ile (D.mul (D.ofN (1)) (7 : Int)) (281474976710656 : Int) := by show (1 : Int) * 7 ≤ 281474976710656; omega
  have k8 : D.ile (7 : Int) (9223372036854775807 : Int) := by show (7 : Int) ≤ 9223372036854775807; omega
  clear_value c14 c13 c12 c11 c10 c9 c8 c7 c6 c5 c4
  subst e4 e5 e6 e7 e8 e9 e11 e12 e13 e14
  refine ⟨rfl, fun _ => ?_⟩
  and_intros
  all_goals first
    | exact trivial
    | with_reducible rfl
    | exact k7
    | exact k8
    | exact e15
    | exact fun _ => m10
    | exact fun _ _ => rfl
    | exact fun _ => rfl
    | (show (0 : Int) ≤ 7; omega)
theorem KST16 : KSound Tryz.prog G0 (kOr 11 (dataK [] (fun _ => True) fun _ => .dat .bool true) KT15) := kOr_ok (dataK_ok fun _ => t_head13) KST15
end Go.Eng.Sv
