/- PeTr11t -/
import Derived.Test.YtgphkkpblecfgabGreatDoorY22
import Derived.Test.YtgphkkpblecfgabGreatDoorTr10t
set_option linter.unusedSimpArgs false
set_option linter.unusedVariables false
set_option maxRecDepth 100000
noncomputable section
namespace Go.Eng.Sv
open Go.Proofs
abbrev cT : List (Int × List Bool × List Int) := [(0, [true, true, true, true, true, false, false], [])]
abbrev nT : List ByteArray := [⟨#[99]⟩]
abbrev oT : List ByteArray := [⟨#[112]⟩]
abbrev fT : List Off := [(⟨#[97]⟩, 0, 0, 8, 2, 10, []), (⟨#[98]⟩, 0, 0, 8, 2, 10, [])]
abbrev lT : List Line := [(⟨#[120]⟩, 0, 1, 1200, 300, 1), (⟨#[121]⟩, 1, 0, 600, 300, 1)]
abbrev lT2 : List Line := [(⟨#[120]⟩, 0, 1, 1200, 300, 1), (⟨#[121]⟩, 1, 0, 600, 300, 1), (⟨#[122]⟩, 0, 1, 600, 100, 1)]
abbrev kT : List Cla := [(⟨#[107]⟩, 1020, 720)]
theorem vc_old  (hvc :
 let c1 := [((0 : Int), [true, true, true, true, true, false, false], D.nil Int)];
 let c2 := [ByteArray.mk #[(99 : UInt8)]];
 let c3 := [ByteArray.mk #[(112 : UInt8)]];
 let c4 := ((0 : Int), (0 : Int), (8 : Int), (2 : Int), (10 : Int), D.nil ByteArray);
 let c5 := [(ByteArray.mk #[(97 : UInt8)], c4), (ByteArray.mk #[(98 : UInt8)], c4)];
 let c6 := ((300 : Int), (1 : Int));
 let c7 := [(ByteArray.mk #[(120 : UInt8)], (0 : Int), (1 : Int), (1200 : Int), c6), (ByteArray.mk #[(121 : UInt8)], (1 : Int), (0 : Int), (600 : Int), c6)];
 let c8 := [(ByteArray.mk #[(107 : UInt8)], (1020 : Int), (720 : Int))]; true = true ∧ (True → 1 = 1 ∧ 0 = 0 ∧ 1 = 1 ∧ 0 = 0 ∧ 1 = 1 ∧ 0 = 0 ∧ 1 = 1 ∧ 0 = 0 ∧ 1
  = 1 ∧ 1 = 1 ∧ 0 = 0 ∧ 1 = 1 ∧ 0 = 0 ∧ 1 = 1 ∧ 0 = 0 ∧ 1 = 1 ∧ 0 = 0 ∧ 1 = 1 ∧ 0 = 0 ∧ 1 = 1 ∧ 0 = 0 ∧ c1 = c1 ∧ c2 = c2 ∧ c3 = c3 ∧ c5 = c5 ∧ c7 = c7 ∧ c8 = c8
  ∧ True)) :
    evF (mkc KR16) noAnn 19 [] [] ⟨True, net cT nT oT fT lT kT, []⟩ := @of_eq _ _ (by kernel_rfl) hvc
theorem vc_oldB  (hvc :
 let c1 := ((300 : Int), (1 : Int));
 let c2 := [(ByteArray.mk #[(120 : UInt8)], (0 : Int), (1 : Int), (1200 : Int), c1), (ByteArray.mk #[(121 : UInt8)], (1 : Int), (0 : Int), (600 : Int), c1)];
 let c3 := [((0 : Int), [true, true, true, true, true, false, false], D.nil Int)];
 let c4 := [ByteArray.mk #[(99 : UInt8)]];
 let c5 := [ByteArray.mk #[(112 : UInt8)]];
 let c6 := ((0 : Int), (0 : Int), (8 : Int), (2 : Int), (10 : Int), D.nil ByteArray);
 let c7 := [(ByteArray.mk #[(97 : UInt8)], c6), (ByteArray.mk #[(98 : UInt8)], c6)];
 let c8 := [(ByteArray.mk #[(107 : UInt8)], (1020 : Int), (720 : Int))]; true = true ∧ (True → 1 = 1 ∧ 0 = 0 ∧ 1 = 1 ∧ 0 = 0 ∧ 1 = 1 ∧ 0 = 0 ∧ 1 = 1 ∧ 0 = 0 ∧ 1
  = 1 ∧ 1 = 1 ∧ 0 = 0 ∧ 1 = 1 ∧ 0 = 0 ∧ 1 = 1 ∧ 0 = 0 ∧ 1 = 1 ∧ 0 = 0 ∧ D.len c2 = 2 ∧ 1 = 1 ∧ 0 = 0 ∧ D.len c2 = 2 ∧ 1 = 1 ∧ 0 = 0 ∧ c3 = c3 ∧ c4 = c4 ∧ c5 = c5
  ∧ c7 = c7 ∧ 2 = 2 ∧ c8 = c8 ∧ c2 = c2 ∧ True)) :
    evF { mkc KR16 with mb := fun t => t == 19 } noAnn 19 [] [] ⟨True, .agg [.dat (.sl C) cT, .dat (.sl S) nT, .dat (.sl S) oT, .dat (.sl Of) fT, .buf 4 2, .dat (.sl Kl) kT], [(4, .buf 53 Ln lT [])]⟩ := @of_eq _ _ (by kernel_rfl) hvc
def oldK (args : List AV) (m : Mem) : Option CRes := match args, m with
  | [], [] => some ⟨True, .agg [.dat (.sl C) cT, .dat (.sl S) nT, .dat (.sl S) oT, .dat (.sl Of) fT, .buf 4 2, .dat (.sl Kl) kT], [(4, .buf 53 Ln lT [])]⟩
  | _, _ => none
def KR17 : Kt := kOr 19 oldK KR16
theorem vc_new  (hvc :
 let c1 := ((300 : Int), (1 : Int));
 let c2 := (ByteArray.mk #[(120 : UInt8)], (0 : Int), (1 : Int), (1200 : Int), c1);
 let c3 := (ByteArray.mk #[(121 : UInt8)], (1 : Int), (0 : Int), (600 : Int), c1);
 let c4 := [c2, c3];
 let c5 := [(ByteArray.mk #[(122 : UInt8)], (0 : Int), (1 : Int), (600 : Int), (100 : Int), (1 : Int))];
 let c6 := D.nadd (2) (D.len c5);
 let c7 := D.app c4 c5;
 let c8 := [((0 : Int), [true, true, true, true, true, false, false], D.nil Int)];
 let c9 := [ByteArray.mk #[(99 : UInt8)]];
 let c10 := [ByteArray.mk #[(112 : UInt8)]];
 let c11 := ((0 : Int), (0 : Int), (8 : Int), (2 : Int), (10 : Int), D.nil ByteArray);
 let c12 := [(ByteArray.mk #[(97 : UInt8)], c11), (ByteArray.mk #[(98 : UInt8)], c11)];
 let c13 := [(ByteArray.mk #[(107 : UInt8)], (1020 : Int), (720 : Int))]; true = true ∧ (True → True ∧ 1 = 1 ∧ 0 = 0 ∧ D.len c4 = 2 ∧ 1 = 1 ∧ 1 = 1 ∧ 0 = 0 ∧
  D.len c4 = 2 ∧ D.nle (D.nmul c6 (56)) (140737488355328) ∧ D.nle c6 (9223372036854775807) ∧ 1 = 1 ∧ 1 = 1 ∧ 0 = 0 ∧ D.len c7 = c6 ∧ 1 = 1 ∧ 0 = 0 ∧ 1 = 1 ∧ 0 =
  0 ∧ D.len c7 = c6 ∧ 1 = 1 ∧ 0 = 0 ∧ c8 = c8 ∧ c9 = c9 ∧ c10 = c10 ∧ c12 = c12 ∧ D.len c7 = c6 ∧ c7 = c2 :: c3 :: c5 ∧ c13 = c13 ∧ True)) :
    evF (mkc KR17) noAnn 21 [] [] ⟨True, net cT nT oT fT lT2 kT, []⟩ := @of_eq _ _ (by kernel_rfl) hvc
theorem vc_plan (l : Int) (hvc :
 let c1 := [[(-1 : Int), l], [(1 : Int), (-1 : Int)]]; true = true ∧ (True → 1 = 1 ∧ 0 = 0 ∧ 1 = 1 ∧ 0 = 0 ∧ (0 : Int) = (0 : Int) ∧ (0 : Int) = (0 : Int) ∧ c1 =
  c1 ∧ D.nil (List (List Int)) = D.nil (List (List Int)) ∧ True)) :
    evF (mkc KR16) noAnn 20 [.dat I l] [] ⟨True, .agg [.dat I 0, .dat I 0, .dat M [[-1, l], [1, -1]], .dat (.sl M) []], []⟩ := @of_eq _ _ (by kernel_rfl) hvc
def KR18 : Kt := kOr 19 (dataK [] (fun _ => True) fun _ => net cT nT oT fT lT kT) <|
  kOr 21 (dataK [] (fun _ => True) fun _ => net cT nT oT fT lT2 kT) <|
  kOr 20 (dataK [.val I] (fun _ => True) fun (l, _) => .agg [.dat I 0, .dat I 0, .dat M [[-1, l], [1, -1]], .dat (.sl M) []]) <|
  kOr 11 (dataK [.row N, .row Pl, .row N, .row Pl] (fun _ => True) fun (n, p, m, q, _) => .dat .bool (luF n m p.2.2.1 q.2.2.1)) KR16
theorem vc_thead  (hvc :
 let c1 := [((0 : Int), [true, true, true, true, true, false, false], D.nil Int)];
 let c2 := [ByteArray.mk #[(99 : UInt8)]];
 let c3 := [ByteArray.mk #[(112 : UInt8)]];
 let c4 := ((0 : Int), (0 : Int), (8 : Int), (2 : Int), (10 : Int), D.nil ByteArray);
 let c5 := [(ByteArray.mk #[(97 : UInt8)], c4), (ByteArray.mk #[(98 : UInt8)], c4)];
 let c6 := ((300 : Int), (1 : Int));
 let c7 := (ByteArray.mk #[(120 : UInt8)], (0 : Int), (1 : Int), (1200 : Int), c6);
 let c8 := (ByteArray.mk #[(121 : UInt8)], (1 : Int), (0 : Int), (600 : Int), c6);
 let c9 := [(ByteArray.mk #[(107 : UInt8)], (1020 : Int), (720 : Int))];
 let c10 := (c1, c2, c3, c5, [c7, c8], c9);
 let c11 := [(-1 : Int)];
 let c12 := [(1 : Int) :: c11];
 let c13 := [(-1 : Int), (0 : Int)] :: c12;
 let c14 := (c1, c2, c3, c5, [c7, c8, (ByteArray.mk #[(122 : UInt8)], (0 : Int), (1 : Int), (600 : Int), (100 : Int), (1 : Int))], c9);
 let c15 := [(-1 : Int), (2 : Int)] :: c12;
 let c16 := (ByteArray.mk (D.nil UInt8).toArray, (0 : Int), (1 : Int), (0 : Int), (1020 : Int));
 let c17 := D.eq (placeE c10 c13 c16 (1200 : Int)) (0 : Int);
 let c18 := placeS c10 c13 c16 (1200 : Int);
 let c19 := D.cnd c17 (D.eq c18.fst (0 : Int)) false;
 let c20 := D.cnd c19 (D.eq c18.snd.fst (1020 : Int)) false;
 let c21 := D.cnd c20 (D.eq (placeE c10 c13 c16 (1201 : Int)) (0 : Int)) false;
 let c22 := placeS c10 c13 c16 (1201 : Int);
 let c23 := D.cnd c21 (D.eq c22.fst (1 : Int)) false;
 let c24 := D.cnd c23 (D.eq c22.snd.fst (1500 : Int)) false;
 let c25 := D.cnd c24 (D.eq (carryE c10 c14 c13 c15 (1100 : Int) c16) (0 : Int)) false;
 let c26 := carryL c10 c14 c13 c15 (1100 : Int) c16;
 let c27 := ((-1 : Int), (-1 : Int));
 let c28 := [((0 : Int), (1020 : Int), (2040 : Int), (2 : Int)), ((1 : Int), (2140 : Int), c27)];
 let c29 := D.cnd c25 (sameSt c26 c28) false;
 let c30 := D.cnd c29 (D.eq (carryE c10 c14 c13 c15 (1201 : Int) c16) (0 : Int)) false;
 let c31 := carryL c10 c14 c13 c15 (1201 : Int) c16;
 let c32 := D.cnd c30 (sameSt c31 [((0 : Int), (1020 : Int), (1200 : Int), (0 : Int)), ((1 : Int), (1500 : Int), c27)]) false;
 let c33 := D.cnd c32 (D.eq (carryE c10 c14 c13 c15 (500 : Int) c16) (0 : Int)) false;
 let c34 := carryL c10 c14 c13 c15 (500 : Int) c16;
 let c35 := D.cnd c33 (sameSt c34 c28) false;
 let c36 := D.cnd c35 (D.eq (safeE c10 c14 c13 c15 (0 : Int)) (0 : Int)) false;
 let c37 := ((-1 : Int) :: c11) :: c12;
 let c38 := D.cnd c36 (D.eq (safeE c10 c14 c13 c37 (0 : Int)) (170 : Int)) false;
 let c39 := [(-1 : Int), (1 : Int)] :: c12;
 let c40 := D.cnd c38 (D.eq (safeE c10 c14 c13 c39 (0 : Int)) (1 : Int)) false; true = true ∧ (True → 1 = 1 ∧ 0 = 0 ∧ True ∧ True ∧ 1 = 1 ∧ 0 = 0 ∧ netFits c10
  c13 ∧ True ∧ True ∧ 1 = 1 ∧ 0 = 0 ∧ netFits c10 c13 ∧ True ∧ True ∧ True ∧ True ∧ 1 = 1 ∧ 0 = 0 ∧ (netFits c10 c13 ∧ netFits c14 c15) ∧ True ∧ True ∧ True ∧
  True ∧ 1 = 1 ∧ 0 = 0 ∧ (netFits c10 c13 ∧ netFits c14 c15) ∧ True ∧ True ∧ True ∧ True ∧ 1 = 1 ∧ 0 = 0 ∧ (netFits c10 c13 ∧ netFits c14 c15) ∧ (c17 = true →
  c17 = true → c17 = true) ∧ (D.and true c17 = true → c17 = true) ∧ (c19 = true → c19 = true → c19 = true) ∧ (D.and true c19 = true → c19 = true) ∧ (c20 = true →
  c20 = true → c20 = true) ∧ (D.and true c20 = true → c20 = true) ∧ (c21 = true → c21 = true → c21 = true) ∧ (D.and true c21 = true → c21 = true) ∧ (c23 = true →
  c23 = true → c23 = true) ∧ (D.and true c23 = true → c23 = true) ∧ (c24 = true → c24 = true → c24 = true) ∧ (D.and true c24 = true → c24 = true) ∧ (c25 = true →
  c25 = true → c25 = true) ∧ (c25 = true → c25 = true → c25 = true) ∧ (c25 = true → sFits c26) ∧ (D.and true c25 = true → c25 = true) ∧ (c29 = true → c29 = true
  → c29 = true) ∧ (D.and true c29 = true → c29 = true) ∧ (c30 = true → c30 = true → c30 = true) ∧ (c30 = true → c30 = true → c30 = true) ∧ (c30 = true → c30 =
  true → c30 = true) ∧ (c30 = true → c30 = true → c30 = true) ∧ (c30 = true → sFits c31) ∧ (D.and true c30 = true → c30 = true) ∧ (c32 = true → c32 = true → c32
  = true) ∧ (D.and true c32 = true → c32 = true) ∧ (c33 = true → c33 = true → c33 = true) ∧ (c33 = true → c33 = true → c33 = true) ∧ (c33 = true → sFits c34) ∧
  (D.and true c33 = true → c33 = true) ∧ (c35 = true → True) ∧ (c35 = true → True) ∧ (c35 = true → True) ∧ (c35 = true → True) ∧ (c35 = true → c35 = true → c35 =
  true) ∧ (c35 = true → c35 = true → c35 = true) ∧ (c35 = true → c35 = true → c35 = true) ∧ (c35 = true → c35 = true → c35 = true) ∧ (c35 = true → netFits c10
  c13 ∧ netFits c14 c15) ∧ (c35 = true → c35 = true → c35 = true) ∧ (D.and true c35 = true → c35 = true) ∧ (c36 = true → True) ∧ (c36 = true → True) ∧ (c36 =
  true → True) ∧ (c36 = true → True) ∧ (c36 = true → c36 = true → c36 = true) ∧ (c36 = true → c36 = true → c36 = true) ∧ (c36 = true → c36 = true → c36 = true) ∧
  (c36 = true → c36 = true → c36 = true) ∧ (c36 = true → netFits c10 c13 ∧ netFits c14 c37) ∧ (c36 = true → c36 = true → c36 = true) ∧ (D.and true c36 = true →
  c36 = true) ∧ (c38 = true → True) ∧ (c38 = true → True) ∧ (c38 = true → True) ∧ (c38 = true → True) ∧ (c38 = true → c38 = true → c38 = true) ∧ (c38 = true →
  c38 = true → c38 = true) ∧ (c38 = true → c38 = true → c38 = true) ∧ (c38 = true → c38 = true → c38 = true) ∧ (c38 = true → netFits c10 c13 ∧ netFits c14 c39) ∧
  (c38 = true → c38 = true → c38 = true) ∧ (D.and true c38 = true → c38 = true) ∧ (c40 = true → True) ∧ (c40 = true → c40 = true → c40 = true) ∧ (c40 = true →
  True) ∧ (c40 = true → c40 = true → c40 = true) ∧ (c40 = true → c40 = true → c40 = true) ∧ (D.and true c40 = true → c40 = true) ∧ D.cnd c40 (D.eq (D.ilen
  (checkF c14)) (0 : Int)) false = true ∧ True)) :
    evF (mkc KR18) noAnn 10 [] [] ⟨True, .dat .bool true, []⟩ := @of_eq _ _ (by kernel_rfl) hvc
def e2 (x y : Int) (i : Nat) : Int := if i = 0 then x else if i = 1 then y else -1
theorem isDist_e2 {ls : List Line} {a : Nat} {x y : Int} (h1 : e2 x y a = 0) (h2 : -1 ≤ x) (h3 : -1 ≤ y) (h4 : ∀ l ∈ ls, 0 ≤ e2 x y (lFrom l).toNat → 0 ≤ e2 x y (lTo l).toNat ∧ e2 x y (lTo l).toNat ≤ e2 x y (lFrom l).toNat + lTravel l)
    (h5 : 0 ≠ a → 0 ≤ x → ∃ l ∈ ls, (lTo l).toNat = 0 ∧ 0 ≤ e2 x y (lFrom l).toNat ∧ x = e2 x y (lFrom l).toNat + lTravel l) (h6 : 1 ≠ a → 0 ≤ y → ∃ l ∈ ls, (lTo l).toNat = 1 ∧ 0 ≤ e2 x y (lFrom l).toNat ∧ y = e2 x y (lFrom l).toNat + lTravel l) : IsDist ls a (e2 x y) := by
  refine ⟨h1, fun b _ => ?_, h4, fun b _ hne h0 => ?_⟩
  · unfold e2; split
    · exact h2
    · split
      · exact h3
      · decide
  · by_cases e0 : b = 0
    · subst e0; exact h5 hne h0
    · by_cases e1 : b = 1
      · subst e1; exact h6 hne h0
      · exfalso; unfold e2 at h0; rw [if_neg e0, if_neg e1] at h0; exact absurd h0 (by decide)
theorem lT_ok : LinesOk 2 lT := ⟨by decide, fun l hl => by
  simp only [lT, List.mem_cons, List.not_mem_nil, or_false] at hl
  rcases hl with rfl | rfl <;> decide⟩
theorem lT2_ok : LinesOk 2 lT2 := ⟨by decide, fun l hl => by
  simp only [lT2, List.mem_cons, List.not_mem_nil, or_false] at hl
  rcases hl with rfl | rfl | rfl <;> decide⟩
theorem reach_two {ls : List Line} (ok : LinesOk 2 ls) {u v : Int} (hu : 0 < u) (hv : 0 < v) (h0 : IsDist ls 0 (e2 0 u)) (h1 : IsDist ls 1 (e2 v 0)) : reachTo 2 ls 2 = [] := by
  have c0 : ∀ {b : Nat}, b < 12 → cell (relaxedF ls) 0 b = e2 0 u b := fun hb => (relaxedF_dist ok (by decide)).unique ok h0 hb
  have c1 : ∀ {b : Nat}, b < 12 → cell (relaxedF ls) 1 b = e2 v 0 b := fun hb => (relaxedF_dist ok (by decide)).unique ok h1 hb
  have g0 : reach1 2 ls 0 = false := by
    show (decide (cell (relaxedF ls) 0 0 = -1) || (decide (cell (relaxedF ls) 1 0 = -1) || false)) = false
    rw [c0 (by decide), c1 (by decide)]
    show (decide ((0 : Int) = -1) || (decide (v = -1) || false)) = false
    rw [decide_eq_false (by omega), decide_eq_false (by omega)]; rfl
  have g1 : reach1 2 ls 1 = false := by
    show (decide (cell (relaxedF ls) 0 1 = -1) || (decide (cell (relaxedF ls) 1 1 = -1) || false)) = false
    rw [c0 (by decide), c1 (by decide)]
    show (decide (u = -1) || (decide ((0 : Int) = -1) || false)) = false
    rw [decide_eq_false (by omega), decide_eq_false (by omega)]; rfl
  show ([0, 1].filterMap fun b : Nat => if reach1 2 ls b then some (3, (b : Int), 111) else none) = []
  simp [g0, g1]
theorem reach_lT : reachTo 2 lT 2 = [] := reach_two lT_ok (u := 300) (v := 300) (by omega) (by omega)
  (isDist_e2 (by decide) (by decide) (by decide) (fun l hl => by
    simp only [lT, List.mem_cons, List.not_mem_nil, or_false] at hl
    rcases hl with rfl | rfl <;> decide) (fun h => (h rfl).elim) (fun _ _ => ⟨(⟨#[120]⟩, 0, 1, 1200, 300, 1), by simp [lT], by decide, by decide, by decide⟩))
  (isDist_e2 (by decide) (by decide) (by decide) (fun l hl => by
    simp only [lT, List.mem_cons, List.not_mem_nil, or_false] at hl
    rcases hl with rfl | rfl <;> decide) (fun _ _ => ⟨(⟨#[121]⟩, 1, 0, 600, 300, 1), by simp [lT], by decide, by decide, by decide⟩) (fun h => (h rfl).elim))
theorem reach_lT2 : reachTo 2 lT2 2 = [] := reach_two lT2_ok (u := 100) (v := 300) (by omega) (by omega)
  (isDist_e2 (by decide) (by decide) (by decide) (fun l hl => by
    simp only [lT2, List.mem_cons, List.not_mem_nil, or_false] at hl
    rcases hl with rfl | rfl | rfl <;> decide) (fun h => (h rfl).elim) (fun _ _ => ⟨(⟨#[122]⟩, 0, 1, 600, 100, 1), by simp [lT2], by decide, by decide, by decide⟩))
  (isDist_e2 (by decide) (by decide) (by decide) (fun l hl => by
    simp only [lT2, List.mem_cons, List.not_mem_nil, or_false] at hl
    rcases hl with rfl | rfl | rfl <;> decide) (fun _ _ => ⟨(⟨#[121]⟩, 1, 0, 600, 300, 1), by simp [lT2], by decide, by decide, by decide⟩) (fun h => (h rfl).elim))
abbrev nOld : Net := (cT, nT, oT, fT, lT, kT)
abbrev nNew : Net := (cT, nT, oT, fT, lT2, kT)
abbrev pT (l : Int) : List (List Int) := [[-1, l], [1, -1]]
abbrev xT : ByteArray × Int × Int × Int × Int := (⟨#[]⟩, 0, 1, 0, 1020)
theorem fOld : faultsF nOld = [] := by decide +kernel
theorem fNew : faultsF nNew = [] := by decide +kernel
theorem sOld : soundF nOld = true := by unfold soundF checkF; rw [if_pos (noF_iff.2 fOld)]; show (reachTo 2 lT 2).isEmpty = true; rw [reach_lT]; rfl
theorem sNew : soundF nNew = true := by unfold soundF checkF; rw [if_pos (noF_iff.2 fNew)]; show (reachTo 2 lT2 2).isEmpty = true; rw [reach_lT2]; rfl
theorem usOld : usF nOld (pT 0) = true := by unfold usF; rw [sOld, show tabF nOld (pT 0) = true by decide +kernel]; rfl
theorem usNew : usF nNew (pT 2) = true := by unfold usF; rw [sNew, show tabF nNew (pT 2) = true by decide +kernel]; rfl
theorem usNo : usF nNew (pT (-1)) = true := by unfold usF; rw [sNew, show tabF nNew (pT (-1)) = true by decide +kernel]; rfl
theorem usBad : usF nNew (pT 1) = false := by unfold usF; rw [show tabF nNew (pT 1) = false by decide +kernel, Bool.and_false]
theorem wOld : WayL nOld (pT 0) 0 1 1020 = [(0, 1020, 1200, 0), (1, 1500, -1, -1)] ∧ WayE nOld (pT 0) 0 1 1020 = 0 := by
  have hk : wayOk nOld (pT 0) 0 1 1020 = true := wayOk_iff.2 ⟨by decide, sOld, by decide +kernel⟩
  have h : wayN nOld (pT 0) 1 19 0 1020 = ([(0, 1020, 1200, 0), (1, 1500, -1, -1)], 0) := by decide +kernel
  unfold WayL WayE wayL wayE
  rw [if_pos hk, if_pos hk, h]; exact ⟨rfl, rfl⟩
theorem wNew {t : Int} {o : Int} {l : List Stop} (h0 : ((0 ≤ o ∧ o < 2) ∧ (0 ≤ (1 : Int) ∧ (1 : Int) < 2)) ∧ (0 ≤ t ∧ t ≤ 2000000)) (h : wayN nNew (pT 2) 1 19 o t = (l, 0)) : WayL nNew (pT 2) o 1 t = l ∧ WayE nNew (pT 2) o 1 t = 0 := by
  have hk : wayOk nNew (pT 2) o 1 t = true := wayOk_iff.2 ⟨h0, sNew, by decide +kernel⟩
  unfold WayL WayE wayL wayE
  rw [if_pos hk, if_pos hk, h]; exact ⟨rfl, rfl⟩
theorem pOld {t : Int} (ht : tim20 t = true) : postOk nOld xT t = true := by unfold postOk; rw [ht]; rfl
theorem plOld {t : Int} (ht : tim20 t = true) : placeE nOld (pT 0) xT t = 0 ∧ placeS nOld (pT 0) xT t = stopG [(0, 1020, 1200, 0), (1, 1500, -1, -1)] (sIdx t [(0, 1020, 1200, 0), (1, 1500, -1, -1)]) := by
  have h : placeE nOld (pT 0) xT t = 0 := by
    unfold placeE; rw [if_pos ⟨pOld ht, usOld⟩]; exact wOld.2
  refine ⟨h, ?_⟩
  unfold placeS; rw [if_pos h]
  show stopG (WayL nOld (pT 0) 0 1 1020) (sIdx t (WayL nOld (pT 0) 0 1 1020)) = _
  rw [wOld.1]
theorem ckOld {t : Int} (ht : tim20 t = true) : carOk nOld nNew (pT 0) (pT 2) t xT = true := by
  unfold carOk; rw [pOld ht, usOld, usNew]; decide +kernel
theorem cyOld {t : Int} (ht : tim20 t = true) {i : Nat} (hi : sIdx t [(0, 1020, 1200, 0), (1, 1500, -1, -1)] = i) {s : Stop} (hs : stopG [(0, 1020, 1200, 0), (1, 1500, -1, -1)] i = s) {r : List Stop} (h0 : ((0 ≤ s.1 ∧ s.1 < 2) ∧ (0 ≤ (1 : Int) ∧ (1 : Int) < 2)) ∧ (0 ≤ max s.2.1 t ∧ max s.2.1 t ≤ 2000000))
    (h : wayN nNew (pT 2) 1 19 s.1 (max s.2.1 t) = (r, 0)) : carryE nOld nNew (pT 0) (pT 2) t xT = 0 ∧ carryL nOld nNew (pT 0) (pT 2) t xT = setArr (([(0, 1020, 1200, 0), (1, 1500, -1, -1)] : List Stop).take i ++ r) i s.2.1 := by
  have eW : oldW nOld (pT 0) xT = [(0, 1020, 1200, 0), (1, 1500, -1, -1)] := wOld.1
  have eI : oldI nOld (pT 0) t xT = i := by unfold oldI; rw [eW]; exact hi
  have eS : oldS nOld (pT 0) t xT = s := by unfold oldS; rw [eW, eI]; exact hs
  have eT : newT nOld (pT 0) t xT = max s.2.1 t := by unfold newT; rw [eS]
  have nW := wNew h0 h
  have eL : newW nOld nNew (pT 0) (pT 2) t xT = r := by unfold newW; rw [eS, eT]; exact nW.1
  have eE : newE nOld nNew (pT 0) (pT 2) t xT = 0 := by unfold newE; rw [eS, eT]; exact nW.2
  have hE : carryE nOld nNew (pT 0) (pT 2) t xT = 0 := by
    unfold carryE; rw [if_pos (ckOld ht), if_pos wOld.2]; exact eE
  refine ⟨hE, ?_⟩
  unfold carryL; rw [if_pos hE, eW, eI, eL, eS, Int.toNat_natCast]
theorem sfOld {l : Int} (h : usF nNew (pT l) = true) : safeOk nOld nNew (pT 0) (pT l) 0 = true := by
  unfold safeOk; rw [usOld, h]; decide +kernel
theorem t_old : SoundC Tryz.prog G0 19 [] [] ⟨True, net cT nT oT fT lT kT, []⟩ :=
  sound_of_ev (c := mkc KR16) KSR16 KI0s hm (vc_old ⟨rfl, fun _ => by and_intros <;> first | rfl | trivial⟩)
theorem t_oldB : SoundC Tryz.prog G0 19 [] [] ⟨True, .agg [.dat (.sl C) cT, .dat (.sl S) nT, .dat (.sl S) oT, .dat (.sl Of) fT, .buf 4 2, .dat (.sl Kl) kT], [(4, .buf 53 Ln lT [])]⟩ :=
  sound_of_ev (c := { mkc KR16 with mb := fun t => t == 19 }) KSR16 KI0s hm (vc_oldB ⟨rfl, fun _ => by and_intros <;> first | rfl | trivial⟩)
theorem oldK_ok : ∀ args m c, oldK args m = some c → SoundC Tryz.prog G0 19 args m c := by
  intro args m c h
  unfold oldK at h
  split at h
  · cases h; exact t_oldB
  · cases h
theorem KSR17 : KSound Tryz.prog G0 KR17 := kOr_ok oldK_ok KSR16
theorem t_new : SoundC Tryz.prog G0 21 [] [] ⟨True, net cT nT oT fT lT2 kT, []⟩ :=
  sound_of_ev (c := mkc KR17) KSR17 KI0s hm (vc_new ⟨rfl, fun _ => by and_intros <;> first | with_reducible rfl | trivial | rfl | decide⟩)
theorem t_plan (l : Int) : SoundC Tryz.prog G0 20 [.dat I l] [] ⟨True, .agg [.dat I 0, .dat I 0, .dat M [[-1, l], [1, -1]], .dat (.sl M) []], []⟩ :=
  sound_of_ev (c := mkc KR16) KSR16 KI0s hm (vc_plan l ⟨rfl, fun _ => by and_intros <;> first | rfl | trivial⟩)
theorem KSR18 : KSound Tryz.prog G0 KR18 := kOr_ok (dataK_ok fun _ => t_old) <| kOr_ok (dataK_ok fun _ => t_new) <| kOr_ok (dataK_ok fun (l, _) => t_plan l) <| kOr_ok (dataK_ok fun ((cs, ns, os, fs, ls, ks), (p1, p2, nx, dy), (cs2, ns2, os2, gs, hs, ks2), (q1, q2, mx, dz), _) => t_lus p1 p2 nx dy cs ns os fs ls ks q1 q2 mx dz cs2 ns2 os2 gs hs ks2) KSR16
theorem t_thead : SoundC Tryz.prog G0 10 [] [] ⟨True, .dat .bool true, []⟩ := by
  refine sound_of_ev (c := mkc KR18) KSR18 KI0s hm (vc_thead ?_)
  intro c1 c2 c3 c4 c5 c6 c7 c8 c9 c10 c11 c12 c13 c14 c15 c16 c17 c18 c19 c20 c21 c22 c23 c24 c25 c26 c27 c28 c29 c30 c31 c32 c33 c34 c35 c36 c37 c38 c39 c40
  have a1 := plOld (t := 1200) (by decide)
  have a2 := plOld (t := 1201) (by decide)
  have b1 := cyOld (t := 1100) (by decide) (i := 0) (by decide +kernel) (s := (0, 1020, 1200, 0)) rfl (r := [(0, 1100, 2040, 2), (1, 2140, -1, -1)]) (by decide) (by decide +kernel)
  have b2 := cyOld (t := 1201) (by decide) (i := 1) (by decide +kernel) (s := (1, 1500, -1, -1)) rfl (r := [(1, 1500, -1, -1)]) (by decide) (by decide +kernel)
  have b3 := cyOld (t := 500) (by decide) (i := 0) (by decide +kernel) (s := (0, 1020, 1200, 0)) rfl (r := [(0, 1020, 2040, 2), (1, 2140, -1, -1)]) (by decide) (by decide +kernel)
  have s1 : safeE nOld nNew (pT 0) (pT 2) 0 = 0 := by unfold safeE; rw [if_pos (sfOld usNew), if_pos (by decide +kernel)]
  have s2 : safeE nOld nNew (pT 0) (pT (-1)) 0 = 170 := by unfold safeE; rw [if_pos (sfOld usNo), if_neg (by decide +kernel)]
  have s3 : safeE nOld nNew (pT 0) (pT 1) 0 = 1 := by
    have : safeOk nOld nNew (pT 0) (pT 1) 0 = false := by unfold safeOk; rw [usBad, Bool.and_false]
    unfold safeE; rw [this]; rfl
  have e17 : c17 = true := by show D.eq (placeE nOld (pT 0) xT 1200) 0 = true; rw [a1.1]; rfl
  have e18 : c18 = (0, 1020, 1200, 0) := by show placeS nOld (pT 0) xT 1200 = _; rw [a1.2]; decide +kernel
  have e19 : c19 = true := by show D.cnd c17 (D.eq c18.1 0) false = true; rw [e17, e18]; rfl
  have e20 : c20 = true := by show D.cnd c19 (D.eq c18.2.1 1020) false = true; rw [e19, e18]; rfl
  have e21 : c21 = true := by show D.cnd c20 (D.eq (placeE nOld (pT 0) xT 1201) 0) false = true; rw [e20, a2.1]; rfl
  have e22 : c22 = (1, 1500, -1, -1) := by show placeS nOld (pT 0) xT 1201 = _; rw [a2.2]; decide +kernel
  have e23 : c23 = true := by show D.cnd c21 (D.eq c22.1 1) false = true; rw [e21, e22]; rfl
  have e24 : c24 = true := by show D.cnd c23 (D.eq c22.2.1 1500) false = true; rw [e23, e22]; rfl
  have e25 : c25 = true := by show D.cnd c24 (D.eq (carryE nOld nNew (pT 0) (pT 2) 1100 xT) 0) false = true; rw [e24, b1.1]; rfl
  have e26 : c26 = [(0, 1020, 2040, 2), (1, 2140, -1, -1)] := by show carryL nOld nNew (pT 0) (pT 2) 1100 xT = _; rw [b1.2]; decide +kernel
  have e29 : c29 = true := by show D.cnd c25 (sameSt c26 [(0, 1020, 2040, 2), (1, 2140, -1, -1)]) false = true; rw [e25, e26]; decide +kernel
  have e30 : c30 = true := by show D.cnd c29 (D.eq (carryE nOld nNew (pT 0) (pT 2) 1201 xT) 0) false = true; rw [e29, b2.1]; rfl
  have e31 : c31 = [(0, 1020, 1200, 0), (1, 1500, -1, -1)] := by show carryL nOld nNew (pT 0) (pT 2) 1201 xT = _; rw [b2.2]; decide +kernel
  have e32 : c32 = true := by show D.cnd c30 (sameSt c31 [(0, 1020, 1200, 0), (1, 1500, -1, -1)]) false = true; rw [e30, e31]; decide +kernel
  have e33 : c33 = true := by show D.cnd c32 (D.eq (carryE nOld nNew (pT 0) (pT 2) 500 xT) 0) false = true; rw [e32, b3.1]; rfl
  have e34 : c34 = [(0, 1020, 2040, 2), (1, 2140, -1, -1)] := by show carryL nOld nNew (pT 0) (pT 2) 500 xT = _; rw [b3.2]; decide +kernel
  have e35 : c35 = true := by show D.cnd c33 (sameSt c34 [(0, 1020, 2040, 2), (1, 2140, -1, -1)]) false = true; rw [e33, e34]; decide +kernel
  have e36 : c36 = true := by show D.cnd c35 (D.eq (safeE nOld nNew (pT 0) (pT 2) 0) 0) false = true; rw [e35, s1]; rfl
  have e38 : c38 = true := by show D.cnd c36 (D.eq (safeE nOld nNew (pT 0) (pT (-1)) 0) 170) false = true; rw [e36, s2]; rfl
  have e40 : c40 = true := by show D.cnd c38 (D.eq (safeE nOld nNew (pT 0) (pT 1) 0) 1) false = true; rw [e38, s3]; rfl
  have e41 : D.cnd c40 (D.eq (D.ilen (checkF c14)) (0 : Int)) false = true := by
    have : checkF nNew = [] := List.isEmpty_iff.1 sNew
    show D.cnd c40 (D.eq (D.ilen (checkF nNew)) (0 : Int)) false = true; rw [e40, this]; rfl
  have nf : ∀ a b c d : Int, fitsM [[a, b], [c, d]] := fun a b c d => ⟨(by decide : (2 : Nat) ≤ 1000000), fun r hr => by
    simp only [List.mem_cons, List.not_mem_nil, or_false] at hr
    rcases hr with rfl | rfl <;> exact (by decide : (2 : Nat) ≤ 1000000)⟩
  have n1 : ∀ a : Int, netFits nOld (pT a) := fun a => ⟨(by decide : (2 : Nat) ≤ 1000000), nf _ _ _ _⟩
  have n2 : ∀ a : Int, netFits nNew (pT a) := fun a => ⟨(by decide : (2 : Nat) ≤ 1000000), nf _ _ _ _⟩
  have m1 : netFits c10 c13 := n1 0
  have m2 : netFits c14 c15 := n2 2
  have m3 : netFits c14 c37 := n2 (-1)
  have m4 : netFits c14 c39 := n2 1
  have q26 : sFits c26 := by rw [e26]; exact (by decide : (2 : Nat) ≤ 1000000)
  have q31 : sFits c31 := by rw [e31]; exact (by decide : (2 : Nat) ≤ 1000000)
  have q34 : sFits c34 := by rw [e34]; exact (by decide : (2 : Nat) ≤ 1000000)
  clear_value c40 c39 c38 c37 c36 c35 c34 c33 c32 c31 c30 c29 c28 c26 c25 c24 c23 c22 c21 c20 c19 c18 c17 c16 c15 c14 c13 c10
  subst e17 e19 e20 e21 e23 e24 e25 e29 e30 e32 e33 e35 e36 e38 e40
  generalize netFits c10 c13 = N1 at m1 ⊢
  generalize netFits c14 c15 = N2 at m2 ⊢
  generalize netFits c14 c37 = N3 at m3 ⊢
  generalize netFits c14 c39 = N4 at m4 ⊢
  refine ⟨rfl, fun _ => ?_⟩
  and_intros
  all_goals first
    | exact trivial
    | with_reducible rfl
    | exact m1
    | exact m2
    | exact e41
    | exact fun _ => q26
    | exact fun _ => q31
    | exact fun _ => q34
    | exact fun _ => trivial
    | exact fun _ => ⟨m1, m2⟩
    | exact fun _ => ⟨m1, m3⟩
    | exact fun _ => ⟨m1, m4⟩
    | exact fun _ _ => rfl
    | exact fun _ => rfl
end Go.Eng.Sv
