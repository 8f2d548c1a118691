/- PeRo1 for RoutingLines: what the Routing texts need of it. -/
import Derived.Test.YtejeaokbkbfgjaaGreatDoorX22
import Derived.Test.YtejeaokbkbfgjaaGreatDoorTt9z
set_option linter.unusedSimpArgs false
set_option linter.unusedVariables false
set_option maxRecDepth 100000
namespace Go.Eng.Sv
open Go.Proofs
noncomputable def KR6 : Kt := KT15
theorem KSR6 : KSound Tryz.prog G0 KR6 := KST15
theorem depart_of {n : Net} {l t u : Int} (hu : usableF n l [t] = true) (h : firstO n l t = some u) : departD n l t = u ∧ departE n l t = 0 := by
  unfold departD departE firstD firstB
  rw [if_pos hu, if_pos hu, h]; exact ⟨rfl, rfl⟩
theorem lineOf_fold (cs : List (Int × List Bool × List Int)) (ns os : List ByteArray) (fs : List Off) (ls : List Line) (ks : List Cla) (line : Int) : ls.getD line.toNat (⟨#[]⟩, 0, 0, 0, 0, 0) = lineOf (cs, ns, os, fs, ls, ks) line := rfl
theorem calF_fold (cs : List (Int × List Bool × List Int)) (ns os : List ByteArray) (fs : List Off) (ls : List Line) (ks : List Cla) (line : Int) : cs.getD (fs.getD (lineOf (cs, ns, os, fs, ls, ks) line).2.1.toNat (⟨#[]⟩, 0, 0, 0, 0, 0, [])).2.2.1.toNat (0, [], []) = calF (cs, ns, os, fs, ls, ks) line := rfl
theorem in_small' {x : Int} (h : -4000000000000 ≤ x ∧ x ≤ 4000000000000) : inR .i64 x := by unfold inR; simp only; omega
end Go.Eng.Sv
