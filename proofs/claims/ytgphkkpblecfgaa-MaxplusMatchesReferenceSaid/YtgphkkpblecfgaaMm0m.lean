/- PeMm0m -/
import Derived.Test.YtgphkkpblecfgaaY22
import Derived.Test.YtgphkkpblecfgaaChecked
set_option linter.unusedSimpArgs false
set_option linter.unusedVariables false
set_option maxRecDepth 100000
namespace Go.Eng.Sv
open Go.Proofs

abbrev I : Ty := .int .i64
abbrev R : Ty := .sl I
abbrev M : Ty := .sl R
noncomputable def K0 : Kt := fun _ _ _ => none
noncomputable def G0 : List (Nat × AV) := []
noncomputable def KI0 : FuncId → List AV → Option IRes := fun _ _ => none
noncomputable def mkc (K : Kt) : Cfg := ⟨Try.prog, G0, K, fun _ => false, KI0, false, fun _ _ => none, fun _ => false⟩
theorem cnd_or (x y : Bool) : D.cnd x true y = (x || y) := by cases x <;> rfl
theorem cnd_and (x y : Bool) : D.cnd x y false = (x && y) := by cases x <;> rfl
theorem in_small {x : Int} (h : -1000000000000 ≤ x ∧ x ≤ 1000000000000) : inR .i64 x := by unfold inR; simp only; omega
theorem hm : Try.prog.follows .mixedOrders = true := by kernel_rfl
theorem KI0s : KISound Try.prog G0 KI0 := fun f args c h => by cases h
end Go.Eng.Sv
