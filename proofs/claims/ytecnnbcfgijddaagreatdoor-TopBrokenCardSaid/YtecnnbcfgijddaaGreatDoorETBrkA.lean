/- ETJ -/
import Derived.Test.YtecnnbcfgijddaaGreatDoorRows
import Derived.JoinedCond
import Derived.SevenTiedAt
import Derived.LaidMore
import Derived.ProofKit
set_option linter.unusedSimpArgs false
set_option linter.unusedVariables false
namespace Go.Proofs.YtecnnbcfgijddaaGreatDoor.topBroken
open Go Go.ChangeShapes Go.WideShapes Go.ChangeAt Go.RowKit
set_option maxRecDepth 100000
theorem n9:Tryz.pinned.checked.prog.funcNamed Rows.topBrokenRow.func=some 3:=by kernel_rfl
theorem j9:joinedFacts Tryz.pinned.checked.prog 3 Tryz.f3 Rows.topBrokenSpec Rows.topBrokenRow=true:=by kernel_rfl
theorem i9:Tryz.f3.isInstance Tryz.pinned.checked.prog Rows.topBrokenRow.origin Rows.topBrokenRow.targs:=of_decide_eq_true (by kernel_rfl)
theorem w9:Tryz.f3.isWrapper Tryz.pinned.checked.prog Rows.topBrokenRow.wrapper Rows.topBrokenRow.mainSum:=by unfold Func.isWrapper;first|(rw[if_pos (by decide +kernel)];kernel_rfl)|(rw[if_neg (by decide +kernel)];exact⟨rfl,rfl⟩)
end Go.Proofs.YtecnnbcfgijddaaGreatDoor.topBroken
