/- ETJ -/
import Derived.Test.YtecnnbcfgijddaaGreatDoorRows
import Derived.JoinedCond
import Derived.SevenTiedAt
import Derived.LaidMore
import Derived.ProofKit
set_option linter.unusedSimpArgs false
set_option linter.unusedVariables false
namespace Go.Proofs.YtecnnbcfgijddaaGreatDoor.topPromised
open Go Go.ChangeShapes Go.WideShapes Go.ChangeAt Go.RowKit
set_option maxRecDepth 100000
theorem n9:Tryz.pinned.checked.prog.funcNamed Rows.topPromisedRow.func=some 4:=by kernel_rfl
theorem j9:joinedFacts Tryz.pinned.checked.prog 4 Tryz.f4 Rows.topPromisedSpec Rows.topPromisedRow=true:=by kernel_rfl
theorem i9:Tryz.f4.isInstance Tryz.pinned.checked.prog Rows.topPromisedRow.origin Rows.topPromisedRow.targs:=of_decide_eq_true (by kernel_rfl)
theorem w9:Tryz.f4.isWrapper Tryz.pinned.checked.prog Rows.topPromisedRow.wrapper Rows.topPromisedRow.mainSum:=by unfold Func.isWrapper;first|(rw[if_pos (by decide +kernel)];kernel_rfl)|(rw[if_neg (by decide +kernel)];exact⟨rfl,rfl⟩)
end Go.Proofs.YtecnnbcfgijddaaGreatDoor.topPromised
