/- PeECJ -/
import Derived.Test.YtlakcpmgefpfaaaGreatDoorRows
import Derived.JoinedCond
import Derived.SevenTiedAt
import Derived.LaidMore
import Derived.ProofKit
set_option linter.all false
namespace Go.Proofs.YtlakcpmgefpfaaaGreatDoor.compileErrors
open Go Go.ChangeShapes Go.WideShapes Go.ChangeAt Go.RowKit
set_option maxRecDepth 100000
theorem n9: Tryz.pinned.checked.prog.funcNamed Rows.compileErrorsRow.func=some 5:=by kernel_rfl
theorem j9: joinedFacts Tryz.pinned.checked.prog 5 Tryz.f5 Rows.compileErrorsSpec Rows.compileErrorsRow=true:=by kernel_rfl
theorem i9: Tryz.f5.isInstance Tryz.pinned.checked.prog Rows.compileErrorsRow.origin Rows.compileErrorsRow.targs:=of_decide_eq_true (by kernel_rfl)
theorem w9: Tryz.f5.isWrapper Tryz.pinned.checked.prog Rows.compileErrorsRow.wrapper Rows.compileErrorsRow.mainSum:=by unfold Func.isWrapper;first | (rw[if_pos (by decide +kernel)];kernel_rfl) | (rw[if_neg (by decide +kernel)];exact⟨rfl,rfl⟩)
end Go.Proofs.YtlakcpmgefpfaaaGreatDoor.compileErrors
