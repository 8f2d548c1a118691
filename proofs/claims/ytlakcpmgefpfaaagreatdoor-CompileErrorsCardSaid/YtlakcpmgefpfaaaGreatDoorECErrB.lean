/- PeECK -/
import Derived.Test.YtlakcpmgefpfaaaGreatDoorRows
import Derived.JoinedCond
import Derived.SevenTiedAt
import Derived.LaidMore
import Derived.ProofKit
set_option linter.all false
namespace Go.Proofs.YtlakcpmgefpfaaaGreatDoor.compileErrors
open Go Go.ChangeShapes Go.WideShapes Go.ChangeAt Go.RowKit
theorem m9: Tryz.pinned.checked.prog.mainIs=some (true, "6c010faa3433c819d2cfc3b11268bd8050d496e0cd10985083fc1a8a324e33fb".toList):=by kernel_rfl
theorem g9: false=Rows.compileErrorsRow.goesBy Tryz.pinned.checked.prog:=by kernel_rfl
theorem h9: ∀f fn,Tryz.pinned.checked.prog.funcNamed Rows.compileErrorsRow.func=some f->Tryz.pinned.checked.prog.funcs[f]?=some fn->true=Tryz.pinned.checked.prog.looks []/\∀(j:Nat) t,fn.params[j]?=some t->Tryz.pinned.checked.prog.wantsStandIn t=false:=
  (λf fn hf hfn=>by
   obtain rfl:f=5:=Option.some.inj ((show Tryz.prog.funcNamed "postilion/postilionlaw21.CompileErrors" = some 5 by kernel_rfl).symm.trans hf) |>.symm
   obtain rfl:fn=Tryz.f5:=(Option.some.inj (Tryz.func5.symm.trans hfn)).symm;exact⟨by kernel_rfl,λj t ht=>by
    rw[show Tryz.f5.params=#[29,3,3] by kernel_rfl]at ht;have hm:t∈[29,3,3]:=by simpa using Array.mem_of_getElem? ht
    have hall:([29,3,3].all λu=>!Tryz.prog.wantsStandIn u)=true:=by kernel_rfl
    exact(show Tryz.prog.wantsStandIn t=false by simpa using List.all_eq_true.1 hall t hm)⟩)
end Go.Proofs.YtlakcpmgefpfaaaGreatDoor.compileErrors
