/- PeECMK -/
import Derived.Test.YtdeeijhmpjbfcaaGreatDoorRows
import Derived.Test.YtdeeijhmpjbfcaaGreatDoorCards
import Derived.JoinedCond
import Derived.LaidMore
import Derived.ProofKit
set_option linter.all false
namespace Go.Proofs.YtdeeijhmpjbfcaaGreatDoor.compileMatchesReference
open Go Go.ChangeShapes Go.WideShapes Go.ChangeAt Go.RowKit
set_option maxRecDepth 100000
theorem m9:Tryz.pinned.checked.prog.mainIs=some (true, "53aa0103cbbcb7a296f6b85500149012cca26a02781a64f9ff42a47ff35649d4".toList):=by kernel_rfl
theorem g9:false=Rows.compileMatchesReferenceRow.goesBy Tryz.pinned.checked.prog:=by kernel_rfl
theorem h9:∀f fn,Tryz.pinned.checked.prog.funcNamed Rows.compileMatchesReferenceRow.func=some f->Tryz.pinned.checked.prog.funcs[f]?=some fn->true=Tryz.pinned.checked.prog.looks []/\∀(j:Nat) t,fn.params[j]?=some t->Tryz.pinned.checked.prog.wantsStandIn t=false:=
  (λf fn hf hfn=>by
   obtain rfl:f=3:=Option.some.inj ((show Tryz.prog.funcNamed "postilion/postilionlaw21.CompileMatchesReference" = some 3 by kernel_rfl).symm.trans hf) |>.symm
   obtain rfl:fn=Tryz.f3:=(Option.some.inj (Tryz.func3.symm.trans hfn)).symm;exact⟨by kernel_rfl,λj t ht=>by
    rw[show Tryz.f3.params=#[29,3,3,33,3] by kernel_rfl]at ht;have hm:t∈[29,3,3,33,3]:=by simpa using Array.mem_of_getElem? ht
    have hall:([29,3,3,33,3].all λu=>!Tryz.prog.wantsStandIn u)=true:=by kernel_rfl
    exact(show Tryz.prog.wantsStandIn t=false by simpa using List.all_eq_true.1 hall t hm)⟩)
end Go.Proofs.YtdeeijhmpjbfcaaGreatDoor.compileMatchesReference
