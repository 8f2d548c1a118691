/- ETK -/
import Derived.Test.YtecnnbcfgijddaaGreatDoorRows
import Derived.JoinedCond
import Derived.SevenTiedAt
import Derived.LaidMore
import Derived.ProofKit
set_option linter.unusedSimpArgs false
set_option linter.unusedVariables false
namespace Go.Proofs.YtecnnbcfgijddaaGreatDoor.topBroken
open Go Go.ChangeShapes Go.WideShapes Go.ChangeAt Go.RowKit
theorem m9:Tryz.pinned.checked.prog.mainIs=some (true, "b287e206479245ec50e5d47adfb2f10e8d782965ae80960af0fcf265a6ef697e".toList):=by kernel_rfl
theorem g9:false=Rows.topBrokenRow.goesBy Tryz.pinned.checked.prog:=by kernel_rfl
theorem h9:∀f fn,Tryz.pinned.checked.prog.funcNamed Rows.topBrokenRow.func=some f->Tryz.pinned.checked.prog.funcs[f]?=some fn->true=Tryz.pinned.checked.prog.looks []/\∀(j:Nat) t,fn.params[j]?=some t->Tryz.pinned.checked.prog.wantsStandIn t=false:=
  (λf fn hf hfn=>by
   obtain rfl:f=3:=Option.some.inj ((show Tryz.prog.funcNamed "postilion/postiliontop.TopBroken" = some 3 by kernel_rfl).symm.trans hf) |>.symm
   obtain rfl:fn=Tryz.f3:=(Option.some.inj (Tryz.func3.symm.trans hfn)).symm;exact⟨by kernel_rfl,λj t ht=>by
    rw[show Tryz.f3.params=#[29,30,31] by kernel_rfl]at ht;have hm:t∈[29,30,31]:=by simpa using Array.mem_of_getElem? ht
    have hall:([29,30,31].all λu=>!Tryz.prog.wantsStandIn u)=true:=by kernel_rfl
    exact(show Tryz.prog.wantsStandIn t=false by simpa using List.all_eq_true.1 hall t hm)⟩)
end Go.Proofs.YtecnnbcfgijddaaGreatDoor.topBroken
