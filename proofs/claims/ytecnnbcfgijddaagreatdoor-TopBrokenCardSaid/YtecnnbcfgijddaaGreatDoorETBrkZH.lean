/- Cl4p -/
import Derived.Test.YtecnnbcfgijddaaGreatDoorETBrkZE
import Derived.Test.YtecnnbcfgijddaaGreatDoorETBrkZG
set_option linter.unusedSimpArgs false
set_option linter.unusedVariables false
set_option maxRecDepth 100000
namespace Go.Eng.Sv
open Go.Proofs
noncomputable def l1:List (FuncId×List AV×AV):=(120,[zA,.dat I (0:Int),.dat I (7200:Int)],.dat M zNx)::(124,[zA,.dat M zNx,.dat I (0:Int),.dat I (5:Int)],.dat (.sl M) zDy)::(125,[zA,zP],.tup [.agg [.dat R zC,.dat I (36743:Int)],.dat I (0:Int)])::l0
theorem aFc:knP Tryz.prog G0 l1:=pY aCC (pY aAf (pY aAe RX))
theorem Sj:aj Tryz.prog G0 18 [zA,.dat I (0:Int),.dat I (5:Int)] [] ⟨True,.tup [zP,.agg [.dat R zC,.dat I (36743:Int)],.dat I (0:Int)],[]⟩:=known aFc (by kernel_rfl)
end Go.Eng.Sv
