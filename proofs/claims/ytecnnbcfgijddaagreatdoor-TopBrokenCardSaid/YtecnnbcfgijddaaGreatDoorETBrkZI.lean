/- Wr5p -/
import Derived.Test.YtecnnbcfgijddaaGreatDoorETBrkZC
import Derived.Test.YtecnnbcfgijddaaGreatDoorETBrkZH
set_option linter.unusedSimpArgs false
set_option linter.unusedVariables false
set_option maxRecDepth 100000
namespace Go.Eng.Sv
open Go.Proofs
noncomputable def l2:List (FuncId×List AV×AV):=(18,[zA,.dat I (0:Int),.dat I (5:Int)],.tup [zP,.agg [.dat R zC,.dat I (36743:Int)],.dat I (0:Int)])::l0
theorem Qh:aj Tryz.prog G0 6 [] [] ⟨True,.dat .bool true,[]⟩:=
 Bi (c:=mkc (knK l2 KY1)) (cn:=cnZ) (how:=λ_ _=>some {}) (YJ (pY Sj RX) aD0) tC hm rfl (by kernel_rfl)
end Go.Eng.Sv
