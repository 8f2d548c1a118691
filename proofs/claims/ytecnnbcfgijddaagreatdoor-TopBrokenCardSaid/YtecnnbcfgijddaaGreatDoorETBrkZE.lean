/- Cl2p -/
import Derived.Test.YtecnnbcfgijddaaGreatDoorETBrkZD
set_option linter.unusedSimpArgs false
set_option linter.unusedVariables false
set_option maxRecDepth 100000
namespace Go.Eng.Sv
open Go.Proofs
theorem aAf:aj Tryz.prog G0 124 [zA,.dat M zNx,.dat I (0:Int),.dat I (5:Int)] [] ⟨True,.dat (.sl M) zDy,[]⟩:=known RX (by kernel_rfl)
end Go.Eng.Sv
