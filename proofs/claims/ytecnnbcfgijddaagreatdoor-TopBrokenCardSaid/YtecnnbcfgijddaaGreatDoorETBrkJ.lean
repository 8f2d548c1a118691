/- PeCl3p -/
import Derived.Test.YtecnnbcfgijddaaGreatDoorETBrkH
set_option linter.all false
set_option maxRecDepth 100000
namespace Go.Eng.Sv
open Go.Proofs
def aAe:aj Tryz.prog G0 125 [zA,zP] [] ⟨True,.tup [.agg [.dat R zC,.dat I (36743:Int)],.dat I (0:Int)],[]⟩:=known RX (by kernel_rfl)
end Go.Eng.Sv
