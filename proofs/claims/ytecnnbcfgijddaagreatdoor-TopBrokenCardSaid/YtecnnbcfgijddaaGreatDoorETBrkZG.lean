/- Cl3p -/
import Derived.Test.YtecnnbcfgijddaaGreatDoorETBrkZF
set_option linter.unusedSimpArgs false
set_option linter.unusedVariables false
set_option maxRecDepth 100000
noncomputable section
namespace Go.Eng.Sv
open Go.Proofs
def cw9:Cfg:={cB l0 with K:=kk9 [(0,0,xa9,xa9),(0,1,xa9,xb9),(1,0,xb9,zC),(1,1,zC,zC)] (knK l0 KB)}
theorem co9:ay Tryz.prog G0 cw9.K:=ko9 (by
 simp only[List.mem_cons,List.not_mem_nil,or_false];rintro q (rfl|rfl|rfl|rfl);exact k19;exact k29;exact k39;exact k49) (YJ RX aFQ)
theorem aAe:aj Tryz.prog G0 125 [zA,zP] [] ⟨True,.tup [.agg [.dat R zC,.dat I (36743:Int)],.dat I (0:Int)],[]⟩:=Bi (c:=cw9) (cn:=cnZ) (how:=aGw) co9 aDs hm rfl (by kernel_rfl)
end Go.Eng.Sv
