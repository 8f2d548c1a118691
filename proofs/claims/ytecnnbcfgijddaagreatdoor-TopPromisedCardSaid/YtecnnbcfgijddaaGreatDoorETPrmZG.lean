/- Cl3p -/
import Derived.Test.YtecnnbcfgijddaaGreatDoorETPrmZF
set_option linter.unusedSimpArgs false
set_option linter.unusedVariables false
set_option maxRecDepth 100000
namespace Go.Eng.Sv
open Go.Proofs
noncomputable def cW9:Cfg:={cB l0 with K:=kpK [(0,0,xa9,xa9),(0,1,xa9,xb9),(1,0,xb9,zC),(1,1,zC,zC)] (knK l0 KB)}
theorem aDs:ay Tryz.prog G0 cW9.K:=aCV (by
 simp only[wY,List.not_mem_nil,or_false];rintro q (rfl|rfl|rfl|rfl);exact kp1;exact kp2;exact kp3;exact kp4) (LK Oz aBt)
theorem aAz:aj Tryz.prog G0 125 [zA,zP] [] ⟨True,.tup [.agg [.dat R zC,.dat I (36743:Int)],.dat I (0:Int)],[]⟩:=ru (c:=cW9) (cn:=cnZ) (how:=aD9) aDs UK hm rfl (by kernel_rfl)
end Go.Eng.Sv
