/- ItoaL -/
import Derived.Shelf.LaysM
import Derived.Shelf.Strconv.Itoa3
import Derived.Ground.NamesProg
import Derived.Test.YtecnnbcfgijddaaGreatDoorProg
set_option linter.unusedSimpArgs false
set_option linter.unusedVariables false
namespace Go.Proofs
open Go.Shelf
def Tryz.itoaA_ren:Go.Shelf.Ren:=⟨fun|171=>57|243=>114|246=>163|283=>221|284=>222|285=>223|286=>224|129=>263|317=>262|318=>264|319=>265|320=>266|337=>287|338=>288|n=>n,fun|3=>3|9=>9|2=>2|4=>4|171=>256|0=>0|53=>257|37=>183|5=>5|173=>260|212=>278|51=>279|20=>20|213=>280|46=>275|232=>299|233=>300|n=>n,fun|17=>1|18=>3|19=>4|n=>n⟩
theorem Tryz.itoaA:Go.Proofs.LaysM.n171 Tryz.prog Tryz.itoaA_ren:={
 mixed:=by kernel_rfl
 f129:=Tryz.func263.trans (congrArg some (by kernel_rfl))
 f171:=Tryz.func57.trans (congrArg some (by kernel_rfl))
 f243:=Tryz.func114.trans (congrArg some (by kernel_rfl))
 f246:=Tryz.func163.trans (congrArg some (by kernel_rfl))
 f283:=Tryz.func221.trans (congrArg some (by kernel_rfl))
 f284:=Tryz.func222.trans (congrArg some (by kernel_rfl))
 f285:=Tryz.func223.trans (congrArg some (by kernel_rfl))
 f286:=Tryz.func224.trans (congrArg some (by kernel_rfl))
 f317:=Tryz.func262.trans (congrArg some (by kernel_rfl))
 f318:=Tryz.func264.trans (congrArg some (by kernel_rfl))
 f319:=Tryz.func265.trans (congrArg some (by kernel_rfl))
 f320:=Tryz.func266.trans (congrArg some (by kernel_rfl))
 f337:=Tryz.func287.trans (congrArg some (by kernel_rfl))
 f338:=Tryz.func288.trans (congrArg some (by kernel_rfl))
 t0:=Tryz.underlying0
 a0:=Tryz.isAgg0
 z0:=Tryz.sizeOf0
 v0:=Tryz.zeroValue0
 t2:=Tryz.underlying2
 a2:=Tryz.isAgg2
 z2:=Tryz.sizeOf2
 v2:=Tryz.zeroValue2
 t3:=Tryz.underlying3
 a3:=Tryz.isAgg3
 z3:=Tryz.sizeOf3
 v3:=Tryz.zeroValue3
 t4:=Tryz.underlying4
 a4:=Tryz.isAgg4
 z4:=Tryz.sizeOf4
 v4:=Tryz.zeroValue4
 t5:=Tryz.underlying5
 a5:=Tryz.isAgg5
 z5:=Tryz.sizeOf5
 v5:=Tryz.zeroValue5
 t9:=Tryz.underlying9
 a9:=Tryz.isAgg9
 z9:=Tryz.sizeOf9
 v9:=Tryz.zeroValue9
 t20:=Tryz.underlying20
 a20:=Tryz.isAgg20
 z20:=Tryz.sizeOf20
 v20:=Tryz.zeroValue20
 t37:=Tryz.underlying183
 a37:=Tryz.isAgg183
 z37:=Tryz.sizeOf183
 v37:=Tryz.zeroValue183
 t46:=Tryz.underlying275
 a46:=Tryz.isAgg275
 z46:=Tryz.sizeOf275
 v46:=Tryz.zeroValue275
 t51:=Tryz.underlying279
 a51:=Tryz.isAgg279
 z51:=Tryz.sizeOf279
 v51:=Tryz.zeroValue279
 t53:=Tryz.underlying257
 a53:=Tryz.isAgg257
 z53:=Tryz.sizeOf257
 v53:=Tryz.zeroValue257
 t171:=Tryz.underlying256
 a171:=Tryz.isAgg256
 z171:=Tryz.sizeOf256
 v171:=Tryz.zeroValue256
 t173:=Tryz.underlying260
 a173:=Tryz.isAgg260
 z173:=Tryz.sizeOf260
 v173:=Tryz.zeroValue260
 t212:=Tryz.underlying278
 a212:=Tryz.isAgg278
 z212:=Tryz.sizeOf278
 v212:=Tryz.zeroValue278
 t213:=Tryz.underlying280
 a213:=Tryz.isAgg280
 z213:=Tryz.sizeOf280
 t232:=Tryz.underlying299
 a232:=Tryz.isAgg299
 z232:=Tryz.sizeOf299
 v232:=Tryz.zeroValue299
 t233:=Tryz.underlying300
 a233:=Tryz.isAgg300
 z233:=Tryz.sizeOf300
 v233:=Tryz.zeroValue300
 g17:=by kernel_rfl
 g18:=by kernel_rfl
 g19:=by kernel_rfl
 i0:=by kernel_rfl
 i2:=by kernel_rfl
 i3:=by kernel_rfl
 i4:=by kernel_rfl
 i5:=by kernel_rfl
 i9:=by kernel_rfl
 i20:=by kernel_rfl
 i37:=by kernel_rfl
 i46:=by kernel_rfl
 i51:=by kernel_rfl
 i53:=by kernel_rfl
 i171:=by kernel_rfl
 i173:=by kernel_rfl
 i212:=by kernel_rfl
 i232:=by kernel_rfl
 i233:=by kernel_rfl
 m17:=by kernel_rfl
 m18:=by kernel_rfl
 m19:=by kernel_rfl}
end Go.Proofs
