/- CoL0p -/
import Derived.Shelf.SlGeneric
import Derived.Shelf.SlIterI.Nil
import Derived.Shelf.SortM.Plain
import Derived.Shelf.SortM.SortNone
import Derived.Ground.GgzProg
import Derived.Ground.SlgmProg
import Derived.Test.YtecnnbcfgijddaaGreatDoorProg
set_option linter.unusedSimpArgs false
set_option linter.unusedVariables false
namespace Go.Proofs
open Go.Shelf
def Tryz.keysA_ren:Go.Shelf.Ren:=⟨fun|7=>175|10=>233|n=>n,fun|23=>98|26=>3|3=>4|28=>89|0=>0|27=>88|33=>104|4=>4|n=>n,fun|n=>n⟩
theorem Tryz.keysA:Go.Proofs.SlLaysZI.n7 Tryz.prog Tryz.keysA_ren:={
 mixed:=by kernel_rfl
 f7:=⟨Tryz.f175.name,by decide,Tryz.func175.trans (congrArg some (by kernel_rfl))⟩
 f10:=⟨Tryz.f233.name,by decide,Tryz.func233.trans (congrArg some (by kernel_rfl))⟩
 t0:=Tryz.underlying0
 a0:=Tryz.isAgg0
 z0:=Tryz.sizeOf0
 v0:=Tryz.zeroValue0
 t4:=Tryz.underlying4
 a4:=Tryz.isAgg4
 z4:=Tryz.sizeOf4
 v4:=Tryz.zeroValue4
 t23:=Tryz.underlying98
 a23:=Tryz.isAgg98
 z23:=Tryz.sizeOf98
 v23:=Tryz.zeroValue98
 t26:=Tryz.underlying3
 a26:=Tryz.isAgg3
 z26:=Tryz.sizeOf3
 v26:=Tryz.zeroValue3
 t27:=Tryz.underlying88
 a27:=Tryz.isAgg88
 z27:=Tryz.sizeOf88
 v27:=Tryz.zeroValue88
 t28:=Tryz.underlying89
 a28:=Tryz.isAgg89
 z28:=Tryz.sizeOf89
 v28:=Tryz.zeroValue89
 t33:=Tryz.underlying104
 a33:=Tryz.isAgg104
 z33:=Tryz.sizeOf104
 v33:=Tryz.zeroValue104}
def Tryz.sortedA_ren:Go.Shelf.Ren:=⟨fun|6=>174|8=>231|9=>232|11=>275|13=>277|12=>276|23=>302|24=>263|14=>294|15=>295|16=>296|17=>297|18=>298|19=>299|20=>258|21=>300|22=>301|25=>305|26=>306|27=>307|28=>308|29=>309|30=>284|31=>310|n=>n,fun|26=>3|28=>89|24=>30|0=>0|3=>3|37=>275|48=>279|50=>257|4=>4|40=>294|39=>293|45=>71|5=>5|9=>9|51=>301|55=>305|57=>307|58=>146|33=>104|n=>n,fun|n=>n⟩
theorem Tryz.sortedA:Go.Proofs.SlLaysZI.n6 Tryz.prog Tryz.sortedA_ren:={
 mixed:=by kernel_rfl
 f6:=⟨Tryz.f174.name,by decide,Tryz.func174.trans (congrArg some (by kernel_rfl))⟩
 f8:=⟨Tryz.f231.name,by decide,Tryz.func231.trans (congrArg some (by kernel_rfl))⟩
 f11:=⟨Tryz.f275.name,by decide,Tryz.func275.trans (congrArg some (by kernel_rfl))⟩
 t0:=Tryz.underlying0
 a0:=Tryz.isAgg0
 z0:=Tryz.sizeOf0
 v0:=Tryz.zeroValue0
 t24:=Tryz.underlying30
 a24:=Tryz.isAgg30
 z24:=Tryz.sizeOf30
 v24:=Tryz.zeroValue30
 t26:=Tryz.underlying3
 a26:=Tryz.isAgg3
 z26:=Tryz.sizeOf3
 v26:=Tryz.zeroValue3
 t28:=Tryz.underlying89
 a28:=Tryz.isAgg89
 z28:=Tryz.sizeOf89
 v28:=Tryz.zeroValue89
 i26:=by kernel_rfl}
def Tryz.sortA_ren:Go.Shelf.Ren:=⟨fun|5=>232|8=>277|7=>276|19=>302|20=>263|10=>294|11=>295|12=>296|13=>297|14=>298|15=>299|16=>258|17=>300|18=>301|30=>305|31=>306|32=>307|33=>308|34=>309|35=>284|40=>310|n=>n,fun|23=>30|25=>3|3=>3|32=>275|22=>30|0=>0|44=>279|46=>257|4=>4|36=>294|35=>293|41=>71|5=>5|9=>9|53=>301|57=>305|63=>307|64=>146|n=>n,fun|n=>n⟩
theorem Tryz.sortA:Go.Proofs.SlLaysM.n5 Tryz.prog Tryz.sortA_ren:={
 mixed:=by kernel_rfl
 f5:=⟨Tryz.f232.name,by decide,Tryz.func232.trans (congrArg some (by kernel_rfl))⟩
 f7:=⟨Tryz.f276.name,by decide,Tryz.func276.trans (congrArg some (by kernel_rfl))⟩
 f8:=Tryz.func277.trans (congrArg some (by kernel_rfl))
 f10:=⟨Tryz.f294.name,by decide,Tryz.func294.trans (congrArg some (by kernel_rfl))⟩
 f11:=⟨Tryz.f295.name,by decide,Tryz.func295.trans (congrArg some (by kernel_rfl))⟩
 f12:=⟨Tryz.f296.name,by decide,Tryz.func296.trans (congrArg some (by kernel_rfl))⟩
 f13:=⟨Tryz.f297.name,by decide,Tryz.func297.trans (congrArg some (by kernel_rfl))⟩
 f14:=⟨Tryz.f298.name,by decide,Tryz.func298.trans (congrArg some (by kernel_rfl))⟩
 f15:=⟨Tryz.f299.name,by decide,Tryz.func299.trans (congrArg some (by kernel_rfl))⟩
 f16:=⟨Tryz.f258.name,by decide,Tryz.func258.trans (congrArg some (by kernel_rfl))⟩
 f17:=⟨Tryz.f300.name,by decide,Tryz.func300.trans (congrArg some (by kernel_rfl))⟩
 f18:=⟨Tryz.f301.name,by decide,Tryz.func301.trans (congrArg some (by kernel_rfl))⟩
 f19:=Tryz.func302.trans (congrArg some (by kernel_rfl))
 f20:=Tryz.func263.trans (congrArg some (by kernel_rfl))
 f30:=⟨Tryz.f305.name,by decide,Tryz.func305.trans (congrArg some (by kernel_rfl))⟩
 f31:=Tryz.func306.trans (congrArg some (by kernel_rfl))
 f32:=Tryz.func307.trans (congrArg some (by kernel_rfl))
 f33:=⟨Tryz.f308.name,by decide,Tryz.func308.trans (congrArg some (by kernel_rfl))⟩
 f34:=⟨Tryz.f309.name,by decide,Tryz.func309.trans (congrArg some (by kernel_rfl))⟩
 f35:=⟨Tryz.f284.name,by decide,Tryz.func284.trans (congrArg some (by kernel_rfl))⟩
 f40:=⟨Tryz.f310.name,by decide,Tryz.func310.trans (congrArg some (by kernel_rfl))⟩
 t0:=Tryz.underlying0
 a0:=Tryz.isAgg0
 z0:=Tryz.sizeOf0
 v0:=Tryz.zeroValue0
 t3:=Tryz.underlying3
 a3:=Tryz.isAgg3
 z3:=Tryz.sizeOf3
 v3:=Tryz.zeroValue3
 t4:=Tryz.underlying4
 a4:=Tryz.isAgg4
 z4:=Tryz.sizeOf4
 v4:=Tryz.zeroValue4
 t5:=Tryz.underlying5
 a5:=Tryz.isAgg5
 z5:=Tryz.sizeOf5
 v5:=Tryz.zeroValue5
 t9:=Tryz.underlying9
 a9:=Tryz.isAgg9
 z9:=Tryz.sizeOf9
 v9:=Tryz.zeroValue9
 t22:=Tryz.underlying30
 a22:=Tryz.isAgg30
 z22:=Tryz.sizeOf30
 v22:=Tryz.zeroValue30
 t23:=Tryz.underlying30
 a23:=Tryz.isAgg30
 z23:=Tryz.sizeOf30
 v23:=Tryz.zeroValue30
 t25:=Tryz.underlying3
 a25:=Tryz.isAgg3
 z25:=Tryz.sizeOf3
 v25:=Tryz.zeroValue3
 t32:=Tryz.underlying275
 a32:=Tryz.isAgg275
 z32:=Tryz.sizeOf275
 v32:=Tryz.zeroValue275
 t35:=Tryz.underlying293
 a35:=Tryz.isAgg293
 z35:=Tryz.sizeOf293
 v35:=Tryz.zeroValue293
 t36:=Tryz.underlying294
 a36:=Tryz.isAgg294
 z36:=Tryz.sizeOf294
 v36:=Tryz.zeroValue294
 t41:=Tryz.underlying71
 a41:=Tryz.isAgg71
 z41:=Tryz.sizeOf71
 v41:=Tryz.zeroValue71
 t44:=Tryz.underlying279
 a44:=Tryz.isAgg279
 z44:=Tryz.sizeOf279
 v44:=Tryz.zeroValue279
 t46:=Tryz.underlying257
 a46:=Tryz.isAgg257
 z46:=Tryz.sizeOf257
 v46:=Tryz.zeroValue257
 t53:=Tryz.underlying301
 a53:=Tryz.isAgg301
 z53:=Tryz.sizeOf301
 v53:=Tryz.zeroValue301
 t57:=Tryz.underlying305
 a57:=Tryz.isAgg305
 z57:=Tryz.sizeOf305
 v57:=Tryz.zeroValue305
 t63:=Tryz.underlying307
 a63:=Tryz.isAgg307
 z63:=Tryz.sizeOf307
 v63:=Tryz.zeroValue307
 t64:=Tryz.underlying146
 a64:=Tryz.isAgg146
 z64:=Tryz.sizeOf146
 v64:=Tryz.zeroValue146}
end Go.Proofs
