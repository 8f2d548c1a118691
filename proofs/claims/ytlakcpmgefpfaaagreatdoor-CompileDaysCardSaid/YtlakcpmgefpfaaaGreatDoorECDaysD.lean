/- PeCoL0 PeCoL1 PeIn1n PeInS PeIn2n PeSvT PeSvDist PeSv1n PeSv2n PeSv3n PeSv4n -/
import Derived.Test.YtlakcpmgefpfaaaGreatDoorECDaysA
import Derived.Test.YtlakcpmgefpfaaaGreatDoorECDaysB
import Derived.Test.YtlakcpmgefpfaaaGreatDoorECDaysC
import Derived.Shelf.SlGeneric
import Derived.Shelf.SlIterI.Nil
import Derived.Shelf.SortM.Plain
import Derived.Shelf.SortM.SortNone
import Derived.Ground.GgzProg
import Derived.Ground.SlgmProg
import Derived.Test.YtlakcpmgefpfaaaGreatDoorProg
import Derived.RangeFuncNested
import Derived.RangeFuncBound
import Derived.RangeFuncCalls
import Derived.RangeFuncLeaves
import Derived.RangeFuncWrites
import Derived.Shelf.Abstract
import Derived.Shelf.RegionOpen
import Derived.WalkKit
import Derived.OwnWalkIn
import Derived.TacticsInMore
import Derived.LoopNIn
import Derived.LoopIn
import Derived.Maps.OwnIn
import Derived.Test.YtlakcpmgefpfaaaGreatDoorChecked
set_option linter.unusedSimpArgs false
set_option linter.unusedVariables false
/-
 DERIVED: THE SHELF's CONTRACTS AT THIS DUMP,IN PLAIN WORDS (tools/lay-plain.mjs out of 'TryzLines.lean',which tools/lay-shelf.mjs wrote): THE SAME DECLARATIONS UNDER THE SAME NAMES: 'import','namespace','open','def','theorem' AND NOTHING ELSE: no command of the shelf's: FOR A HAND-IN. Each laying: the table of numbers ('.._ren') and one theorem,a field a fact of the dump's own or the kernel's comparison;each contract: ONE APPLICATION.
-/
namespace Go.Proofs
open Go.Shelf
def Tryz.keysA_ren:Go.Shelf.Ren:=⟨fun | 7=>112 | 10=>172 | n=>n,fun | 23=>165 | 26=>3 | 3=>4 | 28=>138 | 0=>0 | 27=>137 | 33=>143 | 4=>4 | n=>n,fun | n=>n⟩
theorem Tryz.keysA:Go.Proofs.SlLaysZI.n7 Tryz.prog Tryz.keysA_ren:={
 mixed:=by kernel_rfl
 f7:=⟨Tryz.f112.name,by decide,Tryz.func112.trans (congrArg some (by kernel_rfl))⟩
 f10:=⟨Tryz.f172.name,by decide,Tryz.func172.trans (congrArg some (by kernel_rfl))⟩
 t0:=Tryz.underlying0
 a0:=Tryz.isAgg0
 z0:=Tryz.sizeOf0
 v0:=Tryz.zeroValue0
 t4:=Tryz.underlying4
 a4:=Tryz.isAgg4
 z4:=Tryz.sizeOf4
 v4:=Tryz.zeroValue4
 t23:=Tryz.underlying165
 a23:=Tryz.isAgg165
 z23:=Tryz.sizeOf165
 v23:=Tryz.zeroValue165
 t26:=Tryz.underlying3
 a26:=Tryz.isAgg3
 z26:=Tryz.sizeOf3
 v26:=Tryz.zeroValue3
 t27:=Tryz.underlying137
 a27:=Tryz.isAgg137
 z27:=Tryz.sizeOf137
 v27:=Tryz.zeroValue137
 t28:=Tryz.underlying138
 a28:=Tryz.isAgg138
 z28:=Tryz.sizeOf138
 v28:=Tryz.zeroValue138
 t33:=Tryz.underlying143
 a33:=Tryz.isAgg143
 z33:=Tryz.sizeOf143
 v33:=Tryz.zeroValue143}
def Tryz.sortedA_ren:Go.Shelf.Ren:=⟨fun | 6=>111 | 8=>170 | 9=>171 | 11=>223 | 13=>225 | 12=>224 | 23=>276 | 24=>277 | 14=>268 | 15=>269 | 16=>270 | 17=>271 | 18=>272 | 19=>273 | 20=>258 | 21=>274 | 22=>275 | 25=>291 | 26=>292 | 27=>293 | 28=>294 | 29=>295 | 30=>287 | 31=>302 | n=>n,fun | 26=>3 | 28=>138 | 24=>36 | 0=>0 | 3=>3 | 37=>228 | 48=>255 | 50=>257 | 4=>4 | 40=>249 | 39=>248 | 45=>217 | 5=>5 | 9=>9 | 51=>260 | 55=>264 | 57=>266 | 58=>153 | 33=>143 | n=>n,fun | n=>n⟩
theorem Tryz.sortedA:Go.Proofs.SlLaysZI.n6 Tryz.prog Tryz.sortedA_ren:={
 mixed:=by kernel_rfl
 f6:=⟨Tryz.f111.name,by decide,Tryz.func111.trans (congrArg some (by kernel_rfl))⟩
 f8:=⟨Tryz.f170.name,by decide,Tryz.func170.trans (congrArg some (by kernel_rfl))⟩
 f11:=⟨Tryz.f223.name,by decide,Tryz.func223.trans (congrArg some (by kernel_rfl))⟩
 t0:=Tryz.underlying0
 a0:=Tryz.isAgg0
 z0:=Tryz.sizeOf0
 v0:=Tryz.zeroValue0
 t24:=Tryz.underlying36
 a24:=Tryz.isAgg36
 z24:=Tryz.sizeOf36
 v24:=Tryz.zeroValue36
 t26:=Tryz.underlying3
 a26:=Tryz.isAgg3
 z26:=Tryz.sizeOf3
 v26:=Tryz.zeroValue3
 t28:=Tryz.underlying138
 a28:=Tryz.isAgg138
 z28:=Tryz.sizeOf138
 v28:=Tryz.zeroValue138
 i26:=by kernel_rfl}
def Tryz.sortA_ren:Go.Shelf.Ren:=⟨fun | 5=>171 | 8=>225 | 7=>224 | 19=>276 | 20=>277 | 10=>268 | 11=>269 | 12=>270 | 13=>271 | 14=>272 | 15=>273 | 16=>258 | 17=>274 | 18=>275 | 30=>291 | 31=>292 | 32=>293 | 33=>294 | 34=>295 | 35=>287 | 40=>302 | n=>n,fun | 23=>36 | 25=>3 | 3=>3 | 32=>228 | 22=>36 | 0=>0 | 44=>255 | 46=>257 | 4=>4 | 36=>249 | 35=>248 | 41=>217 | 5=>5 | 9=>9 | 53=>260 | 57=>264 | 63=>266 | 64=>153 | n=>n,fun | n=>n⟩
theorem Tryz.sortA:Go.Proofs.SlLaysM.n5 Tryz.prog Tryz.sortA_ren:={
 mixed:=by kernel_rfl
 f5:=⟨Tryz.f171.name,by decide,Tryz.func171.trans (congrArg some (by kernel_rfl))⟩
 f7:=⟨Tryz.f224.name,by decide,Tryz.func224.trans (congrArg some (by kernel_rfl))⟩
 f8:=Tryz.func225.trans (congrArg some (by kernel_rfl))
 f10:=⟨Tryz.f268.name,by decide,Tryz.func268.trans (congrArg some (by kernel_rfl))⟩
 f11:=⟨Tryz.f269.name,by decide,Tryz.func269.trans (congrArg some (by kernel_rfl))⟩
 f12:=⟨Tryz.f270.name,by decide,Tryz.func270.trans (congrArg some (by kernel_rfl))⟩
 f13:=⟨Tryz.f271.name,by decide,Tryz.func271.trans (congrArg some (by kernel_rfl))⟩
 f14:=⟨Tryz.f272.name,by decide,Tryz.func272.trans (congrArg some (by kernel_rfl))⟩
 f15:=⟨Tryz.f273.name,by decide,Tryz.func273.trans (congrArg some (by kernel_rfl))⟩
 f16:=⟨Tryz.f258.name,by decide,Tryz.func258.trans (congrArg some (by kernel_rfl))⟩
 f17:=⟨Tryz.f274.name,by decide,Tryz.func274.trans (congrArg some (by kernel_rfl))⟩
 f18:=⟨Tryz.f275.name,by decide,Tryz.func275.trans (congrArg some (by kernel_rfl))⟩
 f19:=Tryz.func276.trans (congrArg some (by kernel_rfl))
 f20:=Tryz.func277.trans (congrArg some (by kernel_rfl))
 f30:=⟨Tryz.f291.name,by decide,Tryz.func291.trans (congrArg some (by kernel_rfl))⟩
 f31:=Tryz.func292.trans (congrArg some (by kernel_rfl))
 f32:=Tryz.func293.trans (congrArg some (by kernel_rfl))
 f33:=⟨Tryz.f294.name,by decide,Tryz.func294.trans (congrArg some (by kernel_rfl))⟩
 f34:=⟨Tryz.f295.name,by decide,Tryz.func295.trans (congrArg some (by kernel_rfl))⟩
 f35:=⟨Tryz.f287.name,by decide,Tryz.func287.trans (congrArg some (by kernel_rfl))⟩
 f40:=⟨Tryz.f302.name,by decide,Tryz.func302.trans (congrArg some (by kernel_rfl))⟩
 t0:=Tryz.underlying0
 a0:=Tryz.isAgg0
 z0:=Tryz.sizeOf0
 v0:=Tryz.zeroValue0
 t3:=Tryz.underlying3
 a3:=Tryz.isAgg3
 z3:=Tryz.sizeOf3
 v3:=Tryz.zeroValue3
 t4:=Tryz.underlying4
 a4:=Tryz.isAgg4
 z4:=Tryz.sizeOf4
 v4:=Tryz.zeroValue4
 t5:=Tryz.underlying5
 a5:=Tryz.isAgg5
 z5:=Tryz.sizeOf5
 v5:=Tryz.zeroValue5
 t9:=Tryz.underlying9
 a9:=Tryz.isAgg9
 z9:=Tryz.sizeOf9
 v9:=Tryz.zeroValue9
 t22:=Tryz.underlying36
 a22:=Tryz.isAgg36
 z22:=Tryz.sizeOf36
 v22:=Tryz.zeroValue36
 t23:=Tryz.underlying36
 a23:=Tryz.isAgg36
 z23:=Tryz.sizeOf36
 v23:=Tryz.zeroValue36
 t25:=Tryz.underlying3
 a25:=Tryz.isAgg3
 z25:=Tryz.sizeOf3
 v25:=Tryz.zeroValue3
 t32:=Tryz.underlying228
 a32:=Tryz.isAgg228
 z32:=Tryz.sizeOf228
 v32:=Tryz.zeroValue228
 t35:=Tryz.underlying248
 a35:=Tryz.isAgg248
 z35:=Tryz.sizeOf248
 v35:=Tryz.zeroValue248
 t36:=Tryz.underlying249
 a36:=Tryz.isAgg249
 z36:=Tryz.sizeOf249
 v36:=Tryz.zeroValue249
 t41:=Tryz.underlying217
 a41:=Tryz.isAgg217
 z41:=Tryz.sizeOf217
 v41:=Tryz.zeroValue217
 t44:=Tryz.underlying255
 a44:=Tryz.isAgg255
 z44:=Tryz.sizeOf255
 v44:=Tryz.zeroValue255
 t46:=Tryz.underlying257
 a46:=Tryz.isAgg257
 z46:=Tryz.sizeOf257
 v46:=Tryz.zeroValue257
 t53:=Tryz.underlying260
 a53:=Tryz.isAgg260
 z53:=Tryz.sizeOf260
 v53:=Tryz.zeroValue260
 t57:=Tryz.underlying264
 a57:=Tryz.isAgg264
 z57:=Tryz.sizeOf264
 v57:=Tryz.zeroValue264
 t63:=Tryz.underlying266
 a63:=Tryz.isAgg266
 z63:=Tryz.sizeOf266
 v63:=Tryz.zeroValue266
 t64:=Tryz.underlying153
 a64:=Tryz.isAgg153
 z64:=Tryz.sizeOf153
 v64:=Tryz.zeroValue153}
end Go.Proofs
namespace Go.Proofs
open Go.RowKit Go.Maps Go.Sort Go.Shelf
attribute [local go_sem] Oper.semAt_some
abbrev CoI:={x:Int // (Lit.int .i64 x).wf=true}
def bDs(zs:List Int)(hw:∀j:Nat,(Lit.int .i64 (zs[j]?.getD 0)).wf=true)(j:Nat): CoI:=⟨zs[j]?.getD 0,hw j⟩
def aBS(zs:List Int)(hw:∀j:Nat,(Lit.int .i64 (zs[j]?.getD 0)).wf=true)(o k:Nat): List CoI:=((List.range k).filter λj=>decide (j≠o)).map (bDs zs hw)
theorem aNd(zs:List Int)(hw:∀j:Nat,(Lit.int .i64 (zs[j]?.getD 0)).wf=true)(o k:Nat): (aBS zs hw o k).length<=k:=by
 unfold aBS;rw[List.length_map];exact Nat.le_trans (List.length_filter_le _ _) (by rw[List.length_range];exact Nat.le_refl _)
theorem aNe{zs:List Int}{hw:∀j:Nat,(Lit.int .i64 (zs[j]?.getD 0)).wf=true}{o k:Nat}(h:k≠o): aBS zs hw o (k+1)=aBS zs hw o k++[bDs zs hw k]:=by
 unfold aBS;rw[List.range_succ,List.filter_append,List.map_append,List.filter_cons,if_pos (by simp[h])]
 rfl
theorem aR6{zs:List Int}{hw:∀j:Nat,(Lit.int .i64 (zs[j]?.getD 0)).wf=true}{o k:Nat}(h:k=o): aBS zs hw o (k+1)=aBS zs hw o k:=by
 unfold aBS;rw[List.range_succ,List.filter_append,List.map_append,List.filter_cons,if_neg (by simp[h])]
 exact List.append_nil _
theorem bAd{zs:List Int}{hw:∀j:Nat,(Lit.int .i64 (zs[j]?.getD 0)).wf=true}{o k:Nat}(h:k<zs.length)(ho:k≠o): (aBS zs hw o k).length<(aBS zs hw o zs.length).length:=by
 have e:zs.length=k+1+(zs.length-(k+1)):=by omega
 have:aBS zs hw o (k+1) <+: aBS zs hw o zs.length:=by
  have g:∀m:Nat,aBS zs hw o (k+1) <+: aBS zs hw o (k+1+m):=λm=>by
   unfold aBS;rw[List.range_add (n:=k+1),List.filter_append,List.map_append];exact List.prefix_append _ _
  rw[e];exact g _
 have:=this.length_le;rw[aNe ho,List.length_append]at this;simp at this;omega
def aGs(n₀:Nat)(W:World)(B1 B2 o:Nat)(zs:List Int): Prop:=
 B1<n₀/\B2<n₀/\W.cell? ⟨B2,0,none⟩=some (.int .i64 o)/\∃(b1 o1 n1 c1:Nat) (a2:Option Addr) (c2:Nat),W.cell? ⟨B1,2,none⟩=some (.slice (some ⟨b1,o1,none⟩) n1 c1)/\o<n1/\b1<n₀/\
  W.cell? ⟨b1,o1+o,none⟩=some (.slice a2 zs.length c2)/\(zs.length=0\/∃b2 o2,a2=some ⟨b2,o2,none⟩/\b2<n₀/\∀j,j<zs.length->W.cell? ⟨b2,o2+j,none⟩=some (.int .i64 (zs[j]?.getD 0)))
theorem aGs.below {n₀:Nat} {A B:World} (h:Below n₀ A B) {B1 B2 o:Nat} {zs:List Int}:aGs n₀ A B1 B2 o zs->aGs n₀ B B1 B2 o zs:=by
 rintro⟨h1,h2,h3,b1,o1,n1,c1,a2,c2,h4,h5,h6,h7,h8⟩;refine⟨h1,h2,(h.cell (p:=⟨B2,0,none⟩) h2).trans h3,b1,o1,n1,c1,a2,c2,(h.cell (p:=⟨B1,2,none⟩) h1).trans h4,h5,h6,(h.cell (p:=⟨b1,o1+o,none⟩) h6).trans h7,?_⟩;rcases h8 with h8 | ⟨b2,o2,h8,h9,h10⟩
 .exact .inl h8
 .exact .inr ⟨b2,o2,h8,h9,λj hj=>(h.cell (p:=⟨b2,o2+j,none⟩) h9).trans (h10 j hj)⟩
theorem aGs.mono {n₀ n₁:Nat} (h:n₀<=n₁) {W:World} {B1 B2 o:Nat} {zs:List Int}:aGs n₀ W B1 B2 o zs->aGs n₁ W B1 B2 o zs:=by
 rintro⟨h1,h2,h3,b1,o1,n1,c1,a2,c2,h4,h5,h6,h7,h8⟩;refine⟨by omega,by omega,h3,b1,o1,n1,c1,a2,c2,h4,h5,by omega,h7,?_⟩
 rcases h8 with h8 | ⟨b2,o2,h8,h9,h10⟩
 .exact .inl h8
 .exact .inr ⟨b2,o2,h8,by omega,h10⟩
set_option maxRecDepth 100000 in
set_option maxHeartbeats 4000000 in
theorem aWa(n:Nat)(hn:1<=n)(l B1 B2 o n₀:Nat)(zs:List Int)(hw:∀j:Nat,(Lit.int .i64 (zs[j]?.getD 0)).wf=true)(hreach:zs.length<=1000000)(J Jx:List CoI->World->Prop)
  (hY:∀pre x W,J pre W->pre.length<(aBS zs hw o zs.length).length->YieldAt Fence.wide (n-1) Tryz.prog l #[.int .i64 x.1] W λe W' =>
   (e=.returned (.bool true)/\J (pre++[x]) W'/\Below n₀ W W')\/(e=.returned (.bool false)/\Jx (pre++[x]) W'))
  (W:World) (hR:aGs n₀ W B1 B2 o zs) (h0:J [] W):
  CallsIn Fence.wide n Tryz.prog 110 #[.func (.yield l) #[] #[],.pointer (some ⟨B1,0,none⟩),.pointer (some ⟨B2,0,none⟩)] W λe W'=>(∃v,e=.returned v)/\
   ((∃ys,ys=aBS zs hw o zs.length/\J ys W')\/(∃pre,True/\Jx pre W')):=by
 obtain⟨h1,h2,hO,b1,o1,n1,c1,a2,c2,hN,hon,hb1,hS,hZ⟩:=hR;refine callsIn_of_wp Tryz.func110 rfl trivial ?_ rfl;simp only[Tryz.ntmps110,List.size_toArray,List.length_cons,List.length_nil,Nat.reduceAdd,Nat.reduceSub,Array.replicate_succ,Array.replicate_zero,List.push_toArray,List.append_toArray,List.nil_append,List.cons_append];have ho63:(o:Int)<n1:=by omega
 gi_wp2
 gi_loopw [12] (λi wr=>∃k:Nat,k<=zs.length/\i=.int .i64 k/\J (aBS zs hw o k) wr/\Below n₀ W wr)
  (λi _=>zs.length-(intOf i).toNat)
 case atStart=>exact⟨0,Nat.zero_le _,rfl,h0,Below.refl _ _⟩
 case round=>
  obtain⟨k,hk,rfl,hJs,hnx⟩:=hrel;by_cases hlt:k<zs.length
  .rcases hZ with hZ | ⟨b2,o2,rfl,hb2,hZ⟩
   .omega
   have hcx':wr.cell? ⟨b2,o2+k,none⟩=some (.int .i64 (zs[k]?.getD 0)):=(hnx.cell (p:=⟨b2,o2+k,none⟩) hb2).trans (hZ k hlt);have hO':wr.cell? ⟨B2,0,none⟩=some (.int .i64 o):=(hnx.cell (p:=⟨B2,0,none⟩) h2).trans hO;by_cases hko:k=o
   .subst hko
    gi_wp2
    refine⟨λ_ h=>(by cases h),?_⟩
    gi_wp2
    go_roundw
    case rel=>exact⟨k+1,by omega,by simp,by rw[aR6 rfl];exact hJs,hnx⟩
    case measure=>simp[intOf];omega
   .obtain⟨fn,tmps,assign,body,hy,hR⟩:=hY _ (bDs zs hw k) wr hJs (bAd hlt hko);dsimp only[bDs]at hy;generalize hx:zs[k]?.getD 0=x at hcx' hy;have hne:((k:Int) != (o:Int))=true:=by rw[bne_iff_ne];omega
    gi_wp2
    refine hR.mono ?_;rintro e W3 (⟨rfl,hJ3,hk3⟩ | ⟨rfl,hJx3⟩)
    .gi_wp2
     go_roundw
     case rel=>exact⟨k+1,by omega,by simp,by rw[aNe hko];exact hJ3,hnx.trans hk3⟩
     case measure=>simp[intOf];omega
    .gi_wp2
     refine bodyPost_ret (results_none rfl _ _ _) rfl ?_;exact⟨⟨_,rfl⟩,.inr ⟨_,trivial,hJx3⟩⟩
  .obtain rfl:k=zs.length:=by omega
   gi_wp2
   go_end0
   exact⟨⟨_,rfl⟩,.inl ⟨_,rfl,hJs⟩⟩
theorem aV9(n:Nat)(hn:1<=n)(B1 B2 o n₀:Nat)(zs:List Int)(hw:∀j:Nat,(Lit.int .i64 (zs[j]?.getD 0)).wf=true)(hreach:zs.length<=1000000)(w:World)(hn₀:n₀<=w.heap.size)(hR:aGs n₀ w B1 B2 o zs):
  SeqStopsK Fence.wide n Tryz.prog 110 #[.pointer (some ⟨B1,0,none⟩),.pointer (some ⟨B2,0,none⟩)] (λx:CoI=>#[Value.int .i64 x.1]) (Below n₀) (λys=>ys=aBS zs hw o zs.length) (λ_=>True) (aBS zs hw o zs.length).length w:=λl J Jx W hW _ _ hY h0=>
 aWa n hn l B1 B2 o n₀ zs hw hreach J Jx hY W (hR.below (hW.mono hn₀)) h0
set_option maxHeartbeats 1000000 in
theorem bAc(n:Nat)(x:Int)(w:World): CallsIn Fence.wide n Tryz.prog 114 #[.int .i64 x] w λe w'=>e=.returned (.bool (x != -1))/\w'=w:=by
 refine callsIn_of_wp Tryz.func114 rfl trivial ?_ rfl;simp only[Tryz.ntmps114,List.size_toArray,List.length_cons,List.length_nil,Nat.reduceAdd,Nat.reduceSub,Array.replicate_succ,Array.replicate_zero,List.push_toArray,List.append_toArray,List.nil_append,List.cons_append]
 gi_wp2
 go_ret
 exact⟨rfl,rfl⟩
theorem cell_of_box_c{W:World}{B:Nat}{v:Value}{t:TypeId}(h:W.heap[B]?=some (.cells #[v] t (0,0))): W.cell? ⟨B,0,none⟩=some v/\W.frozen? ⟨B,0,none⟩=false:=by
 constructor<;>simp[World.cell?,World.frozen?,h]
theorem cell_new_c(W:World)(v:Value)(t:TypeId): (W.alloc (.cells #[v] t)).cell? ⟨W.heap.size,0,none⟩=some v/\(W.alloc (.cells #[v] t)).frozen? ⟨W.heap.size,0,none⟩=false:=
 cell_of_box_c (World.alloc_heap_new W _)
theorem cell_alloc_c{W:World}{a:Addr}{v:Value}(o:Obj)(h:W.cell? a=some v): (W.alloc o).cell? a=some v:=cell_kept h (World.grownBy_alloc W o none) (λr e=>by cases e)
def coD(xs:List CoI): DataW Unit:=xs.foldl (λD x=>if x.1=-1 then D else D.put (.int .i64 x.1) (.lit (.bool true))) (.map [])
theorem aNf(pre:List CoI)(x:CoI): coD (pre++[x])=if x.1=-1 then coD pre else(coD pre).put (.int .i64 x.1) (.lit (.bool true)):=by simp[coD]
set_option maxRecDepth 100000 in
set_option maxHeartbeats 4000000 in
theorem aOO(n:Nat)(hn:3<=n)(B1 B2 o:Nat)(zs:List Int)(hw:∀j:Nat,(Lit.int .i64 (zs[j]?.getD 0)).wf=true)(hreach:zs.length<=1000000)(w:World)(hR:aGs w.heap.size w B1 B2 o zs):
  CallsIn Fence.wide n Tryz.prog 113 #[.func (.func 110) #[] #[.pointer (some ⟨B1,0,none⟩),.pointer (some ⟨B2,0,none⟩)],.func (.func 114) #[] #[]] w λe W'=>e=.returned (.map (some (w.heap.size+1)))/\
   W'.ownsMap Tryz.prog 3 (plainElem (H:=Unit) Tryz.prog 4) (w.heap.size+1) (aBS zs hw o zs.length).length (coD (aBS zs hw o zs.length))/\Below w.heap.size w W':=by
 have h1:1<=n:=by omega
 have hmm:=@run_makeMap Tryz.prog;refine callsIn_of_wp_marks Tryz.func113 rfl trivial ?_ rfl;simp only[Tryz.ntmps113,List.size_toArray,List.length_cons,List.length_nil,Nat.reduceAdd,Nat.reduceSub,Array.replicate_succ,Array.replicate_zero,List.push_toArray,List.append_toArray,List.nil_append,List.cons_append]
 gi_wp2
 have cG:=cell_new_c w (.func (.func 114) #[] #[]) 143;have hm0:=World.ownsMap_made (w.alloc (.cells #[.func (.func 114) #[] #[]] 143)) Tryz.prog 3 (plainElem (H:=Unit) Tryz.prog 4);have cS:=cell_new_c ((w.alloc (.cells #[.func (.func 114) #[] #[]] 143)).alloc (.map #[] 0)) (.map (some (w.heap.size+1))) 165;simp only[World.size_alloc]at cS hm0
 have hB0:Below w.heap.size w (((w.alloc (.cells #[.func (.func 114) #[] #[]] 143)).alloc (.map #[] 0)).alloc (.cells #[.map (some (w.heap.size+1))] 165)):=(((Below.refl _ w).alloc (Nat.le_refl _) _).alloc (by simp) _).alloc (by simp;omega) _
 refine wpIn_rangeFunc_ownG rfl h1 (gf:=110) (lb:=#[.pointer (some ⟨B1,0,none⟩),.pointer (some ⟨B2,0,none⟩)]) rfl trivial (enters_of Tryz.func110 (by kernel_rfl) rfl)
  (aV9 (n-1) (by omega) B1 B2 o w.heap.size zs hw hreach _ (by simp;omega) (hR.below hB0)) belowK_t (belowK_b (by simp;omega)) (Below.refl _ _) (λ_=>rfl)
  (λpre W=>(W.cell? ⟨w.heap.size,0,none⟩=some (.func (.func 114) #[] #[])/\W.cell? ⟨w.heap.size+1+1,0,none⟩=some (.map (some (w.heap.size+1)))/\W.ownsMap Tryz.prog 3 (plainElem (H:=Unit) Tryz.prog 4) (w.heap.size+1) pre.length (coD pre))/\Below w.heap.size w W)
  (λ_ _ _=>False)
  (OwnFrom.and (λs A B row hs hg hr=>⟨cell_kept hs.1 hg (λr e=>(hr r e).2),cell_kept hs.2.1 hg (λr e=>(hr r e).2),hs.2.2.kept hg (λe=>by have:=(hr _ e.symm).1;simp at this;omega)⟩) (ownFrom_below (Nat.le_refl _) (by simp;omega)))
  (λ_ _ _ _ _ hs _ _=>hs)
  ⟨⟨cell_alloc_c _ (cell_alloc_c _ cG.1),cS.1,hm0.alloc _⟩,hB0⟩
  (λx=>{tmps:=#[.func (.func 110) #[] #[.pointer (some ⟨B1,0,none⟩),.pointer (some ⟨B2,0,none⟩)],.func (.func 114) #[] #[],undef,.pointer (some ⟨w.heap.size,0,none⟩),.map none,.pointer (some ⟨w.heap.size+1+1,0,none⟩),.int .i64 x.1,.map (some (w.heap.size+1)),.func (.func 110) #[] #[.pointer (some ⟨B1,0,none⟩),.pointer (some ⟨B2,0,none⟩)],.int .i64 x.1,undef,undef,undef,undef,undef,undef],defers:=[]}) ?assign ?body ?done ?stop
 case assign=>
  intro l x W K hK
  gi_wp2
  exact hK
 case body=>
  rintro l pre x W ⟨⟨hg,hc,hown⟩,hB⟩ hlt;have hlen:=aNd zs hw o zs.length;have hmax:pre.length<maxLen:=by unfold maxLen;omega
  gi_wp2
  refine⟨trivial,λ_=>by omega,(CallsIn.inRound l (bAc _ x.1 _)).mono ?_⟩
  rintro e w' ⟨rfl,rfl⟩
  gi_wp2_with (gi_at_mapUpdate;refine wpListIn_mapUpdate_own _ rfl _ _ _ 165 rfl 3 4 (Maps.int_keyed Tryz.underlying3) Tryz.underlying165 _ (w.heap.size+1) pre.length _ rfl hown hmax _ _ _ rfl rfl (Maps.keyOf_int_mk Tryz.underlying3 x.2) _ [] (plainElem_bool Tryz.underlying4 true) ?_;intro w1 hown1 hgrow1)
  .have hx:x.1≠-1:=by rename_i h;simpa using h
   obtain⟨es,ck,hh,_⟩:=hown;refine⟨KeepsFrom.of_grownBy hgrow1 (λj e=>by cases e;simp),(Below.refl _ _).grown hgrow1 hB.size (λk e=>by cases e;omega),
    ⟨cell_kept hg hgrow1 (λr e=>by cases e;exact⟨_,hh,rfl⟩),cell_kept hc hgrow1 (λr e=>by cases e;exact⟨_,hh,rfl⟩),by rw[aNf,if_neg hx,List.length_append];exact hown1⟩,hB.grown hgrow1 hB.size (λk e=>by cases e;omega)⟩
  .have hx:x.1=-1:=by rename_i h;simpa using h
   exact⟨KeepsFrom.refl _ _,Below.refl _ _,⟨hg,hc,by rw[aNf,if_pos hx,List.length_append];exact hown.mono (Nat.le_add_right _ _)⟩,hB⟩
 case done=>
  rintro D ys W hD rfl ⟨⟨hg,hc,hown⟩,hB⟩ hK
  gi_wp2
  refine⟨by simp,.inl ⟨_,_,rfl,run_takeDeferred hK,?_⟩⟩
  exact⟨_,results_tmp rfl _ _ _,rfl,hown.kept (grownBy_putObj' _ D _) (λe=>by cases e;simp at hD;omega),hB.trans (belowK_b (w:=w) (Nat.le_refl _) W D _ _ (by simp at hD;omega) hK rfl rfl)⟩
 case stop=>
  rintro D c pre W _ _ h _;exact h.elim
theorem Tryz.sortsA (m:Nat):AnyZI.SortsIn Tryz.prog Tryz.sortedA_ren Fence.wide m:=
 ⟨λblk off cap ss W hH hblk hsz=>callsIn_wide.2 (AnyM.slices_Sort_int Tryz.sortA blk off cap ss W hH hblk hsz),
  λp cap W=>callsIn_wide.2 (AnyM.slices_Sort_int_none Tryz.sortA p cap W)⟩
theorem aLV{y:Int}: ∀(xs:List CoI) (D:DataW Unit),IsMap D->(has (xs.foldl (λD x=>if x.1=-1 then D else D.put (.int .i64 x.1) (.lit (.bool true))) D) (.int .i64 y)=true↔has D (.int .i64 y)=true\/(y≠-1/\y∈xs.map Subtype.val))
 | [],D,_=>by simp
 | x::xs,D,hD=>by
  rw[List.foldl_cons];by_cases hx:x.1=-1
  .rw[if_pos hx,aLV xs D hD,List.map_cons,List.mem_cons,hx];constructor
   .rintro(h | ⟨h,g⟩)
    .exact .inl h
    .exact .inr ⟨h,.inr g⟩
   .rintro(h | ⟨h,g | g⟩)
    .exact .inl h
    .exact absurd g h
    .exact .inr ⟨h,g⟩
  .rw[if_neg hx,aLV xs _ (hD.put _ _),List.map_cons,List.mem_cons];by_cases hy:y=x.1
   .subst hy;rw[has_put_same hD (by simp[WideAt.IsKeyLit])]
    exact⟨λ_=>.inr ⟨hx,.inl rfl⟩,λ_=>.inl rfl⟩
   .rw[has_put_other (by simpa using hy)]
    constructor
    .rintro(h | ⟨h,g⟩)
     .exact .inl h
     .exact .inr ⟨h,.inr g⟩
    .rintro(h | ⟨h,g | g⟩)
     .exact .inl h
     .exact absurd g hy
     .exact .inr ⟨h,g⟩
set_option maxRecDepth 100000 in
set_option maxHeartbeats 4000000 in
theorem aWb(cs:Array Value)(o:Nat)(zs:List Int)(hw:∀j:Nat,(Lit.int .i64 (zs[j]?.getD 0)).wf=true)(hreach:zs.length<=1000000)(gs:List Int)(hgs:gs.Pairwise (· < ·))(hmem:∀y,y∈gs↔y≠-1/\y∈(aBS zs hw o zs.length).map Subtype.val)(w:World)
  (hR:∀w1,w1=(w.alloc (.cells cs 35)).alloc (.cells #[.int .i64 o] 3)->aGs w1.heap.size w1 w.heap.size (w.heap.size+1) o zs):
  Calls Tryz.prog 45 #[.agg cs,.int .i64 o] w λe w'=>∃(v:Value),e=.returned v/\
   w'.ownsRow w.heap.size 3 1 v gs.length (gs.map encZ)/\(v=.slice none 0 0↔gs=[])/\Below w.heap.size w w':=by
 refine(callsIn_wide (n:=6)).1 ?_;refine callsIn_of_wp Tryz.func45 rfl trivial ?_ rfl;simp only[Tryz.ntmps45,List.size_toArray,List.length_cons,List.length_nil,Nat.reduceAdd,Nat.reduceSub,Array.replicate_succ,Array.replicate_zero,List.push_toArray,List.append_toArray,List.nil_append,List.cons_append]
 gi_wp2
 obtain⟨w1,hw1⟩:∃w1,(w.alloc (.cells cs 35)).alloc (.cells #[.int .i64 o] 3)=w1:=⟨_,rfl⟩;have hR:=hR w1 hw1.symm;have hs1:w1.heap.size=w.heap.size+1+1:=by rw[<- hw1];simp
 have hB1:Below w.heap.size w w1:=by rw[<- hw1];exact((Below.refl _ w).alloc (Nat.le_refl _) _).alloc (by simp) _
 rw[hw1];refine⟨trivial,(aOO 5 (by omega) w.heap.size (w.heap.size+1) o zs hw hreach w1 hR).mono ?_⟩
 rintro e w2 ⟨rfl,hown,hB2⟩;rw[hs1]at hB2 hown;have hcl:=aNd zs hw o zs.length;have hmax:Maps.size (coD (aBS zs hw o zs.length))<=maxLen:=Nat.le_trans hown.size_le (by unfold maxLen;omega)
 have hbytes:Maps.size (coD (aBS zs hw o zs.length))*8<=140737488355328:=Nat.le_trans (Nat.mul_le_mul_right 8 hown.size_le) (by omega)
 have hbl:=hown.lt;have hseq:SeqGives Fence.wide 2 Tryz.prog 172 #[.pointer (some ⟨w2.heap.size,0,none⟩)] encZ (λss=>ss.Perm (intKeys (coD (aBS zs hw o zs.length)))) (Maps.size (coD (aBS zs hw o zs.length))) (w2.alloc (.cells #[.map (some (w.heap.size+1+1+1))] 165)):=
  AnyZI.keys_gives (ρ:=Tryz.keysA_ren) {Tryz.keysA with} Fence.wide _ trivial rfl (by omega) w2.heap.size (w.heap.size+1+1+1) (aBS zs hw o zs.length).length (coD (aBS zs hw o zs.length)) _ (by simp) (by simp) (by
   obtain⟨es,clock,hb,Ft,hs,hD⟩:=hown;exact⟨es,clock,(Below.heap_alloc _ _ _ hbl).trans hb,Ft,hs,hD⟩)
 have cK:∀mb W,CallsIn Fence.wide 5 Tryz.prog 112 #[.map mb] W λe w'=>e=.returned (.func (.func 172) #[] #[.pointer (some ⟨W.heap.size,0,none⟩)])/\w'=W.alloc (.cells #[.map mb] 165):=λmb W=>AnyZI.keys_in Tryz.keysA Fence.wide 5 trivial rfl mb W
 have cS:=AnyZI.sorted_in Tryz.sortedA Fence.wide 5 trivial trivial trivial trivial rfl (by omega) (Tryz.sortsA _) (enters_of Tryz.func171 (by kernel_rfl) rfl) 172 #[.pointer (some ⟨w2.heap.size,0,none⟩)] trivial (enters_of Tryz.func172 (by kernel_rfl) rfl) _ _ hmax hbytes _ hseq
 change CallsIn _ _ Tryz.prog 111 _ _ _ at cS
 have hfK:Fence.wide.fn 112:=trivial;have hfS:Fence.wide.fn 111:=trivial
 gi_wp2_with (first
  | (gi_at_call 112;refine(cK _ _).mono ?_;rintro e w' ⟨rfl,rfl⟩)
  | (gi_at_call 111;refine cS.mono ?_;rintro e w' ⟨v,ss,rfl,hS,hrow,hnil,hb⟩))
 go_ret
 have hP:gs.Perm (intKeys (coD (aBS zs hw o zs.length))):=CollectedI.perm (left:=λ_=>false) ⟨hgs.imp (λh=>Int.ne_of_lt h),λx=>by
  rw[hmem x];unfold coD;rw[aLV _ _ isMap_empty];exact⟨λh=>⟨.inr h,rfl⟩,λ⟨h,_⟩=>h.resolve_left (by simp[has_eq])⟩⟩ hown (Maps.int_keyed Tryz.underlying3) Tryz.underlying3 (λ_=>rfl)
 have hP:gs.Perm ss:=hP.trans hS.symm;have hM:ss.mergeSort (λx y=>decide (x<=y))=gs:=(mergeSort_of_perm_i hP.symm).trans (List.mergeSort_of_pairwise (hgs.imp (λh=>decide_eq_true (Int.le_of_lt h))))
 rw[hM]at hrow;have hl:=hP.length_eq;rw[<- hl]at hrow;have hB3:Below w.heap.size w w2:=hB1.trans (hB2.mono (by omega))
 have hs2:=hB3.size;refine⟨v,rfl,ownsRow_base_a hrow (by simp;omega),hnil.trans ⟨λh=>(by subst h;exact hP.eq_nil),λh=>(by subst h;exact hP.symm.eq_nil)⟩,(hB3.alloc (by omega) _).trans (hb.mono (by simp;omega))⟩
end Go.Proofs
set_option maxRecDepth 100000
noncomputable section
namespace Go.Eng.In
open Go.Proofs
abbrev I: Ty:=.int .i64
abbrev B: Ty:=.sl .bool
abbrev R: Ty:=.sl I
abbrev M: Ty:=.sl R
abbrev LC: Type:=List (Int×List Bool×List Int)
abbrev LB: Type:=List ByteArray
abbrev C: Ty:=.pair I (.pair B R)
abbrev S: Ty:=.str
abbrev jC(t:TypeId)(e:Int): Value:=.iface t (.int .i64 e)
def big(x:Int): Prop:=-1000000000000<=x/\x<=1000000000000
def btw(x a b:Int): Bool:=decide (a<=x/\x<=b)
def dA(z t:Int): Int:=(t+z)/1440
def iL(z t:Int): Int:=(t+z)%1440
def aGW(z d m:Int): Int:=d*1440+m-z
def wkF(w:List Bool)(h:List Int)(d:Int): Bool:=w.getD (d%7).toNat false&&!h.contains d
def aOU(h:List Int)(d:Int): Int:=((h.filter λx=>decide (x<d)).length:Int)
def srt(h:List Int): Prop:=h.length<=1000000/\∀i j:Nat,i<j->j<h.length->h.getD i 0<h.getD j 0
def aOV(h:List Int)(d i j:Int): Prop:=0<=i/\i<=j/\j<=h.length/\(∀k:Nat,(k:Int)<i->h.getD k 0<d)/\∀k:Nat,j<=k->k<h.length->d<=h.getD k 0
def aKm(h:List Int)(d:Int): Bool:=h.contains d
def jR(z:Int)(w:List Bool)(h:List Int): Bool:=decide (-720<=z/\z<=840/\w.length=7/\h.length<=40)&&(List.range (h.length-1)).all λi=>decide (h.getD i 0<h.getD (i+1) 0)
def aH6(h:List Int)(k:Int): Prop:=1<=k/\(k<=h.length\/k=1)/\h.length<=40/\∀i:Nat,(i:Int)+1<k->h.getD i 0<h.getD (i+1) 0
def wkP(w:List Bool)(h:List Int)(d:Int): Prop:=w.length=7/\srt h/\big d
def oV(w:List Bool)(h:List Int)(a b:Int): List Int:=((List.range (b+1-a).toNat).map λ(i:Nat)=>a+(i:Int)).filter λd=>wkF w h d
def nT(w:List Bool)(h:List Int)(a d:Int): Nat:=(((List.range (d-a).toNat).map λ(i:Nat)=>a+(i:Int)).filter λd=>wkF w h d).length
def wdP(w:List Bool)(h:List Int)(a b:Int): Prop:=w.length=7/\srt h/\big a/\big b
def bAE(a b d:Int): Prop:=a<=d/\(d<=b+1\/d=a)
def fE(xs:List Int): Bool:=decide (0<xs.length)
def hd(xs:List Int): Int:=xs.getD 0 0
def tl(xs:List Int): List Int:=xs.drop 1
def aXy: Kt:=λf args m=>none
def jW: List (Nat×AV):=[]
def KI0: FuncId->List AV->Option sV:=λ_ _=>none
noncomputable def mkc(K:Kt): Cfg:=⟨Tryz.prog,jW,K,λ_=>false,KI0,false,λ_ _ _=>none,λ_=>false⟩
noncomputable def aOh(K:Kt)(mb:Tmp->Bool)(KP:KPt)(pf:FuncId->Bool): Cfg:=⟨Tryz.prog,jW,K,mb,KI0,false,KP,pf⟩
def mY(s:St): St:={s with tm:=s.tm.map bBR}
def aTY(h:List Int): Ann:=⟨λid s=>match id with
 | 4=>some {α:=Int,inv:=λk=>aH6 h k,st:=λk=>put s [(3,.dat I k)],μ:=λk=>Dc (Dh (Df h) k)}
 | _=>none,λ_ _=>none,λ_ _=>none⟩
def bsA(h:List Int)(d:Int): Ann:=⟨λid s=>match id with
 | 3=>some {α:=Int×Int,inv:=λk=>aOV h d k.1 k.2,st:=λk=>put s [(7,.dat I k.1),(8,.dat I k.2)],μ:=λk=>Dc (Dh k.2 k.1)}
 | _=>none,λ_ _=>none,λ_ _=>none⟩
theorem bBP(x a b:Int)(hvc:
 true/\(True->(Ed x a->Ed x a->Ed x a)/\(Ed x a->Ed x a->Ed x a)/\(Di true (Ed x a)->Ed x a)/\Ec (Ed x a) (Eh x b) false=btw x a b/\True)):
  evF (mkc aXy) aQ 148 [.dat I x,.dat I a,.dat I b] [] ⟨True,.dat .bool (btw x a b),[]⟩:=@of_eq _ _ (by kernel_rfl) hvc
theorem aXU(x:Int)(hvc:
 true/\(True->Eb x x=false/\True)):
  evF (mkc aXy) aQ 290 [.dat I x] [] ⟨True,.dat .bool false,[]⟩:=@of_eq _ _ (by kernel_rfl) hvc
theorem aXT(x:Int)(hvc:
 true/\(True->Eb x x=false/\True)):
  evF (mkc aXy) aQ 287 [.dat I x] [] ⟨True,.dat .bool false,[]⟩:=@of_eq _ _ (by kernel_rfl) hvc
def bEw: Kt:=kOr 148 (aP [.val I,.val I,.val I] (λ_=>True) λ(x,a,b,_)=>.dat .bool (btw x a b)) <|
 kOr 290 (aP [.val I] (λ_=>True) λ_=>.dat .bool false) <|
 kOr 287 (aP [.val I] (λ_=>True) λ_=>.dat .bool false) aXy
theorem aPp(x y:Int)(hvc:
 let c1:=Ec false (Dk false) false;let c2:=Dk c1;true/\(True->True/\(false->false->false)/\(false->True)/\(false->false->false)/\(Di true false->false)/\(c2->c2->c2)/\(c2->c2->c2)/\(Di true c2->c2)/\Ec c1 true (Dp x y)=Dp x y/\True)):
  evF (mkc bEw) aQ 258 [.dat I x,.dat I y] [] ⟨True,.dat .bool (Dp x y),[]⟩:=@of_eq _ _ (by kernel_rfl) hvc
def bEv: Kt:=kOr 258 (aP [.val I,.val I] (λ_=>True) λ(x,y,_)=>.dat .bool (Dp x y)) bEw
theorem bEI(h:List Int)(d:Int)(hvc:
 true/\(srt h->(∃(x:Int×Int),aOV h d x.1 x.2/\h=h/\d=d/\(0:Int)=(0:Int)/\false=false/\Df h=Df h/\0=x.1/\Df h=x.2/\True)/\∀(x:Int×Int),let c1:=Dp x.1 x.2;let c2:=x.1+x.2;let c3:=Gj c2 1;let c4:=Dp (Du h (Dc c3) 0) d;let c5:=c3+1;let bK:=Dp x.1 (Df h);let c7:=Ea (Du h (Dc x.1) 0) d;let c8:=Di bK (Dk c7);aOV h d x.1 x.2->(c1->inR IntKind.i64 c2/\inR IntKind.u64 c2/\Dl 0 1/\Dc 1<=(64)/\inR IntKind.i64 c3/\0<=c3/\c3<Df h/\True/\(c4->inR IntKind.i64 c5/\∃(y:Int×Int),aOV h d y.1 y.2/\(h=h/\d=d/\(0:Int)=(0:Int)/\false=false/\Df h=Df h/\c5=y.1/\x.2=y.2/\True)/\Dc (y.2-y.1)<Dc (x.2-x.1))/\(c4=false->∃(y:Int×Int),aOV h d y.1 y.2/\(h=h/\d=d/\(0:Int)=(0:Int)/\false=false/\Df h=Df h/\x.1=y.1/\c3=y.2/\True)/\Dc (y.2-y.1)<Dc (x.2-x.1)))/\(c1=false->(bK->bK->bK)/\(bK->bK->bK)/\(bK->0<=x.1)/\(bK->x.1<Df h)/\(bK->bK->bK)/\(bK->bK->bK)/\(bK->bK->bK)/\(bK->bK->bK)/\(c8->c8->c8)/\(c8->c8->c8)/\(c8->0<=x.1)/\(c8->x.1<Df h)/\(c8->c8->c8)/\(c8->c8->c8)/\(c8->True)/\(c8->c8->c8)/\(Di c8 false->Di c8 false->Di c8 false)/\(Di c8 false->True)/\(c8->c8->c8)/\(c8->Di c8 false->Di c8 false)/\(bK->bK->bK)/\(bK->c8->c8)/\(Di true bK->bK)/\x.1=aOU h d/\Ec bK (Ec c7 true (Ec false false false)) false=aKm h d/\True))):
  evF (mkc bEv) (lvA [(3,[0,1,4,5,6,7,8,9])] (bsA h d)) 264 [.dat R h,.dat I d] [] ⟨srt h,.tup [.dat I (aOU h d),.dat .bool (aKm h d)],[]⟩:=@of_eq _ _ (by kernel_rfl) hvc
def aKG: Kt:=kOr 264 (aP [.val R,.val I] (λ(h,_,_)=>srt h) λ(h,d,_)=>.tup [.dat I (aOU h d),.dat .bool (aKm h d)]) bEv
theorem aS1(z d:Int)(w:List Bool)(h:List Int)(hvc:
 let c1:=Fp d 7+7;let c2:=Fp c1 7;let c3:=Dk (Du w (Dc c2) false);true/\(wkP w h d->Eo 7 0/\inR IntKind.i64 c1/\Eo 7 0/\0<=c2/\c2<Df w/\(c3->false=wkF w h d/\True)/\(c3=false->srt h/\Dk (aKm h d)=wkF w h d/\True))):
  evF (mkc aKG) aQ 220 [.ip C (z,w,h),.dat I d] [] ⟨wkP w h d,.dat .bool (wkF w h d),[]⟩:=@of_eq _ _ (by kernel_rfl) hvc
theorem aNG(z t:Int)(w:List Bool)(h:List Int)(hvc:
 let c1:=Fp (t+z) 1440+1440;let c2:=Fp c1 1440;let c3:=(t+z)-c2;let c4:=Gf c3 1440;true/\(big z/\big t->inR IntKind.i64 (t+z)/\Eo 1440 0/\inR IntKind.i64 c1/\Eo 1440 0/\inR IntKind.i64 c3/\Eo 1440 0/\inR IntKind.i64 c4/\c4=dA z t/\c2=iL z t/\True)):
  evF (mkc aKG) aQ 158 [.ip C (z,w,h),.dat I t] [] ⟨big z/\big t,.tup [.dat I (dA z t),.dat I (iL z t)],[]⟩:=@of_eq _ _ (by kernel_rfl) hvc
theorem bBx (z d m : Int) (w : List Bool) (h : List Int) (hvc :
 let c1 := Ee d (1440 : Int);
 let c2 := Dq c1 m;
 let c3 := Dh c2 z; true = true ∧ (big z ∧ big d ∧ big m → inR IntKind.i64 c1 ∧ inR IntKind.i64 c2 ∧ inR IntKind.i64 c3 ∧ c3 = aGW z d m ∧ True)) :
    evF (mkc aKG) aQ 154 [.ip C (z, w, h), .dat I d, .dat I m] [] ⟨big z ∧ big d ∧ big m, .dat I (aGW z d m), []⟩ := @of_eq _ _ (by kernel_rfl) hvc
theorem bEF(z:Int)(w:List Bool)(h:List Int)(hvc:
 let c1:=Dk (btw z (-720) 840);let c2:=Dk c1;let c3:=Ec c1 true (Eb (Df w) 7);let c4:=Dk c3;let c5:=Ec c3 true (Ei (Df h) 40);let bK:=(z,w,h);true/\(True->True/\(c2->c2->c2)/\(c2->c2->c2)/\(c2->c2->c2)/\(Di true c2->c2)/\(c4->c4->c4)/\(c4->c4->c4)/\(c4->c4->c4)/\(Di true c4->c4)/\(c5->false=jR z w h/\True)/\(c5=false->(∃x,aH6 h x/\bK=bK/\1=x/\True)/\∀(x:Int),let c7:=Dp x (Df h);let c8:=x-1;let c9:=Eh (Du h (Dc x) 0) (Du h (Dc c8) 0);let c10:=x+1;aH6 h x->(c7->0<=x/\x<Df h/\inR IntKind.i64 c8/\0<=c8/\c8<Df h/\(c9->false=jR z w h/\True)/\(c9=false->inR IntKind.i64 c10/\∃y,aH6 h y/\(bK=bK/\c10=y/\True)/\Dc (Df h-y)<Dc (Df h-x)))/\(c7=false->true=jR z w h/\True)))):
  evF (mkc aKG) (lvA [(4,[1,2,3])] (aTY h)) 150 [.agg [.dat I z,.dat B w,.dat R h]] [] ⟨True,.dat .bool (jR z w h),[]⟩:=@of_eq _ _ (by kernel_rfl) hvc
theorem aNx(z a b:Int)(w:List Bool)(h:List Int)(hvc:
 let c1:=(z,w,h);true/\(True->a=a/\b=b/\c1=c1/\True)):
  evF (mkc aKG) aQ 153 [.ip C (z,w,h),.dat I a,.dat I b] [] ⟨True,.fn 219 [.ip I a,.ip I b,.ipv (.ip C (z,w,h))],[]⟩:=@of_eq _ _ (by kernel_rfl) hvc
theorem bA8(b:Bool)(e:Int)(hvc:
 let c1:=chainOf (Value.iface (39) (Value.int IntKind.i64 e));true/\(True->(Dk b->(true->True/\(false=false->b=false/\true/\c1=c1))/\True)/\(Dk b=false->b/\True))):
  evC (mkc aKG) aQ 79 [.dat .bool b,.dat I e] (.tup []) ⟨True,b,jC 39 e⟩:=@of_eq _ _ (by kernel_rfl) hvc
theorem aYd(e:Int)(hvc:
 true/\(True->(true->e=e/\True)/\(true=false->190=e/\True))):
  evF (mkc aKG) aQ 70 [.ifc 39 (.dat I e)] [] ⟨True,.dat I e,[]⟩:=@of_eq _ _ (by kernel_rfl) hvc
def KPr: KPt:=pOr 79 (aGm [.val .bool,.val I] λ(b,e,_)=>⟨True,b,jC 39 e⟩) noP
def aWz: Kt:=kOr 220 (aP [.ptr C,.val I] (λ(c,d,_)=>wkP c.2.1 c.2.2 d) λ(c,d,_)=>.dat .bool (wkF c.2.1 c.2.2 d)) <|
 kOr 158 (aP [.ptr C,.val I] (λ(c,t,_)=>big c.1/\big t) λ(c,t,_)=>.tup [.dat I (dA c.1 t),.dat I (iL c.1 t)]) <|
 kOr 154 (aP [.ptr C,.val I,.val I] (λ(c,d,m,_)=>big c.1/\big d/\big m) λ(c,d,m,_)=>.dat I (aGW c.1 d m)) <|
 kOr 150 (aP [.row C] (λ_=>True) λ(c,_)=>.dat .bool (jR c.1 c.2.1 c.2.2)) <|
 kOr 153 (aP [.ptr C,.val I,.val I] (λ_=>True) λ(c,a,b,_)=>.fn 219 [.ip I a,.ip I b,.ipv (.ip C c)]) <|
 kOr 79 (aP [.val .bool,.val I] (λ(b,_)=>True/\b=true) λ_=>.tup []) aKG
def wdA(w:List Bool)(h:List Int)(a b:Int): aL9:=⟨λid y=>match id with
 | 1=>some {α:=Int,inv:=λd=>bAE a b d,st:=λd=>⟨put y.s [(5,.dat I d)],nT w h a d,true⟩,μ:=λd=>Dc (Dh (Dq b 1) d)}
 | _=>none,λ_ _=>none,λid=>id==3⟩
theorem bA2 (z a b : Int) (w : List Bool) (h : List Int) (hvc :
 let c1 := (z, w, h);
 let c2 := oV w h a b;
 let c3 := Dj c2;
 let c4 := Dq b (1 : Int); true = true ∧ true = true ∧ true = true ∧ false = false ∧ ∀ (l : Nat), wdP w h a b → (∃ x, bAE a b x ∧ (l = l ∧ a = a ∧ b = b ∧ c1
  = c1 ∧ a = x ∧ a = a ∧ True) ∧ 0 = nT w h a x ∧ true = true) ∧ ∀ (x : Int),
 let c5 := nT w h a x;
 let bK := Dz c5 (1);
 let c7 := Dq x (1 : Int);
 let c8 := Ec (wkF w h x) (Dk false) false; bAE a b x → (Eh x b = true → wkP w h x ∧ (wkF w h x = true → (wkF w h x = true → wkF w h x = true) ∧ (wkF w
  h x = true → wkF w h x = true) ∧ l = l ∧ true = true ∧ aA7 c2 c5 x ∧ ∀ (b_1 : Bool),
 let c9 := Ec (wkF w h x) (Dk b_1) false; (Di true (wkF w h x) = true → wkF w h x = true) ∧ (c9 = true → b_1 = true → bK = c3) ∧ (c9 = false → inR
  IntKind.i64 c7 ∧ ∃ y, bAE a b y ∧ ((l = l ∧ a = a ∧ b = b ∧ c1 = c1 ∧ c7 = y ∧ a = a ∧ True) ∧ bK = nT w h a y ∧ b_1 = true) ∧ Dw (Dc (Dh c4 y))
  (Dc (Dh c4 x)))) ∧ (wkF w h x = false → (wkF w h x = true → wkF w h x = true → wkF w h x = true) ∧ (Di true (wkF w h x) = true → wkF w h x = true) ∧
  (c8 = true → true = true → c5 = c3) ∧ (c8 = false → inR IntKind.i64 c7 ∧ ∃ y, bAE a b y ∧ ((l = l ∧ a = a ∧ b = b ∧ c1 = c1 ∧ c7 = y ∧ a = a ∧ True) ∧ c5 =
  nT w h a y ∧ true = true) ∧ Dw (Dc (Dh c4 y)) (Dc (Dh c4 x))))) ∧ (Eh x b = false → true = true → c5 = c3)) :
    evI (mkc aWz) (wdA w h a b) 219 [.ip I a, .ip I b, .ipv (.ip C (z, w, h))] ⟨wdP w h a b, I, oV w h a b⟩ := @of_eq _ _ (by kernel_rfl) hvc
def cR: Cfg:=aOh aWz (λ_=>false) KPr (λf=>f==79)
theorem aNF(xs:List Int)(hvc:
 let c1:=Ei (Df xs) 0;let c2:=chainOf (Value.iface (39) (Value.int IntKind.i64 (190:Int)));true/\(True->1=1/\1=1/\1=1/\1=1/\0=0/\(true->True/\(c1=false->fE xs=false/\true/\c2=c2))/\((true->c1)->(True/\c1)/\1=1/\1=1/\1=1/\0=0/\Dl 0 0/\0<Df xs/\1=1/\1=1/\1=1/\0=0/\Dl 0 1/\1<=Df xs/\1=1/\1=1/\1=1/\0=0/\fE xs/\Du xs (Dc 0) 0=hd xs/\Fe xs 1=tl xs/\1=1/\True))):
  evM cR aQ 207 [.ptr 1 1 0 0] [(1,.var [.dat R xs])] (.dat I (hd xs)) [(1,.var [.dat R (tl xs)])] ⟨True,fE xs,jC 39 190⟩:=@of_eq _ _ (by kernel_rfl) hvc
theorem bEg(x y:Bool): Ec x true y=(x||y):=by cases x<;>rfl
theorem aR9(x y:Bool): Ec x y false=(x&&y):=by cases x<;>rfl
theorem hm: Tryz.prog.follows .mixedOrders=true:=by kernel_rfl
theorem aWy: aI Tryz.prog jW aXy:=λf args m c h=>by cases h
theorem bD: dI Tryz.prog jW KI0:=λf args c h=>by cases h
theorem aCe{x a b:Int}: btw x a b=true↔a<=x/\x<=b:=by unfold btw;rw[qE]
theorem bT{α:Type}{l:List α}{i:Nat}{d:α}(h:i<l.length): l.getD i d∈l:=by
 rw[qA,qB h];exact wH h
theorem bFx(x a b:Int): aB Tryz.prog jW 148 [.dat I x,.dat I a,.dat I b] [] ⟨True,.dat .bool (btw x a b),[]⟩:=by
 refine aA (c:=mkc aXy) aWy bD hm (bBP x a b ⟨rfl,λ_=>?_⟩)
 simp only[qc,Di,Es,Dk,qd,Dt,Ea,Eb,Dp,Ei,Eh,Ed,Ew,Df,Et,Dl,Dn,Eo,Dy,Dw,Dh,Dq,Ee,Fg,Dc,Dx,Dj,Dz,Ej,Du,Eu,Ez,En,Ef,Fe,Fj,Fh,Ep,Em,Ey,Fb];unfold btw;simp
theorem bB8(x:Int): aB Tryz.prog jW 290 [.dat I x] [] ⟨True,.dat .bool false,[]⟩:=
 aA (c:=mkc aXy) aWy bD hm (aXU x ⟨rfl,λ_=>⟨by simp,trivial⟩⟩)
theorem bB7(x:Int): aB Tryz.prog jW 287 [.dat I x] [] ⟨True,.dat .bool false,[]⟩:=
 aA (c:=mkc aXy) aWy bD hm (aXT x ⟨rfl,λ_=>⟨by simp,trivial⟩⟩)
theorem bDO: aI Tryz.prog jW bEw:=aH (aC λ(x,a,b,_)=>bFx x a b) <|
 aH (aC λ(x,_)=>bB8 x)<|aH (aC λ(x,_)=>bB7 x) aWy
theorem aUn(x y:Int): aB Tryz.prog jW 258 [.dat I x,.dat I y] [] ⟨True,.dat .bool (Dp x y),[]⟩:=by
 refine aA (c:=mkc bEw) bDO bD hm (aPp x y ⟨rfl,λ_=>?_⟩)
 simp only[qc,Di,Es,Dk,yB,Ec,qBy,zY,vU,qCm]
theorem bDN: aI Tryz.prog jW bEv:=aH (aC λ(x,y,_)=>aUn x y) bDO
theorem aQf{h:List Int}(hs:srt h){i j:Nat}(hij:i<=j)(hj:j<h.length): h.getD i 0<=h.getD j 0:=by
 rcases zB i j with g | g
 .exact Int.le_of_lt (hs.2 i j g hj)
 .have:i=j:=by omega
  rw[this];exact qL _
theorem bDz{h:List Int}{d i:Int}(hs:srt h)(hi:aOV h d i i): i=aOU h d/\(aKm h d=true↔i<h.length/\h.getD i.toNat 0=d):=by
 obtain⟨h1,_,h3,h4,h5⟩:=hi;constructor
 .unfold aOU;have e:h=h.take i.toNat++h.drop i.toNat:=(xC _ _).symm;have l1:(h.take i.toNat).filter (λx=>decide (x<d))=h.take i.toNat:=List.filter_eq_self.2 λx hx=>by
   obtain⟨k,hk,rfl⟩:=wY.1 hx;rw[qI]at hk;have:=h4 k (by omega)
   rw[qA,qB (by omega)]at this
   rw[qCs];exact qW this
  have l2:(h.drop i.toNat).filter (λx=>decide (x<d))=[]:=qBs.2 λx hx=>by
   obtain⟨k,hk,rfl⟩:=wY.1 hx;rw[vY]at hk;have:=h5 (i.toNat+k) (by omega) (by omega)
   rw[qA,qB (by omega)]at this
   rw[List.getElem_drop];simpa using this
  rw[e,yQ,l1,l2,wE,qI];omega
 .unfold aKm;rw[qAr];constructor
  .intro hm;obtain⟨k,hk,e⟩:=wY.1 hm;have e2:h.getD k 0=d:=by rw[qA,qB hk];exact e
   have k1:¬(k:Int)<i:=λg=>by have:=h4 k g;omega
   refine⟨by omega,?_⟩
   have:=aQf hs (i:=i.toNat) (j:=k) (by omega) hk
   have:=h5 i.toNat (by omega) (by omega)
   omega
  .rintro⟨hlt,e⟩;rw[<- e];exact bT (by omega)
theorem aT{x:Int}(h:-4000000000000000<=x/\x<=4000000000000000): inR .i64 x:=⟨show(-9223372036854775808:Int)<=x by omega,show x<=9223372036854775807 by omega⟩
theorem bHh(h:List Int)(d:Int): aB Tryz.prog jW 264 [.dat R h,.dat I d] [] ⟨srt h,.tup [.dat I (aOU h d),.dat .bool (aKm h d)],[]⟩:=by
 refine aA (c:=mkc bEv) bDN bD hm (bEI h d ⟨rfl,λhs=>?_⟩)
 have hl:=hs.1;refine⟨⟨(0,Df h),⟨qL _,qR _,qL _,λk g=>by omega,λk g1 g2=>by simp only[Df]at g1;omega⟩,?_⟩,λ⟨i,j⟩=>?_⟩
 .simp
 intro c1 c2 c3 c4 c5 bK c7 c8 hi;have hi':=hi;obtain⟨h1,h2,h3,h4,h5⟩:=hi;have e3:c3=(i+j)/2:=by
  show(i+j).fdiv (2 ^ (1:Int).toNat)=_;rw[qCp _ (by decide)];rfl
 have e2:c2=i+j:=rfl;have e5:c5=c3+1:=rfl;have e1:c1=decide (i<j):=rfl;have e4:c4=decide (h.getD c3.toNat 0<d):=rfl;have hiu:inR .u64 c2:=by
  rw[e2];exact⟨show(0:Int)<=i+j by omega,show i+j<=18446744073709551615 by omega⟩
 clear_value c1 c2 c3 c4 c5;constructor
 .intro hc1;rw[e1,qE]at hc1;refine⟨by rw[e2];exact aT (by omega),hiu,by decide,by decide,aT (by omega),by show(0:Int)<=c3;omega,by show c3<(h.length:Int);omega,trivial,λhc4=>?_,λhc4=>?_⟩
  .rw[e4,qE]at hc4;refine⟨by rw[e5];exact aT (by omega),(c5,j),⟨by omega,by omega,h3,λk hk=>?_,h5⟩,by simp,?_⟩
   .have:=aQf hs (i:=k) (j:=c3.toNat) (by omega) (by omega)
    omega
   .simp only[Dw,Dc,Dh];omega
  .rw[e4,wF]at hc4;refine⟨(i,c3),⟨h1,by omega,by omega,h4,λk hk hk2=>?_⟩,by simp,?_⟩
   .have:=aQf hs (i:=c3.toNat) (j:=k) (by omega) (by omega)
    omega
   .simp only[Dw,Dc,Dh];omega
 .intro hc1;rw[e1,wF]at hc1;have:i=j:=by omega
  subst this;obtain⟨b1,b2⟩:=bDz hs hi';have e6:bK=decide (i<h.length):=rfl;have e7:c7=decide (h.getD i.toNat 0=d):=rfl;have e8:c8=(bK&&!c7):=rfl;clear_value bK c7 c8;have hlt:bK=true->i<(h.length:Int):=λg=>by rw[e6]at g;exact wM g
  have g8:c8=true->bK=true:=λg=>by rw[e8,qC]at g;exact g.1
  simp only[qc,Di,Es,Dk]
  and_intros
  all_goals first
   | exact λ_=>h1
   | exact hlt
   | exact λg=>hlt (g8 g)
   | exact b1
   | exact λg=>g8 g
   | skip
  rw[qCd,b2,e6,e7];simp
theorem aKA: aI Tryz.prog jW aKG:=aH (aC λ(h,d,_)=>bHh h d) bDN
theorem aHT{a m:Int}(h:0<m): (a.tmod m+m).tmod m=a%m:=by
 have e:=qAb (a:=a) (b:=m);have n0:=xU a (show m≠0 by omega)
 have n1:=yR a h;have hna:(m.natAbs:Int)=m:=by omega
 have e2:a.tmod m=a%m\/a.tmod m=a%m-m:=by
  rw[e];split
  .exact .inl (by omega)
  .exact .inr (by omega)
 have nn:0<=a.tmod m+m:=by omega
 rw[qCn nn];rcases e2 with e2 | e2<;>rw[e2]
 .rw[Int.add_emod_right,Int.emod_emod_of_dvd _ (Int.dvd_refl _)]
 .rw[Int.sub_add_cancel,Int.emod_emod_of_dvd _ (Int.dvd_refl _)]
theorem aYq(z d:Int)(w:List Bool)(h:List Int): aB Tryz.prog jW 220 [.ip C (z,w,h),.dat I d] [] ⟨wkP w h d,.dat .bool (wkF w h d),[]⟩:=by
 refine aA (c:=mkc aKG) aKA bD hm (aS1 z d w h ⟨rfl,λ⟨hw,hs,hb⟩=>?_⟩)
 have e:=aHT (a:=d) (m:=7) (by decide)
 have n0:=xU d (show(7:Int)≠0 by decide)
 have n1:=yR d (show(0:Int)<7 by decide)
 have tb:-7<d.tmod 7/\d.tmod 7<7:=by
  have:=qAb (a:=d) (b:=7);split at this<;>omega
 simp only[Fp,Dq,e,Dk,Du,Dc,Dl,Dn,Eo,Df,hw];refine⟨by decide,aT (by omega),by decide,n0,by omega,λh1=>⟨?_,trivial⟩,λh1=>⟨hs,?_,trivial⟩⟩
 .unfold wkF;rw[zJ]at h1;rw[h1];rfl
 .unfold wkF aKm;rw[kK]at h1;rw[h1];rfl
theorem aYP(z t:Int)(w:List Bool)(h:List Int): aB Tryz.prog jW 158 [.ip C (z,w,h),.dat I t] [] ⟨big z/\big t,.tup [.dat I (dA z t),.dat I (iL z t)],[]⟩:=by
 refine aA (c:=mkc aKG) aKA bD hm (aNG z t w h ⟨rfl,λ⟨hz,ht⟩=>?_⟩)
 obtain⟨z1,z2⟩:=hz;obtain⟨t1,t2⟩:=ht;have e:=aHT (a:=t+z) (m:=1440) (by decide)
 have n0:=xU (t+z) (show(1440:Int)≠0 by decide)
 have n1:=yR (t+z) (show(0:Int)<1440 by decide)
 have tb:-1440<(t+z).tmod 1440/\(t+z).tmod 1440<1440:=by
  have:=qAb (a:=t+z) (b:=1440);split at this<;>omega
 have eq:(t+z-(t+z)%1440).tdiv 1440=(t+z)/1440:=by
  have:t+z-(t+z)%1440=1440*((t+z)/1440):=by omega
  rw[this,qDf _ (by decide)]
 have big2:∀{x:Int},-4000000000000<=x->x<=4000000000000->inR .i64 x:=λ{x} h1 h2=>⟨show(-9223372036854775808:Int)<=x by omega,show x<=9223372036854775807 by omega⟩
 simp only[Fp,Dq,Dh,Gf,e,eq];exact⟨big2 (by omega) (by omega),by decide,big2 (by omega) (by omega),by decide,big2 (by omega) (by omega),by decide,big2 (by omega) (by omega),rfl,rfl,trivial⟩
theorem bFf (z d m : Int) (w : List Bool) (h : List Int) : aB Tryz.prog jW 154 [.ip C (z, w, h), .dat I d, .dat I m] [] ⟨big z ∧ big d ∧ big m, .dat I (aGW z d m), []⟩ := by
  refine aA (c := mkc aKG) aKA bD hm (bBx z d m w h ⟨rfl, fun ⟨⟨z1, z2⟩, ⟨d1, d2⟩, ⟨m1, m2⟩⟩ => ?_⟩)
  have big2 : ∀ {x : Int}, -4000000000000000 ≤ x → x ≤ 4000000000000000 → inR .i64 x := fun {x} h1 h2 => ⟨show (-9223372036854775808 : Int) ≤ x by omega, show x ≤ 9223372036854775807 by omega⟩
  exact ⟨big2 (by simp only [Ee]; omega) (by simp only [Ee]; omega), big2 (by simp only [Ee, Dq]; omega) (by simp only [Ee, Dq]; omega), big2 (by simp only [Ee, Dq, Dh]; omega) (by simp only [Ee, Dq, Dh]; omega), rfl, trivial⟩
def aID(z:Int)(w:List Bool)(h:List Int): Prop:=(-720<=z/\z<=840/\w.length=7/\h.length<=40)/\∀i:Nat,i+1<h.length->h.getD i 0<h.getD (i+1) 0
theorem rV{z:Int}{w:List Bool}{h:List Int}: jR z w h=true↔aID z w h:=by
 unfold jR aID;rw[qC,qE,qM];refine and_congr_right λ_=>⟨λg i hi=>?_,λg i hi=>?_⟩
 .have:=g i (vN.2 (by omega))
  simpa using this
 .have:=vN.1 hi;simpa using g i (by omega)
theorem aDA{z:Int}{w:List Bool}{h:List Int}(hn:¬aID z w h): false=jR z w h:=by
 cases hv:jR z w h with
 | false=>rfl
 | true=>exact(hn (rV.1 hv)).elim
theorem aPC{z:Int}{w:List Bool}{h:List Int}(hv:jR z w h=true): srt h:=by
 obtain⟨⟨_,_,_,h4⟩,h5⟩:=rV.1 hv;refine⟨by omega,λi j hij hj=>?_⟩
 induction j with
 | zero=>omega
 | succ j ih=>
  have:=h5 j (by omega)
  rcases zB i j with g | g
  .have:=ih g (by omega);omega
  .have:i=j:=by omega
   rw[this];assumption
theorem bHf(z:Int)(w:List Bool)(h:List Int): aB Tryz.prog jW 150 [.agg [.dat I z,.dat B w,.dat R h]] [] ⟨True,.dat .bool (jR z w h),[]⟩:=by
 refine aA (c:=mkc aKG) aKA bD hm (bEF z w h ⟨rfl,λ_=>?_⟩)
 have eb:btw z (-720) 840=decide (-720<=z/\z<=840):=rfl;simp only[eb];simp only[qc,Di,Es,Dk,qd,Dt,Ea,Eb,Dp,Ei,Eh,Ed,Ew,Df,Et,Dl,Dn,Eo,Dy,Dw,Dh,Dq,Ee,Fg,Dc,Dx,Dj,Dz,Ej,Du,Eu,Ez,En,Ef,Fe,Fj,Fh,Ep,Em,Ey,Fb];refine⟨λhb=>aDA λhv=>?_,λ⟨⟨⟨h1,h2⟩,h3⟩,h4⟩=>⟨⟨qL _,.inr rfl,by omega,λi hi=>by omega⟩,λx hx=>⟨λhlt=>?_,λhge=>(rV.2 ⟨⟨by omega,by omega,by omega,by omega⟩,λi hi=>hx.2.2.2 i (by omega)⟩).symm⟩⟩⟩
 .obtain⟨⟨g1,g2,g3,g4⟩,_⟩:=hv;omega
 .have hx1:=hx.1;have hx3:=hx.2.2.1;refine⟨by omega,hlt,aT (by omega),by omega,by omega,λhle=>aDA λhv=>?_,λhn=>⟨aT (by omega),x+1,⟨by omega,by omega,hx3,λi hi=>?_⟩,rfl,by omega⟩⟩
  .have:=hv.2 (x-1).toNat (by omega)
   rw[show(x-1).toNat+1=x.toNat by omega]at this
   omega
  .by_cases e:(i:Int)+1<x
   .exact hx.2.2.2 i e
   .have e1:(x-1).toNat=i:=by omega
    have e2:x.toNat=i+1:=by omega
    rw[e1,e2]at hn;omega
theorem aPU(z a b:Int)(w:List Bool)(h:List Int): aB Tryz.prog jW 153 [.ip C (z,w,h),.dat I a,.dat I b] [] ⟨True,.fn 219 [.ip I a,.ip I b,.ipv (.ip C (z,w,h))],[]⟩:=
 aA (c:=mkc aKG) aKA bD hm (aNx z a b w h ⟨rfl,λ_=>⟨rfl,rfl,rfl,trivial⟩⟩)
theorem bB6(b:Bool)(e:Int): aB Tryz.prog jW 79 [.dat .bool b,.dat I e] [] ⟨True/\b=true,.tup [],[]⟩/\iT Tryz.prog jW 79 [.dat .bool b,.dat I e] [] ⟨True,b,jC 39 e⟩:=by
 refine jG (c:=mkc aKG) aKA bD hm aDM (bA8 b e ⟨rfl,λ_=>⟨λh=>⟨λ_=>⟨trivial,λ_=>⟨?_,rfl,rfl⟩⟩,trivial⟩,λh=>⟨?_,trivial⟩⟩⟩)
 .simpa using h
 .simpa using h
theorem bCm(e:Int): aB Tryz.prog jW 70 [.ifc 39 (.dat I e)] [] ⟨True,.dat I e,[]⟩:=
 aA (c:=mkc aKG) aKA bD hm (aYd e ⟨rfl,λ_=>⟨λ_=>⟨rfl,trivial⟩,λh=>by cases h⟩⟩)
theorem aSA: aI Tryz.prog jW aWz:=aH (aC λ((z,w,h),d,_)=>aYq z d w h)<|aH (aC λ((z,w,h),t,_)=>aYP z t w h)<|aH (aC λ((z,w,h),d,m,_)=>bFf z d m w h) <|
 aH (aC λ((z,w,h),_)=>bHf z w h)<|aH (aC λ((z,w,h),a,b,_)=>aPU z a b w h)<|aH (aC λ(b,e,_)=>(bB6 b e).1) aKA
theorem aNq: fC Tryz.prog jW KPr:=rC (sQ λ(b,e,_)=>(bB6 b e).2) aDM
theorem aJ6{α:Type}{f:Nat->α}{p:α->Bool}{k:Nat}(hp:p (f k)=true): ∀N:Nat,k<N->(((List.range N).map f).filter p)[(((List.range k).map f).filter p).length]?=some (f k)
 | 0,h=>by omega
 | N+1,h=>by
  rw[zT,yG,yQ];rcases zB k N with hk | hk
  .have ih:=aJ6 hp N hk;rw[vI (qG.1 ih).1];exact ih
  .have e:N=k:=by omega
   subst e;rw[qV (qK _),qBz];simp[hp]
theorem aSo{w:List Bool}{h:List Int}{a b x:Int}(h1:a<=x)(h2:x<=b)(hw:wkF w h x=true): aA7 (oV w h a b) (nT w h a x) x:=by
 have e:a+((x-a).toNat:Int)=x:=by omega
 have:=aJ6 (f:=λ(i:Nat)=>a+(i:Int)) (p:=λd=>wkF w h d) (k:=(x-a).toNat) (by simp only[e];exact hw) (b+1-a).toNat (by omega)
 simp only[e]at this;exact this
theorem aHd{w:List Bool}{h:List Int}{a x:Int}(h1:a<=x): nT w h a (x+1)=nT w h a x+(if wkF w h x then 1 else 0):=by
 unfold nT;rw[show(x+1-a).toNat=(x-a).toNat+1 by omega,zT,yG,yQ,qF]
 have e:a+((x-a).toNat:Int)=x:=by omega
 congr 1
 simp only[zG,qCa,e,yU,qBf];split<;>simp_all
theorem aOP(w:List Bool)(h:List Int)(a:Int): nT w h a a=0:=by
 unfold nT;rw[show(a-a).toNat=0 by omega];rfl
theorem aR7{w:List Bool}{h:List Int}{a b x:Int}(hx:bAE a b x)(hge:¬x<=b): nT w h a x=(oV w h a b).length:=by
 unfold nT oV;have e:(x-a).toNat=(b+1-a).toNat:=by
  rcases hx with⟨h1,h2 | h2⟩<;>omega
 rw[e]
theorem bEM (z a b : Int) (w : List Bool) (h : List Int) : aBG Tryz.prog jW 219 [.ip I a, .ip I b, .ipv (.ip C (z, w, h))] ⟨wdP w h a b, I, oV w h a b⟩ := by
  refine uO (c := mkc aWz) aSA bD hm (bA2 z a b w h ⟨rfl, rfl, rfl, rfl, fun l ⟨hw, hs, ⟨a1, a2⟩, ⟨b1, b2⟩⟩ => ?_⟩)
  refine ⟨⟨a, ⟨qL _, .inr rfl⟩, ⟨rfl, rfl, rfl, rfl, rfl, rfl, trivial⟩, (aOP w h a).symm, rfl⟩, fun x hx => ?_⟩
  obtain ⟨x1, x2⟩ := hx
  refine ⟨fun hlt => ?_, fun hge _ => aR7 ⟨x1, x2⟩ (by simpa using hge)⟩
  have hlt : x ≤ b := by simpa using hlt
  have hb : big x := ⟨by omega, by omega⟩
  refine ⟨⟨hw, hs, hb⟩, fun hk => ⟨fun h => h, fun h => h, rfl, rfl, aSo x1 hlt hk, fun bb => ⟨fun _ => hk, fun h9 hb1 => ?_, fun h9 => ?_⟩⟩, fun hk => ⟨fun _ h => h, fun _ => ?_, fun h8 _ => ?_, fun h8 => ?_⟩⟩
  · rw [hk, hb1] at h9; cases h9
  · rw [hk] at h9
    have : bb = true := by simpa [Ec, Dk] using h9
    refine ⟨aT (by simp only [Dq]; omega), x + 1, ⟨by omega, .inl (by omega)⟩, ⟨⟨rfl, rfl, rfl, rfl, rfl, rfl, trivial⟩, ?_, this⟩, ?_⟩
    · rw [aHd x1, hk]; rfl
    · simp only [Dw, Dc, Dh, Dq]; omega
  · rename_i hk2; rw [hk] at hk2; cases hk2
  · rw [hk] at h8; cases h8
  · refine ⟨aT (by simp only [Dq]; omega), x + 1, ⟨by omega, .inl (by omega)⟩, ⟨⟨rfl, rfl, rfl, rfl, rfl, rfl, trivial⟩, ?_, rfl⟩, ?_⟩
    · rw [aHd x1, hk]; rfl
    · simp only [Dw, Dc, Dh, Dq]; omega
theorem aEH(xs:List Int): aB Tryz.prog jW 207 [.ptr 1 1 0 0] [(1,.var [.dat R xs])] ⟨True/\fE xs=true,.dat I (hd xs),[(1,.var [.dat R (tl xs)])]⟩/\iT Tryz.prog jW 207 [.ptr 1 1 0 0] [(1,.var [.dat R xs])] ⟨True,fE xs,jC 39 190⟩:=by
 refine gX (c:=cR) aSA bD hm aNq (aNF xs ⟨rfl,λ_=>?_⟩)
 have e:Ei (Df xs) 0=fE xs:=by unfold fE;simp
 simp only[e];simp only[qc,Di,Es,Dk,qd,Dt,Ea,Eb,Dp,Ei,Eh,Ed,Ew,Df,Et,Dl,Dn,Eo,Dy,Dw,Dh,Dq,Ee,Fg,Dc,Dx,Dj,Dz,Ej,Du,Eu,Ez,En,Ef,Fe,Fj,Fh,Ep,Em,Ey,Fb];refine λh=>?_
 have hl:0<xs.length:=by unfold fE at h;simpa using h
 exact⟨h,qL _,by omega,by decide,by omega,h,rfl,rfl⟩
end Go.Eng.In
namespace Go.Eng.In
def aUQ(st:Int×Int)(x:Int): Int×Int:=(st.1*3%65521,(st.2+x*(st.1*3%65521))%65521)
def aN1(st:Int×Int)(l:List Int): Int×Int:=l.foldl aUQ st
def aMs(l:List Int): Int:=(aN1 (1,0) l).2
theorem aI8(st:Int×Int)(x:Int)(l:List Int): aN1 st (x::l)=aN1 (aUQ st x) l:=rfl
theorem aUR(st:Int×Int)(a b:List Int): aN1 st (a++b)=aN1 (aN1 st a) b:=by
 unfold aN1;exact List.foldl_append
def bFI(st:Int×Int): Prop:=(0<=st.1/\st.1<65521)/\(0<=st.2/\st.2<65521)
theorem aUP(st:Int×Int)(x:Int): bFI (aUQ st x):=
 ⟨⟨Int.emod_nonneg _ (by decide),Int.emod_lt_of_pos _ (by decide)⟩,⟨Int.emod_nonneg _ (by decide),Int.emod_lt_of_pos _ (by decide)⟩⟩
theorem aQu: ∀(l:List Int) {st:Int×Int},bFI st->bFI (aN1 st l)
 | [],_,h=>h
 | x::l,st,_=>aQu l (aUP st x)
def inv(p:Int): Prop:=∃q:Int,p*q%65521=1
theorem aVC{p:Int}(h:inv p): inv (p*3%65521):=by
 obtain⟨q,hq⟩:=h;refine⟨q*43681,?_⟩;rw[Int.mul_emod,Int.emod_emod_of_dvd _ (Int.dvd_refl _),<- Int.mul_emod];have e:p*3*(q*43681)=p*q*131043:=by
  rw[Int.mul_assoc,Int.mul_left_comm 3 q 43681,<- Int.mul_assoc];rfl
 rw[e,Int.mul_emod,hq];rfl
theorem aZR: ∀(l:List Int) {st:Int×Int},inv st.1->inv (aN1 st l).1
 | [],_,h=>h
 | _::l,_,h=>aZR l (aVC h)
theorem aZo: ∀(l:List Int) {p s t:Int},0<=s->s<65521->0<=t->t<65521->s≠t->(aN1 (p,s) l).2≠(aN1 (p,t) l).2
 | [],_,_,_,_,_,_,_,h=>h
 | x::l,p,s,t,s0,s1,t0,t1,h=>by
  rw[aI8,aI8];have e:∀y:Int,aUQ (p,y) x=(p*3%65521,(y+x*(p*3%65521))%65521):=λ_=>rfl
  rw[e,e];generalize x*(p*3%65521)=z;exact aZo l (Int.emod_nonneg _ (by decide)) (Int.emod_lt_of_pos _ (by decide)) (Int.emod_nonneg _ (by decide)) (Int.emod_lt_of_pos _ (by decide)) (by omega)
end Go.Eng.In
set_option maxRecDepth 100000
noncomputable section
namespace Go.Eng.In
open Go.Proofs
abbrev Ce: Ty:=.pair R I
abbrev Pl: Ty:=.pair I (.pair I (.pair M (.sl M)))
abbrev Plan:=Int×Int×List (List Int)×List (List (List Int))
def aMT(l:List Int): Prop:=l.length<=2000000000000000
def aSJ(l:List Int): Prop:=l.length<=9223372036854775807
def sP(l:List Int)(k:Int): Int:=(aN1 (1,0) (l.take k.toNat)).1
def sS(l:List Int)(k:Int): Int:=(aN1 (1,0) (l.take k.toNat)).2
def rl(l:List Int): List Int:=l.map λx=>x%65521
def aBU(l:List Int): Int:=aMs (rl l)
def aCM(l:List Int): Bool:=l.all λx=>btw x 0 65519
def jX(l:List Int)(s:Int): Bool:=aCM l&&decide (s=aMs l)
def aZS(l:List Int)(k:Int): Prop:=0<=k/\k<=l.length/\aCM (l.take k.toNat)=true
def aH7(l:List Int)(k:Int): Prop:=0<=k/\k<=l.length
def jD(g:Int->Int->Int)(n:Int): List (List Int):=(List.range n.toNat).map λi:Nat=>(List.range n.toNat).map λj:Nat=>g i j
def mO(g:Int->Int->Int)(n i:Int): List (List Int):=(jD g n).take i.toNat++List.replicate (n.toNat-i.toNat) []
def pW(g:Int->Int->Int)(n i j:Int): List Int:=((List.range n.toNat).map λj:Nat=>g i j).take j.toNat++List.replicate (n.toNat-j.toNat) 0
def aCj(k n:Int): Prop:=0<=k/\(k<=n\/k=0)
def tg(l:List Int)(m i j:Int): Int:=l.getD (i*m+j).toNat 0-1
def aAR(m:Int)(l:List Int): List (List Int):=jD (tg l m) m
def fB(l:List Int)(k:Int): List Int:=l.drop k.toNat
def aCo(m:Int)(l:List Int): Bool:=decide (m*m<=l.length)
def jJ(l:List Int): Prop:=aCM l=true/\aMT l
def aPQ(m:Int)(l:List Int): Prop:=0<=m/\m<=12/\jJ l
def aUb(m:Int)(l:List Int)(k:Int): Prop:=aCj k m/\k*m<=l.length
def aMl(m:Int)(l:List Int)(i k:Int): Prop:=aCj k m/\i*m+k<=l.length
def aGe(q m:Int)(l:List Int): List (List (List Int)):=(List.range q.toNat).map λk:Nat=>aAR m (fB l ((k:Int)*(m*m)))
def aCn(q m:Int)(l:List Int)(k:Int): List (List (List Int)):=(aGe q m l).take k.toNat++List.replicate (q.toNat-k.toNat) []
def bD7(q m:Int)(l:List Int)(k:Int): Prop:=aCj k q/\(k+1)*(m*m)<=l.length-4
def aFb(l:List Int): Bool:=decide (l.getD 2 0<=12/\l.getD 3 0<=4/\l.getD 0 0<l.getD 1 0/\l.getD 1 0<=l.getD 0 0+60/\l.getD 1 0<=600)
def aCg(l:List Int): Bool:=decide (4<=l.length)&&aFb l&&decide (4+l.getD 2 0*l.getD 2 0+l.getD 3 0*(l.getD 2 0*l.getD 2 0)<=l.length)
def aN(l:List Int): Plan:=(l.getD 0 0,l.getD 1 0,aAR (l.getD 2 0) (fB l 4),aGe (l.getD 3 0) (l.getD 2 0) (fB l (4+l.getD 2 0*l.getD 2 0)))
def fD(l:List Int): List Int:=fB l (4+l.getD 2 0*l.getD 2 0+l.getD 3 0*(l.getD 2 0*l.getD 2 0))
def at0(l:List Int)(k:Nat): Int:=l.getD k 0
def aN6(q m:Int)(l:List Int)(k:Int): List Int:=fB l (4+m*m+k*(m*m))
def bHm(l:List Int): Ann:=⟨λid s=>match id with
 | 3=>some {α:=Int,inv:=λk=>aZS l k,st:=λk=>put (mY s) [(10,.dat I k),(3,.dat I (sP l k)),(4,.dat I (sS l k))],μ:=λk=>Dc (Dh (Df l) k)}
 | _=>none,λ_ _=>none,λ_ _=>none⟩
def bA0(l:List Int): Ann:=⟨λid s=>match id with
 | 3=>some {α:=Int,inv:=λk=>aH7 l k,st:=λk=>put (mY s) [(9,.dat I k),(3,.dat I (sP (rl l) k)),(4,.dat I (sS (rl l) k))],μ:=λk=>Dc (Dh (Df l) k)}
 | _=>none,λ_ _=>none,λ_ _=>none⟩
theorem aKM(s:Int)(l:List Int)(hvc:
 let c1:=(l,s);true/\(aMT l->(∃x,aZS l x/\l=l/\s=s/\c1=c1/\1=sP l x/\0=sS l x/\c1=c1/\l=l/\Df l=Df l/\0=x/\True)/\∀(x:Int),let c2:=Dp x (Df l);let c3:=Du l (Dc x) 0;let c4:=Dk (btw c3 0 65519);let c5:=sP l x*3;let bK:=Fp c5 65521;let c7:=c3*bK;let c8:=sS l x+c7;let c9:=x+1;aZS l x->(c2->0<=x/\x<Df l/\True/\(c4->false=jX l s/\True)/\(c4=false->inR IntKind.i64 c5/\Eo 65521 0/\inR IntKind.i64 c7/\inR IntKind.i64 c8/\Eo 65521 0/\inR IntKind.i64 c9/\∃y,aZS l y/\(l=l/\s=s/\c1=c1/\bK=sP l y/\Fp c8 65521=sS l y/\c1=c1/\l=l/\Df l=Df l/\c9=y/\True)/\Dc (Df l-y)<Dc (Df l-x)))/\(c2=false->Ea s (sS l x)=jX l s/\True))):
  evF (mkc aWz) (bHm l) 141 [.agg [.dat R l,.dat I s]] [] ⟨aMT l,.dat .bool (jX l s),[]⟩:=@of_eq _ _ (by kernel_rfl) hvc
theorem aSY(l:List Int)(hvc:
 true/\(aSJ l->(∃x,aH7 l x/\l=l/\(0:Int)=(0:Int)/\1=sP (rl l) x/\0=sS (rl l) x/\l=l/\Df l=Df l/\0=x/\True)/\∀(x:Int),let c1:=Dp x (Df l);let c2:=sP (rl l) x*3;let c3:=Fp (Du l (Dc x) 0) 65521+65521;let c4:=Fp c2 65521;let c5:=Fp c3 65521*c4;let bK:=sS (rl l) x+c5;let c7:=x+1;aH7 l x->(c1->0<=x/\x<Df l/\inR IntKind.i64 c2/\Eo 65521 0/\Eo 65521 0/\inR IntKind.i64 c3/\Eo 65521 0/\inR IntKind.i64 c5/\inR IntKind.i64 bK/\Eo 65521 0/\inR IntKind.i64 c7/\∃y,aH7 l y/\(l=l/\(0:Int)=(0:Int)/\c4=sP (rl l) y/\Fp bK 65521=sS (rl l) y/\l=l/\Df l=Df l/\c7=y/\True)/\Dc (Df l-y)<Dc (Df l-x))/\(c1=false->sS (rl l) x=aBU l/\True))):
  evF (mkc aWz) (bA0 l) 36 [.dat R l] [] ⟨aSJ l,.dat I (aBU l),[]⟩:=@of_eq _ _ (by kernel_rfl) hvc
def bHe: Kt:=kOr 141 (aP [.row Ce] (λ(c,_)=>aMT c.1) λ(c,_)=>.dat .bool (jX c.1 c.2)) <|
 kOr 36 (aP [.val R] (λ(l,_)=>aSJ l) λ(l,_)=>.dat I (aBU l)) <|
 aWz
def bGy: Kt:=
 kOr 207 (aW4 1 R [.mp 1] (λ_ xs=>True/\fE xs=true) (λ_ xs=>.dat I (hd xs)) λ_ xs=>tl xs) bHe
def KP6: KPt:=pOr 207 (aZD 1 R [.mp 1] λ_ xs=>⟨True,fE xs,jC 39 190⟩) KPr
def bK: Cfg:=aOh bGy (λ_=>false) KP6 (λf=>f==79||f==207)
def aT9(m:Int)(l:List Int): Ann:=⟨λid s=>match id with
 | 3=>some {α:=Int,inv:=λk=>aUb m l k,st:=λk=>pX (pX (put (mY s) [(12,.dat I k),(5,.buf 2 (Dc m))]) 2 (.buf 36 R (mO (tg l m) m k) [])) 1 (.var [.dat R (fB l (Ee k m))]),μ:=λk=>Dc (Dh m k)}
 | 7=>match s.sig.T 6,s.sig.T 23 with
  | .dat (.int .i64) i,.buf nm _=>some {α:=Int,inv:=λk=>aMl m l i k,st:=λk=>pX (pX (put (mY s) [(25,.dat I k)]) nm (.buf 3 I (pW (tg l m) m i k) [])) 1 (.var [.dat R (fB l (Dq (Ee i m) k))]),μ:=λk=>Dc (Dh m k)}
  | _,_=>none
 | _=>none,λ_ _=>none,λ_ _=>none⟩
theorem aNy(m:Int)(l:List Int)(hvc:
 let c1:=Ep m (Dt Int);let c2:=Ep m (0:Int);let c3:=chainOf (Value.iface (39) (Value.int IntKind.i64 (190:Int)));true/\(aPQ m l->1=1/\0<=m/\(Dx (24)*m)<=281474976710656/\m<=9223372036854775807/\Dj c1=Dc m/\(∃x,aUb m l x/\1=1/\0=0/\0=0/\m=m/\Value.slice none (0) (0)=Value.slice none (0) (0)/\Dc m=Dc m/\m=m/\Dc m=Dc m/\Dc m=Dc m/\Int.ofNat (Dc m)=Int.ofNat (Dc m)/\0=x/\l=fB l (x*m)/\c1=mO (tg l m) m x/\1=1/\True)/\∀(x:Int),let c4:=Dp x (Int.ofNat (Dc m));let c5:=mO (tg l m) m x;let bK:=Dj c5;let c7:=fB l (x*m);let c8:=x+1;aUb m l x->(c4->0<=m/\(Dx (8)*m)<=281474976710656/\m<=9223372036854775807/\bK=Dc m/\0<=x/\x<Dx bK/\bK=Dc m/\Dj c2=Dc m/\bK=Dc m/\0<=x/\x<Dx bK/\bK=Dc m/\Dc x=Dc x/\Dj c2=Dc m/\(∃x_3,aMl m l x x_3/\1=1/\0=0/\0=0/\m=m/\Value.slice none (0) (0)=Value.slice none (0) (0)/\Dc m=Dc m/\x=x/\m=m/\Dc m=Dc m/\Dc m=Dc m/\Int.ofNat (Dc m)=Int.ofNat (Dc m)/\x=x/\c4=c4/\x=x/\Dc m=Dc m/\x=x/\m=m/\Dc m=Dc m/\Dc m=Dc m/\Dc x=Dc x/\0=0/\Dc m=Dc m/\x=x/\Dc m=Dc m/\Dc x=Dc x/\0=0/\Dc m=Dc m/\Int.ofNat (Dc m)=Int.ofNat (Dc m)/\0=x_3/\c7=fB l ((x*m)+x_3)/\c5=c5/\Dc x=Dc x/\Dc m=Dc m/\c2=pW (tg l m) m x x_3/\1=1/\True)/\∀(x_3:Int),let c9:=Dp x_3 (Int.ofNat (Dc m));let c10:=fB l ((x*m)+x_3);let c11:=fE c10;let c12:=hd c10-1;let c13:=pW (tg l m) m x x_3;let c14:=Dj c13;let c15:=x_3+1;
 aMl m l x x_3->(c9->bK=Dc m/\0<=x/\x<Dx bK/\bK=Dc m/\Dc x=Dc x/\True/\(c11->bK=Dc m/\0<=x/\x<Dx bK/\bK=Dc m/\Dc x=Dc x/\(True/\c11)/\1=1/\inR IntKind.i64 c12/\c14=Dc m/\0<=x_3/\x_3<Dx c14/\c14=Dc m/\inR IntKind.i64 c15/\∃y,aMl m l x y/\(1=1/\0=0/\0=0/\m=m/\Value.slice none (0) (0)=Value.slice none (0) (0)/\Dc m=Dc m/\x=x/\m=m/\Dc m=Dc m/\Dc m=Dc m/\Int.ofNat (Dc m)=Int.ofNat (Dc m)/\x=x/\c4=c4/\x=x/\Dc m=Dc m/\x=x/\m=m/\Dc m=Dc m/\Dc m=Dc m/\Dc x=Dc x/\0=0/\Dc m=Dc m/\x=x/\Dc m=Dc m/\Dc x=Dc x/\0=0/\Dc m=Dc m/\Int.ofNat (Dc m)=Int.ofNat (Dc m)/\c15=y/\tl c10=fB l ((x*m)+y)/\c5=c5/\Dc x=Dc x/\Dc m=Dc m/\En c13 (Dc x_3) c12=pW (tg l m) m x y/\1=1/\True)/\Dc (m-y)<Dc (m-x_3))/\(c11=false->aCo m l=false/\true/\c3=c3))/\(c9=false->inR IntKind.i64 c8/\∃y,aUb m l y/\(1=1/\0=0/\0=0/\m=m/\Value.slice none (0) (0)=Value.slice none (0) (0)/\Dc m=Dc m/\m=m/\Dc m=Dc m/\Dc m=Dc m/\Int.ofNat (Dc m)=Int.ofNat (Dc m)/\c8=y/\c10=fB l (y*m)/\c14=Dc m/\En c5 (Dc x) c13=mO (tg l m) m y/\1=1/\True)/\Dc (m-y)<Dc (m-x)))/\(c4=false->aCo m l/\bK=Dc m/\c5=aAR m l/\c7=fB l (m*m)/\1=1/\True))):
  evM bK (aT9 m l) 208 [.ptr 1 1 0 0,.dat I m] [(1,.var [.dat R l])] (.dat M (aAR m l)) [(1,.var [.dat R (fB l (Ee m m))])] ⟨aPQ m l,aCo m l,jC 39 190⟩:=@of_eq _ _ (by kernel_rfl) hvc
def bGx: Kt:=kOr 208 (aW4 1 R [.mp 1,.val I] (λ(_,m,_) xs=>aPQ m xs/\aCo m xs=true) (λ(_,m,_) xs=>.dat M (aAR m xs)) λ(_,m,_) xs=>fB xs (Ee m m)) bGy
def KP7: KPt:=pOr 208 (aZD 1 R [.mp 1,.val I] λ(_,m,_) xs=>⟨aPQ m xs,aCo m xs,jC 39 190⟩) KP6
def c7: Cfg:=aOh bGx (λ_=>false) KP7 (λf=>f==79||f==207||f==208)
def bFH(l:List Int): Ann:=⟨λid s=>match id with
 | 9=>some {α:=Int,inv:=λk=>bD7 (at0 l 3) (at0 l 2) l k,st:=λk=>pX (pX (put (mY s) [(53,.dat I k)]) 4 (.buf 32 M (aCn (at0 l 3) (at0 l 2) (fB l (Dq 4 (Ee (at0 l 2) (at0 l 2)))) k) [])) 1 (.var [.dat R (aN6 (at0 l 3) (at0 l 2) l k)]),μ:=λk=>Dc (Dh (at0 l 3) k)}
 | _=>none,λ_ _=>none,λ_ _=>none⟩
theorem aXP(l:List Int)(hvc:
 let c1:=chainOf (Value.iface (39) (Value.int IntKind.i64 (190:Int)));let c2:=fE (tl (tl (tl l)));let c3:=Eh (hd (tl (tl l))) 12;let c4:=hd (tl (tl (tl l)));let c5:=Ec c3 (Eh c4 4) false;let bK:=Dp (hd l) (hd (tl l));let c7:=hd l+60;let c8:=Ec bK (Eh (hd (tl l)) c7) false;let c9:=Ec c8 (Eh (hd (tl l)) 600) false;let c10:=tl (tl (tl (tl l)));let c11:=aCo (hd (tl (tl l))) c10;let c12:=Ep c4 (Dt (List Int));let c13:=Dc c4;let c14:=aAR (hd (tl (tl l))) c10;let c15:=Int.ofNat c13;let c16:=hd (tl (tl l))*hd (tl (tl l));let c17:=fB l (4+(at0 l (2)*at0 l (2)));let c18:=(aN l).2;let c19:=c18.2;
 true/\(jJ l->1=1/\(true->True/\(fE l=false->aCg l=false/\true/\c1=c1))/\((true->fE l)->(True/\fE l)/\1=1/\(true->True/\(fE (tl l)=false->aCg l=false/\true/\c1=c1))/\((true->fE (tl l))->(True/\fE (tl l))/\1=1/\1=1/\1=1/\0=0/\1=1/\1=1/\0=0/\(true->True/\(fE (tl (tl l))=false->aCg l=false/\true/\c1=c1))/\((true->fE (tl (tl l)))->(True/\fE (tl (tl l)))/\1=1/\(true->True/\(c2=false->aCg l=false/\true/\c1=c1))/\((true->c2)->(True/\c2)/\1=1/\(c3->c3->c3)/\(Di true c3->c3)/\(true->True/\(c5=false->aCg l=false/\true/\c1=c1))/\((true->c5)->(True/\c5)/\1=1/\1=1/\0=0/\1=1/\1=1/\0=0/\(bK->1=1)/\(bK->bK->bK)/\(bK->1=1)/\(bK->0=0)/\(bK->1=1)/\(bK->bK->bK)/\(bK->1=1)/\(bK->0=0)/\(bK->bK->bK)/\(bK->inR IntKind.i64 c7)/\(bK->bK->bK)/\(bK->bK->bK)/\(Di true bK->bK)/\(c8->1=1)/\(c8->c8->c8)/\(c8->1=1)/\(c8->0=0)/\(c8->c8->c8)/\(Di true c8->c8)/\(true->True/\(c9=false->aCg l=false/\true/\c1=c1))/\((true->c9)->(True/\c9)/\(true->aPQ (hd (tl (tl l))) c10/\(c11=false->aCg l=false/\true/\c1=c1))/\((true->c11)->(aPQ (hd (tl (tl l))) c10/\c11)/\1=1/\1=1/\1=1/\0=0/\0<=c4/\(Dx (24)*c4)<=281474976710656/\c4<=9223372036854775807/\1=1/\1=1/\0=0/\Dj c12=c13/\1=1/\1=1/\0=0/\Dj c12=c13/\(∃x,bD7 (at0 l (3)) (at0 l (2)) l x/\1=1/\0=0/\0=0/\1=1/\0=0/\0=0/\1=1/\0=0/\0=0/\hd (tl (tl l))=hd (tl (tl l))/\c4=c4/\1=1/\0=0/\0=0/\hd l=hd l/\1=1/\0=0/\0=0/\hd (tl l)=hd (tl l)/\1=1/\0=0/\0=0/\1=1/\0=0/\1=1/\1=1/\0=0/\0=0/\hd (tl (tl l))=hd (tl (tl l))/\1=1/\0=0/\0=0/\c4=c4/\hd (tl (tl l))=hd (tl (tl l))/\c3=c3/\c3=c3/\c5=c5/\1=1/\0=0/\0=0/\hd l=hd l/\1=1/\0=0/\1=1/\hd (tl l)=hd (tl l)/\bK=bK/\bK=bK/\c8=c8/\c8=c8/\c9=c9/\1=1/\0=0/\0=0/\hd (tl (tl l))=hd (tl (tl l))/\c14=c14/\1=1/\0=0/\2=2/\c4=c4/\c13=c13/\1=1/\0=0/\3=3/\1=1/\0=0/\3=3/\c13=c13/\
 c15=c15/\0=x/\fB c10 c16=aN6 (at0 l (3)) (at0 l (2)) l x/\(0:Int)=(0:Int)/\(0:Int)=(0:Int)/\Value.slice none (0) (0)=Value.slice none (0) (0)/\Value.slice none (0) (0)=Value.slice none (0) (0)/\hd l=hd l/\hd (tl l)=hd (tl l)/\c14=c14/\c13=c13/\c12=aCn (at0 l (3)) (at0 l (2)) c17 x/\1=1/\True)/\∀(x:Int),let c20:=aN6 (at0 l (3)) (at0 l (2)) l x;let c21:=aCo (hd (tl (tl l))) c20;let c22:=aCn (at0 l (3)) (at0 l (2)) c17 x;let c23:=Dj c22;let c24:=x+1;
 bD7 (at0 l (3)) (at0 l (2)) l x->(Dp x c15->1=1/\1=1/\0=0/\aPQ (hd (tl (tl l))) c20/\(c21->1=1/\1=1/\0=0/\(aPQ (hd (tl (tl l))) c20/\c21)/\1=1/\c23=c13/\0<=x/\x<Dx c23/\c23=c13/\inR IntKind.i64 c24/\∃y,bD7 (at0 l (3)) (at0 l (2)) l y/\(1=1/\0=0/\0=0/\1=1/\0=0/\0=0/\1=1/\0=0/\0=0/\hd (tl (tl l))=hd (tl (tl l))/\c4=c4/\1=1/\0=0/\0=0/\hd l=hd l/\1=1/\0=0/\0=0/\hd (tl l)=hd (tl l)/\1=1/\0=0/\0=0/\1=1/\0=0/\1=1/\1=1/\0=0/\0=0/\hd (tl (tl l))=hd (tl (tl l))/\1=1/\0=0/\0=0/\c4=c4/\hd (tl (tl l))=hd (tl (tl l))/\c3=c3/\c3=c3/\c5=c5/\1=1/\0=0/\0=0/\hd l=hd l/\1=1/\0=0/\1=1/\hd (tl l)=hd (tl l)/\bK=bK/\bK=bK/\c8=c8/\c8=c8/\c9=c9/\1=1/\0=0/\0=0/\hd (tl (tl l))=hd (tl (tl l))/\c14=c14/\1=1/\0=0/\2=2/\c4=c4/\c13=c13/\1=1/\0=0/\3=3/\1=1/\0=0/\3=3/\c13=c13/\c15=c15/\c24=y/\fB c20 c16=aN6 (at0 l (3)) (at0 l (2)) l y/\(0:Int)=(0:Int)/\(0:Int)=(0:Int)/\Value.slice none (0) (0)=Value.slice none (0) (0)/\Value.slice none (0) (0)=Value.slice none (0) (0)/\hd l=hd l/\hd (tl l)=hd (tl l)/\c14=c14/\c13=c13/\En c22 (Dc x) (aAR (hd (tl (tl l))) c20)=aCn (at0 l (3)) (at0 l (2)) c17 y/\1=1/\True)/\Dc (at0 l (3)-y)<Dc (at0 l (3)-x))/\(c21=false->aCg l=false/\true/\c1=c1))/\(Dp x c15=false->1=1/\0=0/\1=1/\0=0/\c23=c13/\aCg l/\1=1/\0=0/\hd l=(aN l).1/\hd (tl l)=c18.1/\c14=c19.1/\c23=c13/\c22=c19.2/\c20=fD l/\1=1/\True)))))))))):
  evM c7 (bFH l) 142 [.ptr 1 1 0 0] [(1,.var [.dat R l])] (.agg [.dat I (aN l).1,.dat I (aN l).2.1,.dat M (aN l).2.2.1,.dat (.sl M) (aN l).2.2.2]) [(1,.var [.dat R (fD l)])] ⟨jJ l,aCg l,jC 39 190⟩:=@of_eq _ _ (by kernel_rfl) hvc
def bHd: Kt:=kOr 142 (aW4 1 R [.mp 1] (λ_ xs=>jJ xs/\aCg xs=true) (λ_ xs=>.agg [.dat I (aN xs).1,.dat I (aN xs).2.1,.dat M (aN xs).2.2.1,.dat (.sl M) (aN xs).2.2.2]) λ_ xs=>fD xs) bGx
def KP8: KPt:=pOr 142 (aZD 1 R [.mp 1] λ_ xs=>⟨jJ xs,aCg xs,jC 39 190⟩) KP7
theorem aQv(l:List Int): sP l 0=1:=rfl
theorem aQt(l:List Int): sS l 0=0:=rfl
theorem aIL{l:List Int}{x:Int}(h0:0<=x)(h1:x<l.length): l.take (x+1).toNat=l.take x.toNat++[l.getD x.toNat 0]:=by
 rw[show(x+1).toNat=x.toNat+1 by omega,wV,qA,qB (by omega:x.toNat<l.length)];rfl
theorem aMv{l:List Int}{x:Int}(h0:0<=x)(h1:x<l.length): sP l (x+1)=sP l x*3%65521/\sS l (x+1)=(sS l x+l.getD x.toNat 0*(sP l x*3%65521))%65521:=by
 unfold sP sS;rw[aIL h0 h1,aUR];exact⟨rfl,rfl⟩
theorem bD3(l:List Int)(x:Int): (0<=sP l x/\sP l x<65521)/\0<=sS l x/\sS l x<65521:=aQu (l.take x.toNat) (st:=(1,0)) ⟨⟨by decide,by decide⟩,⟨by decide,by decide⟩⟩
theorem bCD{l:List Int}{x:Int}(h:(l.length:Int)<=x): sS l x=aMs l:=by
 unfold sS aMs;rw[qO (by omega)]
theorem aWW(l:List Int): (rl l).length=l.length:=by unfold rl;rw[vF]
theorem bFE{l:List Int}{i:Nat}(h:i<l.length): (rl l).getD i 0=l.getD i 0%65521:=by
 unfold rl;rw[qA,qP,qA,qB h];rfl
theorem jS{l:List Int}: aCM l=true↔∀x∈l,0<=x/\x<=65519:=by
 unfold aCM;rw[qM];exact⟨λh x hx=>aCe.1 (h x hx),λh x hx=>aCe.2 (h x hx)⟩
theorem aRy{l:List Int}{x:Int}(h:aZS l x)(h1:x<l.length)(h2:btw (l.getD x.toNat 0) 0 65519=true): aZS l (x+1):=by
 obtain⟨a,b,c⟩:=h;refine⟨by omega,by omega,?_⟩
 rw[aIL a h1];unfold aCM at c ⊢;rw[kX,c];simpa using h2
theorem aVE{l:List Int}{x:Int}(h:aZS l x)(h1:¬x<l.length): aCM l=true:=by
 obtain⟨a,b,c⟩:=h
 rwa [qO (by omega)]at c
theorem aRz{l:List Int}{x:Int}(h0:0<=x)(h1:x<l.length)(h2:btw (l.getD x.toNat 0) 0 65519=false): aCM l=false:=by
 cases e:aCM l with
 | false=>rfl
 | true=>
  have:=aCe.2 (jS.1 e _ (bT (l:=l) (i:=x.toNat) (d:=0) (by omega)))
  rw[this]at h2;cases h2
theorem aW3{a b:Int}(a0:0<=a)(a1:a<=65521)(b0:0<=b)(b1:b<=65521): 0<=a*b/\a*b<=65521*65521:=
 ⟨gJ a0 b0,xK a1 b1 b0 (by omega)⟩
theorem tme{a:Int}(h:0<=a): a.tmod 65521=a%65521:=qCn h
theorem aNW(s:Int)(l:List Int): aB Tryz.prog jW 141 [.agg [.dat R l,.dat I s]] [] ⟨aMT l,.dat .bool (jX l s),[]⟩:=by
 refine aA (c:=mkc aWz) aSA bD hm (aKM s l ⟨rfl,λhl=>?_⟩)
 have hl:l.length<=2000000000000000:=hl;refine⟨⟨0,⟨qL _,qR _,rfl⟩,by simp[aQv,aQt]⟩,λx=>?_⟩
 intro c2 c3 c4 c5 bK c7 c8 c9 hx;refine⟨λh2=>?_,λh2=>?_⟩
 .have h2:x<(l.length:Int):=wM h2;have h0:=hx.1;obtain⟨⟨p0,p1⟩,s0,s1⟩:=bD3 l x;obtain⟨n1,n2⟩:=aMv h0 h2;refine⟨h0,h2,trivial,λh4=>⟨?_,trivial⟩,λh4=>?_⟩
  .have:btw (l.getD x.toNat 0) 0 65519=false:=by simpa[c4,c3,Dk,Du,Dc]using h4
   unfold jX;rw[aRz h0 h2 this];rfl
  .have hb:btw (l.getD x.toNat 0) 0 65519=true:=by simpa[c4,c3,Dk,Du,Dc]using h4
   obtain⟨b0,b1⟩:=aCe.1 hb;have e6:bK=sP l (x+1):=by rw[n1];exact tme (by show 0<=sP l x*3;omega)
   obtain⟨⟨q0,q1⟩,_,_⟩:=bD3 l (x+1);have e3:c3=l.getD x.toNat 0:=rfl;have e7:c7=c3*bK:=rfl;have e8:c8=sS l x+c7:=rfl;have e5:c5=sP l x*3:=rfl;have e9:c9=x+1:=rfl;clear_value c3 c5 bK c7 c8 c9;have hm:=aW3 (a:=c3) (b:=bK) (by omega) (by omega) (by omega) (by omega)
   refine⟨aT (by omega),by decide,aT (by omega),aT (by omega),by decide,aT (by omega),x+1,aRy hx h2 hb,⟨rfl,rfl,rfl,e6,?_,rfl,rfl,rfl,e9,trivial⟩,?_⟩
   .rw[n2,<- n1];show c8.tmod 65521=_;rw[tme (by omega),e8,e7,e3,e6]
   .simp only[Dw,Dc,Dh,Df];omega
 .have h2:¬x<(l.length:Int):=qCi h2;refine⟨?_,trivial⟩;unfold jX;rw[aVE hx h2,bCD (by omega),zQ]
  show(s==_)=_;rw[qCd];simp
theorem aKR(l:List Int): aB Tryz.prog jW 36 [.dat R l] [] ⟨aSJ l,.dat I (aBU l),[]⟩:=by
 refine aA (c:=mkc aWz) aSA bD hm (aSY l ⟨rfl,λhl=>?_⟩)
 have hl:l.length<=9223372036854775807:=hl;refine⟨⟨0,⟨qL _,qR _⟩,by simp[aQv,aQt]⟩,λx=>?_⟩
 intro c1 c2 c3 c4 c5 bK c7 hx;refine⟨λh2=>?_,λh2=>?_⟩
 .have h2:x<(l.length:Int):=wM h2;have h0:=hx.1;obtain⟨⟨p0,p1⟩,s0,s1⟩:=bD3 (rl l) x;obtain⟨n1,n2⟩:=aMv (l:=rl l) h0 (by rw[aWW];exact h2)
  rw[bFE (by omega)]at n2
  have e4:c4=sP (rl l) (x+1):=by rw[n1];exact tme (by show 0<=sP (rl l) x*3;omega)
  obtain⟨⟨q0,q1⟩,_,_⟩:=bD3 (rl l) (x+1);have em:Fp c3 65521=l.getD x.toNat 0%65521:=aHT (by decide)
  have m0:=xU (l.getD x.toNat 0) (show(65521:Int)≠0 by decide)
  have m1:=yR (l.getD x.toNat 0) (show(0:Int)<65521 by decide)
  have e5:c5=Fp c3 65521*c4:=rfl;have e6:bK=sS (rl l) x+c5:=rfl;have e2:c2=sP (rl l) x*3:=rfl;have e7:c7=x+1:=rfl;have e3:c3=(l.getD x.toNat 0).tmod 65521+65521:=rfl;have tb:-65521<(l.getD x.toNat 0).tmod 65521/\(l.getD x.toNat 0).tmod 65521<65521:=by
   have:=qAb (a:=l.getD x.toNat 0) (b:=65521);split at this<;>omega
  rw[em]at e5;clear_value c2 c3 c4 c5 bK c7;have hm:=aW3 (a:=l.getD x.toNat 0%65521) (b:=c4) (by omega) (by omega) (by omega) (by omega)
  refine⟨h0,h2,aT (by omega),by decide,by decide,aT (by omega),by decide,aT (by omega),aT (by omega),by decide,⟨show(-9223372036854775808:Int)<=_ by omega,show _<=(9223372036854775807:Int) by omega⟩,x+1,⟨by omega,by omega⟩,⟨rfl,rfl,e4,?_,rfl,rfl,e7,trivial⟩,?_⟩
  .rw[n2,<- n1];show bK.tmod 65521=_;rw[tme (by omega),e6,e5,e4]
  .simp only[Dw,Dc,Dh,Df];omega
 .have h2:¬x<(l.length:Int):=qCi h2;exact⟨bCD (by rw[aWW];omega),trivial⟩
theorem bGn: aI Tryz.prog jW bHe:=aH (aC λ((l,s),_)=>aNW s l)<|aH (aC λ(l,_)=>aKR l) <|
 aSA
theorem aYH: ∀x xs,aB Tryz.prog jW 207 (avK [.mp 1] x) [(1,.var [.dat R xs])] ⟨True/\fE xs=true,.dat I (hd xs),[(1,.var [.dat R (tl xs)])]⟩:=λ_ xs=>(aEH xs).1
theorem bDM: aI Tryz.prog jW bGy:=
 aH (aDg aYH) bGn
theorem aSD: fC Tryz.prog jW KP6:=rC (aFr λ_ xs=>(aEH xs).2) aNq
theorem aDq{α:Type}(xs:List α)(d v:α)(k:Nat)(hk:xs[k]?=some v): (xs.take k++List.replicate (xs.length-k) d).set k v=xs.take (k+1)++List.replicate (xs.length-(k+1)) d:=by
 obtain⟨h,e⟩:=qG.1 hk;have e2:xs.length-k=(xs.length-(k+1))+1:=by omega
 rw[e2,qBc,List.set_append_right _ _ (by simp;omega)]
 simp[wV,hk,xA (Nat.le_of_lt h)]
theorem rJ(g:Int->Int->Int)(n:Int): (jD g n).length=n.toNat:=by simp[jD]
theorem aEY(g:Int->Int->Int)(n x:Int)(h:aCj x n): (mO g n x).length=n.toNat:=by
 have:=h.1;have:=h.2;simp only[mO,qF,qI,wJ,rJ];omega
theorem aGM(g:Int->Int->Int)(n i x:Int)(h:aCj x n): (pW g n i x).length=n.toNat:=by
 have:=h.1;have:=h.2;simp only[pW,qF,qI,wJ,vF,vK];omega
theorem aJb(g:Int->Int->Int)(n:Int): mO g n 0=List.replicate n.toNat []:=by simp[mO]
theorem aK2(g:Int->Int->Int)(n i:Int): pW g n i 0=List.replicate n.toNat 0:=by simp[pW]
theorem aK3(g:Int->Int->Int)(n i j:Int)(h0:0<=j)(h1:j<n): (pW g n i j).set j.toNat (g i j)=pW g n i (j+1):=by
 have e:(j+1).toNat=j.toNat+1:=by omega
 have:=aDq ((List.range n.toNat).map λj:Nat=>g i j) 0 (g i j) j.toNat (by
  rw[qP,vX (by omega)];simp[vC h0])
 simp only[vF,vK]at this;unfold pW;rw[e];exact this
theorem aN5(g:Int->Int->Int)(n i j:Int)(h:aCj j n)(h1:¬j<n): pW g n i j=(List.range n.toNat).map λj:Nat=>g i j:=by
 have:=h.1;have:=h.2;have e:j.toNat=n.toNat:=by omega
 unfold pW;rw[e,qO (by simp)];simp
theorem aJc(g:Int->Int->Int)(n i j:Int)(h0:0<=i)(h1:i<n)(h:aCj j n)(h2:¬j<n): (mO g n i).set i.toNat (pW g n i j)=mO g n (i+1):=by
 have e:(i+1).toNat=i.toNat+1:=by omega
 rw[aN5 g n i j h h2];have:=aDq (jD g n) [] ((List.range n.toNat).map λj:Nat=>g i j) i.toNat (by
  unfold jD;rw[qP,vX (by omega)];simp[vC h0])
 rw[rJ]at this;unfold mO;rw[e];exact this
theorem aK1(g:Int->Int->Int)(n i:Int)(h:aCj i n)(h1:¬i<n): mO g n i=jD g n:=by
 have:=h.1;have:=h.2;have e:i.toNat=n.toNat:=by omega
 unfold mO;rw[e,qO (by rw[rJ];exact qK _)];simp
theorem aHr{l:List Int}{k:Int}(h:0<=k): tl (fB l k)=fB l (k+1):=by
 unfold tl fB;rw[yF];congr 1;omega
theorem aFH(l:List Int)(k:Int): hd (fB l k)=l.getD k.toNat 0:=by
 unfold hd fB;simp[qA,qX]
theorem aEk{l:List Int}{k:Int}(h:0<=k): fE (fB l k)=decide (k<l.length):=by
 unfold fE fB;rw[vY,qAt];omega
theorem drop_drop{l:List Int}{a b:Int}(ha:0<=a)(hb:0<=b): fB (fB l a) b=fB l (a+b):=by
 unfold fB;rw[yF];congr 1;omega
theorem aNa(l:List Int)(k:Int): (fB l k).length=l.length-k.toNat:=by unfold fB;rw[vY]
theorem pI(i m:Int): (i+1)*m=i*m+m:=by rw[Int.add_mul,Int.one_mul]
theorem aIM(m:Int)(l:List Int): aB Tryz.prog jW 208 [.ptr 1 1 0 0,.dat I m] [(1,.var [.dat R l])] ⟨aPQ m l/\aCo m l=true,.dat M (aAR m l),[(1,.var [.dat R (fB l (Ee m m))])]⟩/\
  iT Tryz.prog jW 208 [.ptr 1 1 0 0,.dat I m] [(1,.var [.dat R l])] ⟨aPQ m l,aCo m l,jC 39 190⟩:=by
 refine gX (c:=bK) bDM bD hm aSD (aNy m l ⟨rfl,λhp=>?_⟩)
 obtain⟨m0,m1,⟨hin,hl⟩⟩:=hp;have hl:l.length<=2000000000000000:=hl;have em:(Int.ofNat (Dc m))=m:=vC m0;have bd:∀{k:Int},0<=k->k<l.length->0<=l.getD k.toNat 0/\l.getD k.toNat 0<=65519:=λ{k} h0 h1=>jS.1 hin _ (bT (by omega))
 simp only[em];simp only[qc,Di,Es,Dk,qd,Dt,Ea,Eb,Dp,Ei,Eh,Ed,Ew,Df,Et,Dl,Dn,Eo,Dy,Dw,Dh,Dq,Ee,Fg,Dc,Dx,Dj,Dz,Ej,Du,Eu,Ez,En,Ef,Fe,Fj,Fh,Ep,Em,Ey,Fb];refine⟨m0,by omega,by omega,by simp,⟨0,⟨⟨qL _,.inr rfl⟩,by rw[Int.zero_mul];exact qR _⟩,rfl,by rw[Int.zero_mul];rfl,(aJb _ _).symm⟩,λx hx=>⟨λhlt=>?_,λhge=>?_⟩⟩
 .have h0:=hx.1.1;have hln:=aEY (tg l m) m x hx.1;have xm0:0<=x*m:=gJ h0 m0;have top:(x+1)*m<=m*m:=qCb (by omega) m0
  rw[pI]at top;have em2:(m.toNat:Int)=m:=vC m0;have hlx:x<((mO (tg l m) m x).length:Int):=by rw[hln];omega
  refine⟨m0,by omega,by omega,hln,h0,hlx,hln,by simp,hln,h0,hlx,hln,by simp,⟨0,⟨⟨qL _,.inr rfl⟩,by have:=hx.2;omega⟩,rfl,by rw[Int.add_zero],(aK2 _ _ _).symm⟩,λy hy=>⟨λhy1=>?_,λhy1=>?_⟩⟩
  .have y0:=hy.1.1;have hrl:=aGM (tg l m) m x y hy.1;have hly:y<((pW (tg l m) m x y).length:Int):=by rw[hrl];omega
   have eo:=aEk (l:=l) (k:=x*m+y) (by omega)
   refine⟨hln,h0,hlx,hln,λho=>?_,λho=>?_⟩
   .have hlt2:x*m+y<l.length:=by rw[eo]at ho;exact wM ho
    obtain⟨b0,b1⟩:=bd (k:=x*m+y) (by omega) hlt2
    have eh:hd (fB l (x*m+y))-1=tg l m x y:=by rw[aFH];rfl
    refine⟨hln,h0,hlx,hln,ho,aT (by rw[aFH];omega),hrl,y0,hly,hrl,aT (by omega),y+1,⟨⟨by omega,.inl (by omega)⟩,by omega⟩,⟨rfl,?_,?_⟩,by omega⟩
    .rw[aHr (by omega),Int.add_assoc]
    .rw[eh];exact aK3 (tg l m) m x y y0 hy1
   .rw[eo,wF]at ho;unfold aCo;rw[wF];omega
  .have hy2:y=m:=by rcases hy.1 with⟨y0,y1⟩;omega
   refine⟨aT (by omega),x+1,⟨⟨by omega,.inl (by omega)⟩,by rw[pI];have:=hy.2;omega⟩,⟨rfl,by rw[pI,hy2],aGM _ _ _ _ hy.1,aJc (tg l m) m x y h0 hlt hy.1 hy1⟩,by omega⟩
 .have hx2:x=m:=by rcases hx.1 with⟨x0,x1⟩;omega
  have htab:aCo m l=true:=by
   unfold aCo;rw[qE];have:=hx.2;rw[hx2]at this;exact this
  refine⟨htab,aEY _ _ _ hx.1,aK1 _ _ _ hx.1 hge,?_⟩;rw[hx2]
theorem bDL: aI Tryz.prog jW bGx:=aH (aDg λ(_,m,_) xs=>(aIM m xs).1) bDM
theorem aXx: fC Tryz.prog jW KP7:=rC (aFr λ(_,m,_) xs=>(aIM m xs).2) aSD
theorem lS{l:List Int}(h:jJ l)(k:Int): jJ (fB l k):=
 ⟨jS.2 λx hx=>jS.1 h.1 x (List.mem_of_mem_drop hx),by show(fB l k).length<=_;rw[aNa];have:l.length<=2000000000000000:=h.2;omega⟩
theorem aWL(l:List Int): aB Tryz.prog jW 142 [.ptr 1 1 0 0] [(1,.var [.dat R l])] ⟨jJ l/\aCg l=true,.agg [.dat I (aN l).1,.dat I (aN l).2.1,.dat M (aN l).2.2.1,.dat (.sl M) (aN l).2.2.2],[(1,.var [.dat R (fD l)])]⟩/\
  iT Tryz.prog jW 142 [.ptr 1 1 0 0] [(1,.var [.dat R l])] ⟨jJ l,aCg l,jC 39 190⟩:=by
 refine gX (c:=c7) bDL bD hm aXx (aXP l ⟨rfl,λhp=>?_⟩)
 have hl:l.length<=2000000000000000:=hp.2;have t1:tl l=fB l 1:=rfl;have t2:tl (tl l)=fB l 2:=by rw[t1,aHr (by decide)];rfl
 have t3:tl (tl (tl l))=fB l 3:=by rw[t2,aHr (by decide)];rfl
 have t4:tl (tl (tl (tl l)))=fB l 4:=by rw[t3,aHr (by decide)];rfl
 have h0:hd l=at0 l 0:=rfl;have h1:hd (tl l)=at0 l 1:=by rw[t1,aFH];rfl
 have h2:hd (tl (tl l))=at0 l 2:=by rw[t2,aFH];rfl
 have h3:hd (tl (tl (tl l)))=at0 l 3:=by rw[t3,aFH];rfl
 have o0:fE l=decide (0<l.length):=rfl;have o1:fE (tl l)=decide (1<l.length):=by rw[t1,aEk (by decide),qAt];omega
 have o2:fE (tl (tl l))=decide (2<l.length):=by rw[t2,aEk (by decide),qAt];omega
 have o3:fE (tl (tl (tl l)))=decide (3<l.length):=by rw[t3,aEk (by decide),qAt];omega
 have bd:∀k:Nat,0<=at0 l k/\at0 l k<=65519:=λk=>by
  unfold at0;by_cases hk:k<l.length
  .exact jS.1 hp.1 _ (bT hk)
  .rw[qA,zD (by omega)];exact⟨by decide,by decide⟩
 obtain⟨a0,a1⟩:=bd 0;obtain⟨b0,b1⟩:=bd 1;obtain⟨m0,m1⟩:=bd 2;obtain⟨q0,q1⟩:=bd 3;have epl:aCg l=(decide (4<=l.length)&&aFb l&&decide (4+at0 l 2*at0 l 2+at0 l 3*(at0 l 2*at0 l 2)<=l.length)):=rfl;have ehd:aFb l=decide (at0 l 2<=12/\at0 l 3<=4/\at0 l 0<at0 l 1/\at0 l 1<=at0 l 0+60/\at0 l 1<=600):=rfl;have shrt:l.length<4->aCg l=false:=λh=>by rw[epl,vG (by omega)];rfl
 have noHd:aFb l=false->aCg l=false:=λh=>by rw[epl,h];simp
 have noLen:¬4+at0 l 2*at0 l 2+at0 l 3*(at0 l 2*at0 l 2)<=l.length->aCg l=false:=λh=>by rw[epl,vG h];simp
 simp only[h0,h1,h2,h3,o0,o1,o2,o3,t4];have eq3:Int.ofNat (Dc (at0 l 3))=at0 l 3:=vC q0;simp only[eq3];simp only[qc,Di,Es,Dk,qd,Dt,Ea,Eb,Dp,Ei,Eh,Ed,Ew,Df,Et,Dl,Dn,Eo,Dy,Dw,Dh,Dq,Ee,Fg,Dc,Dx,Dj,Dz,Ej,Du,Eu,Ez,En,Ef,Fe,Fj,Fh,Ep,Em,Ey,Fb];obtain⟨mm,hmm⟩:∃mm,mm=at0 l 2*at0 l 2:=⟨_,rfl⟩;have mm0:0<=mm:=by rw[hmm];exact gJ m0 m0
 have eK:∀k,aN6 (at0 l 3) (at0 l 2) l k=fB l (4+mm+k*mm):=λk=>by unfold aN6;rw[hmm]
 have tabA:∀k:Int,0<=k->(aCo (at0 l 2) (fB l k)=true↔mm<=((l.length-k.toNat:Nat):Int)):=λk hk=>by
  unfold aCo;rw[qE,aNa,hmm]
 have ePL:aCg l=true↔4<=l.length/\aFb l=true/\4+mm+at0 l 3*mm<=l.length:=by
  rw[epl,qC,qC,qE,qE,hmm,qDi]
 have tl_len:(aGe (at0 l 3) (at0 l 2) (fB l (4+mm))).length=(at0 l 3).toNat:=by unfold aGe;simp
 have tT_len:∀{x:Int},aCj x (at0 l 3)->(aCn (at0 l 3) (at0 l 2) (fB l (4+mm)) x).length=(at0 l 3).toNat:=λ{x} ⟨h1,h2⟩=>by
  unfold aCn;rw[qF,qI,wJ,tl_len];omega
 simp only[eK,<- hmm];refine⟨λh=>shrt (by omega),λl0=>⟨l0,λh=>shrt (by omega),λl1=>⟨l1,λh=>shrt (by omega),λl2=>⟨l2,λh=>shrt (by omega),λl3=>⟨l3,λh=>noHd ?_,λhA=>⟨hA,λh=>aT (by omega),λh=>noHd ?_,λhB=>⟨hB,?_⟩⟩⟩⟩⟩⟩⟩
 .rw[ehd,wF];intro g;exact h g.1 g.2.1
 .rw[ehd,wF];intro g;exact h ⟨g.2.2.1,g.2.2.2.1⟩ g.2.2.2.2
 have hH:aFb l=true:=by rw[ehd,qE];exact⟨hA.1,hA.2,hB.1.1,hB.1.2,hB.2⟩
 have tP:∀k,aPQ (at0 l 2) (fB l k):=λk=>⟨m0,hA.1,lS hp k⟩
 have mono:∀{k:Int},0<=k->k<=at0 l 3->k*mm<=at0 l 3*mm:=λh1 h2=>qCb h2 mm0
 have kmm:∀{k:Int},0<=k->0<=k*mm:=λh=>gJ h mm0
 have bad:¬(4+mm+at0 l 3*mm<=l.length)->aCg l=false:=λh=>by
  cases e:aCg l with
  | false=>rfl
  | true=>exact absurd (ePL.1 e).2.2 h
 refine⟨⟨tP 4,λh=>bad ?_⟩,λhT=>⟨⟨tP 4,hT⟩,q0,by omega,by omega,by simp,by simp,⟨0,⟨⟨qL _,.inr rfl⟩,?_⟩,rfl,?_,?_⟩,λx hx=>⟨λhlt=>⟨tP _,λhT2=>?_,λhT2=>bad ?_⟩,λhge=>?_⟩⟩⟩
 .have:¬mm<=((l.length-(4:Int).toNat:Nat):Int):=λg=>by rw[(tabA 4 (by decide)).2 g]at h;cases h
  have:=kmm q0;have e4:(4:Int).toNat=4:=rfl;omega
 .have:=(tabA 4 (by decide)).1 hT
  have e4:(4:Int).toNat=4:=rfl;show(0+1)*(at0 l 2*at0 l 2)<=(l.length:Int)-4;rw[<- hmm];omega
 .rw[drop_drop (by decide) mm0,Int.zero_mul,Int.add_zero]
 .unfold aCn;simp
 .have h0:=hx.1.1;have hl2:=tT_len hx.1;have h2':=hx.2;rw[<- hmm,pI]at h2';have hT3:=(tabA _ (by have:=kmm h0;omega)).1 hT2
  have:=kmm h0;refine⟨⟨tP _,hT2⟩,hl2,h0,by rw[hl2];omega,hl2,aT (by omega),x+1,⟨⟨by omega,.inl (by omega)⟩,?_⟩,⟨rfl,?_,?_⟩,by omega⟩
  .rw[<- hmm,pI,pI];omega
  .rw[drop_drop (by omega) mm0];congr 1;rw[pI];omega
  .have e:(x+1).toNat=x.toNat+1:=by omega
   have:=aDq (aGe (at0 l 3) (at0 l 2) (fB l (4+mm))) [] (aAR (at0 l 2) (fB l (4+mm+x*mm))) x.toNat (by
    unfold aGe;rw[qP,vX (by omega),zK,vC h0,drop_drop (by omega) (by rw[<- hmm];exact kmm h0),<- hmm])
   rw[tl_len]at this;unfold aCn;rw[e];exact this
 .have h0:=hx.1.1;have hx0:=kmm h0;have hn:¬mm<=((l.length-(4+mm+x*mm).toNat:Nat):Int):=λg=>by rw[(tabA _ (by omega)).2 g]at hT2;cases hT2
  have:=mono (k:=x+1) (by omega) (by omega)
  rw[pI]at this;omega
 .have hxe:x=at0 l 3:=by rcases hx.1 with⟨h1,h2⟩;omega
  subst hxe;have h2':=hx.2;rw[<- hmm,pI]at h2';refine⟨tT_len hx.1,ePL.2 ⟨by omega,hH,by omega⟩,rfl,rfl,rfl,tT_len hx.1,?_,?_⟩
  .unfold aCn;rw[qO (by rw[tl_len];exact qK _),qBz]
   show _++[]=_;rw[wE,hmm];rfl
  .rw[hmm];rfl
theorem bGm: aI Tryz.prog jW bHd:=aH (aDg λ_ xs=>(aWL xs).1) bDL
theorem bDQ: fC Tryz.prog jW KP8:=rC (aFr λ_ xs=>(aWL xs).2) aXx
end Go.Eng.In
namespace Go.Eng.Sv
abbrev Line:=ByteArray×Int×Int×Int×Int×Int
end Go.Eng.Sv
namespace Go.Eng.Sv
def fA(l:Line): Int:=l.2.1
def lTo(l:Line): Int:=l.2.2.1
def lAt(l:Line): Int:=l.2.2.2.1
def cZ(l:Line): Int:=l.2.2.2.2.1
def cell(xs:List Int)(a b:Nat): Int:=xs.getD (a*12+b) 0
def lF(xs:List Int)(a b len:Int): List Int:=
 bif decide (cell xs a.toNat b.toNat=-1)||decide (len<cell xs a.toNat b.toNat)then xs.set (a.toNat*12+b.toNat) len else xs
def aLD: List Int:=(List.range 144).map λi=>if i/12=i%12 then 0 else -1
def aCI(ls:List Line): List Int:=ls.foldl (λxs l=>lF xs (fA l) (lTo l) (cZ l)) aLD
def aHv(xs:List Int)(q:Nat): List Int:=
 bif (cell xs (q/12%12) (q/144) != -1)&&(cell xs (q/144) (q%12) != -1)then lF xs (q/12%12:Nat) (q%12:Nat) (cell xs (q/12%12) (q/144)+cell xs (q/144) (q%12))else xs
def fwN(ls:List Line)(k:Nat): List Int:=(List.range k).foldl aHv (aCI ls)
def aHM(ls:List Line): List Int:=fwN ls 1728
structure iE (n:Nat) (ls:List Line):Prop where
 n12:n<=12
 at_:∀l∈ls,0<=fA l/\fA l<n/\0<=lTo l/\lTo l<n/\fA l≠lTo l/\1<=cZ l/\cZ l<=5000
theorem aWg{xs:List Int}{a b c d:Nat}{x:Int}(hb:b<12)(hd:d<12)(hl:a*12+b<xs.length):
  cell (xs.set (a*12+b) x) c d=if c=a/\d=b then x else cell xs c d:=by
 unfold cell;rw[List.getD_eq_getElem?_getD,List.getElem?_set,List.getD_eq_getElem?_getD];by_cases h:c=a/\d=b
 .obtain⟨rfl,rfl⟩:=h;simp[hl]
 .rw[if_neg h,if_neg (by omega)]
theorem oZ(xs:List Int)(a b len:Int): (lF xs a b len).length=xs.length:=by
 unfold lF;cases(decide (cell xs a.toNat b.toNat=-1)||decide (len<cell xs a.toNat b.toNat))<;>simp
theorem jI{xs:List Int}(hl:xs.length=144){a b:Nat}(ha:a<12)(hb:b<12){len:Int}{c d:Nat}(hd:d<12):
  cell (lF xs a b len) c d=if c=a/\d=b/\(cell xs a b=-1\/len<cell xs a b)then len else cell xs c d:=by
 unfold lF;simp only[Int.toNat_natCast];by_cases h:cell xs a b=-1\/len<cell xs a b
 .have:(decide (cell xs a b=-1)||decide (len<cell xs a b))=true:=by simpa using h
  rw[this,cond_true,aWg hb hd (by omega)]
  by_cases e:c=a/\d=b
  .rw[if_pos e,if_pos ⟨e.1,e.2,h⟩]
  .rw[if_neg e,if_neg λg=>e ⟨g.1,g.2.1⟩]
 .have:(decide (cell xs a b=-1)||decide (len<cell xs a b))=false:=by
   rw[Bool.eq_false_iff];simpa using h
  rw[this,cond_false,if_neg λg=>h g.2.2]
theorem aCH(ls:List Line): (aCI ls).length=144:=by
 unfold aCI;have:∀(ls:List Line) (xs:List Int),(ls.foldl (λxs l=>lF xs (fA l) (lTo l) (cZ l)) xs).length=xs.length:=by
  intro ls;induction ls with
  | nil=>intro xs;rfl
  | cons l ls ih=>intro xs;rw[List.foldl_cons,ih,oZ]
 rw[this];rfl
theorem aIT(xs:List Int)(q:Nat): (aHv xs q).length=xs.length:=by
 unfold aHv;cases(cell xs (q/12%12) (q/144) != -1)&&(cell xs (q/144) (q%12) != -1)<;>simp[oZ]
theorem aH8(ls:List Line)(k:Nat): fwN ls (k+1)=aHv (fwN ls k) k:=by
 unfold fwN;rw[List.range_succ,List.foldl_append];rfl
theorem aDo(ls:List Line): ∀k,(fwN ls k).length=144
 | 0=>aCH ls
 | k+1=>by rw[aH8,aIT,aDo ls k]
inductive Walk (ls:List Line):Nat->Nat->Int->Prop
 | nil (a:Nat):Walk ls a a 0
 | snoc {a:Nat} {n:Int} (l:Line):l∈ls->Walk ls a (fA l).toNat n->Walk ls a (lTo l).toNat (n+cZ l)
inductive Wk (ls:List Line) (k:Nat):Nat->Nat->Int->Prop
 | refl (a:Nat):Wk ls k a a 0
 | edge (l:Line):l∈ls->Wk ls k (fA l).toNat (lTo l).toNat (cZ l)
 | via {a b c:Nat} {m n:Int}:c<k->Wk ls k a c m->Wk ls k c b n->Wk ls k a b (m+n)
theorem Walk.trans {ls:List Line} {a b c:Nat} {m n:Int} (h:Walk ls a b m) (g:Walk ls b c n):Walk ls a c (m+n):=by
 induction g with
 | nil=>simpa using h
 | snoc l hl _ ih=>rw[<- Int.add_assoc];exact .snoc l hl ih
theorem Wk.nonneg {N:Nat} {ls:List Line} (ok:iE N ls) {k a b:Nat} {n:Int} (h:Wk ls k a b n):0<=n:=by
 induction h with
 | refl=>exact Int.le_refl _
 | edge l hl=>have:=(ok.at_ l hl).2.2.2.2.2.1;omega
 | via _ _ _ h1 h2=>omega
theorem Wk.split {N:Nat} {ls:List Line} (ok:iE N ls) {k a b:Nat} {n:Int} (h:Wk ls (k+1) a b n):
  (∃m,m<=n/\Wk ls k a b m)\/∃m1 m2,m1+m2<=n/\Wk ls k a k m1/\Wk ls k k b m2:=by
 induction h with
 | refl a=>exact .inl ⟨0,Int.le_refl _,.refl a⟩
 | edge l hl=>exact .inl ⟨_,Int.le_refl _,.edge l hl⟩
 | @via a b c m n hc _ _ h1 h2=>
  by_cases e:c=k
  .subst e
   right
   have l1:∃m1,m1<=m/\Wk ls c a c m1:=by
    rcases h1 with⟨x,hx,g⟩ | ⟨x,y,hx,g,g'⟩
    .exact⟨x,hx,g⟩
    .have:=g'.nonneg ok;exact⟨x,by omega,g⟩
   have l2:∃m2,m2<=n/\Wk ls c c b m2:=by
    rcases h2 with⟨x,hx,g⟩ | ⟨x,y,hx,g,g'⟩
    .exact⟨x,hx,g⟩
    .have:=g.nonneg ok;exact⟨y,by omega,g'⟩
   obtain⟨x,hx,g⟩:=l1;obtain⟨y,hy,g'⟩:=l2;exact⟨x,y,by omega,g,g'⟩
  .have hc:c<k:=by omega
   rcases h1 with⟨x,hx,g⟩ | ⟨x,y,hx,g,g'⟩<;>rcases h2 with⟨u,hu,q⟩ | ⟨u,v,hu,q,q'⟩
   .exact .inl ⟨x+u,by omega,.via hc g q⟩
   .exact .inr ⟨x+u,v,by omega,.via hc g q,q'⟩
   .exact .inr ⟨x,y+u,by omega,g,.via hc g' q⟩
   .have:=g'.nonneg ok;have:=q.nonneg ok;exact .inr ⟨x,v,by omega,g,q'⟩
structure bAr (ls:List Line) (xs:List Int):Prop where
 len:xs.length=144
 diag:∀a,a<12->cell xs a a=0
 walk:∀a b,a<12->b<12->cell xs a b=-1\/(0<=cell xs a b/\Walk ls a b (cell xs a b))
def Below(xs:List Int)(a b:Nat)(n:Int): Prop:=cell xs a b≠-1/\cell xs a b<=n
def bDY(ls:List Line)(k:Nat)(xs:List Int): Prop:=∀a b n,a<12->b<12->Wk ls k a b n->Below xs a b n
theorem aAX{xs:List Int}(hl:xs.length=144){a b c d:Nat}(ha:a<12)(hb:b<12)(hd:d<12){len n:Int}(hlen:len≠-1)(h:Below xs c d n): Below (lF xs a b len) c d n:=by
 unfold Below at h ⊢;rw[jI hl ha hb hd];split
 .rename_i g;obtain⟨rfl,rfl,g⟩:=g;exact⟨hlen,by omega⟩
 .exact h
theorem aJg{xs:List Int}(hl:xs.length=144){a b:Nat}(ha:a<12)(hb:b<12){len:Int}(hlen:len≠-1): Below (lF xs a b len) a b len:=by
 unfold Below;rw[jI hl ha hb hb];split
 .exact⟨hlen,Int.le_refl _⟩
 .rename_i g;simp only[true_and,not_or]at g;exact⟨g.1,by omega⟩
theorem aE4{ls:List Line}{xs:List Int}(h:bAr ls xs){a b:Nat}(ha:a<12)(hb:b<12){len:Int}(h0:0<=len)(hw:Walk ls a b len): bAr ls (lF xs a b len):=by
 refine⟨by rw[oZ];exact h.len,λc hc=>?_,λc d hc hd=>?_⟩
 .rw[jI h.len ha hb hc];split
  .rename_i g;obtain⟨rfl,rfl,g⟩:=g;have:=h.diag c hc;omega
  .exact h.diag c hc
 .rw[jI h.len ha hb hd];split
  .rename_i g;obtain⟨rfl,rfl,g⟩:=g;exact .inr ⟨h0,hw⟩
  .exact h.walk c d hc hd
theorem aBw{a b:Nat}(ha:a<12)(hb:b<12): cell aLD a b=if a=b then 0 else -1:=by
 unfold cell aLD;rw[List.getD_eq_getElem?_getD,List.getElem?_map,List.getElem?_range (by omega)]
 simp only[Option.map_some,Option.getD_some];rw[show(a*12+b)/12=a by omega,show(a*12+b)%12=b by omega]
theorem aOw(ls:List Line): bAr ls aLD:=by
 refine⟨rfl,λa ha=>by rw[aBw ha ha,if_pos rfl],λa b ha hb=>?_⟩
 rw[aBw ha hb];split
 .rename_i e;subst e;exact .inr ⟨Int.le_refl _,.nil a⟩
 .exact .inl rfl
theorem toNat_lt{N:Nat}{x:Int}(h0:0<=x)(h1:x<N)(hN:N<=12): x.toNat<12:=by omega
theorem aFw{N:Nat}{ls:List Line}(ok:iE N ls): ∀(rs:List Line) (xs:List Int),(∀l∈rs,l∈ls)->bAr ls xs->(∀a b,a<12->b<12->cell xs a b<=5000)->
  bAr ls (rs.foldl (λxs l=>lF xs (fA l) (lTo l) (cZ l)) xs)/\
  (∀a b n,a<12->b<12->Below xs a b n->Below (rs.foldl (λxs l=>lF xs (fA l) (lTo l) (cZ l)) xs) a b n)/\
  (∀l∈rs,Below (rs.foldl (λxs l=>lF xs (fA l) (lTo l) (cZ l)) xs) (fA l).toNat (lTo l).toNat (cZ l))/\
  (∀a b,a<12->b<12->cell (rs.foldl (λxs l=>lF xs (fA l) (lTo l) (cZ l)) xs) a b<=5000)
 | [],xs,_,h,hb=>⟨h,λ_ _ _ _ _ h=>h,(λl hl=>by cases hl),hb⟩
 | l::rs,xs,hrs,h,hb=>by
  have hl:=hrs l (by simp)
  obtain⟨o1,o2,o3,o4,o5,o6,o7⟩:=ok.at_ l hl;have ha:=toNat_lt o1 o2 ok.n12;have hb':=toNat_lt o3 o4 ok.n12;have e:lF xs (fA l) (lTo l) (cZ l)=lF xs ((fA l).toNat:Nat) ((lTo l).toNat:Nat) (cZ l):=by
   rw[Int.toNat_of_nonneg o1,Int.toNat_of_nonneg o3]
  have hw:Walk ls (fA l).toNat (lTo l).toNat (cZ l):=by
   have:=Walk.snoc l hl (.nil (fA l).toNat)
   rwa [Int.zero_add]at this
  obtain⟨g1,g2,g3,g4⟩:=aFw ok rs (lF xs (fA l) (lTo l) (cZ l)) (λx hx=>hrs x (by simp[hx])) (by rw[e];exact aE4 h ha hb' (by omega) hw) (λa b h1 h2=>by
   rw[e,jI h.len ha hb' h2];split
   .exact o7
   .exact hb a b h1 h2)
  rw[List.foldl_cons];refine⟨g1,λa b n h1 h2 hB=>g2 a b n h1 h2 (by rw[e];exact aAX h.len ha hb' h2 (by omega) hB),λx hx=>?_,g4⟩
  rcases List.mem_cons.1 hx with rfl | hx
  .exact g2 _ _ _ ha hb' (by rw[e];exact aJg h.len ha hb' (by omega))
  .exact g3 x hx
theorem aLv{N:Nat}{ls:List Line}(ok:iE N ls): bAr ls (aCI ls)/\bDY ls 0 (aCI ls)/\∀a b,a<12->b<12->cell (aCI ls) a b<=5000:=by
 obtain⟨g1,g2,g3,g4⟩:=aFw ok ls aLD (λ_ h=>h) (aOw ls) (λa b h1 h2=>by rw[aBw h1 h2];split<;>omega)
 refine⟨g1,λa b n ha hb hw=>?_,g4⟩
 cases hw with
 | refl=>refine g2 a a 0 ha ha ?_;unfold Below;rw[aBw ha ha,if_pos rfl];omega
 | edge l hl=>exact g3 l hl
 | via hc=>omega
structure Mid (ls:List Line) (o i:Nat) (xs:List Int):Prop where
 sane:bAr ls xs
 compl:bDY ls o xs
 done:∀a b m n,a<12->b<12->a*12+b<i->Wk ls o a o m->Wk ls o o b n->Below xs a b (m+n)
 edge:∀a,a<12->cell xs a o<=5000*2 ^ o/\cell xs o a<=5000*2 ^ o
 all:∀a b,a<12->b<12->cell xs a b<=2*(5000*2 ^ o)
theorem Mid.step {N:Nat} {ls:List Line} (ok:iE N ls) {o i:Nat} (ho:o<12) (hi:i<144) {xs:List Int} (h:Mid ls o i xs):Mid ls o (i+1) (aHv xs (o*144+i)):=by
 have e1:(o*144+i)/12%12=i/12:=by omega
 have e2:(o*144+i)/144=o:=by omega
 have e3:(o*144+i)%12=i%12:=by omega
 have ha:i/12<12:=by omega
 have hb:i%12<12:=by omega
 unfold aHv;rw[e1,e2,e3];cases hc:(cell xs (i/12) o != -1)&&(cell xs o (i%12) != -1)with
 | false=>
  rw[cond_false];refine⟨h.sane,h.compl,λa b m n h1 h2 h3 w1 w2=>?_,h.edge,h.all⟩
  by_cases e:a*12+b<i
  .exact h.done a b m n h1 h2 e w1 w2
  .have ea:a=i/12:=by omega
   have eb:b=i%12:=by omega
   have g1:=h.compl a o m h1 ho w1;have g2:=h.compl o b n ho h2 w2;rw[<- ea,<- eb]at hc;simp only[Bool.and_eq_false_iff,bne_eq_false_iff_eq]at hc;rcases hc with hc | hc
   .exact(g1.1 hc).elim
   .exact(g2.1 hc).elim
 | true=>
  rw[cond_true];simp only[Bool.and_eq_true,bne_iff_ne,ne_eq]at hc;obtain⟨c1,c2⟩:=hc;obtain⟨p1,p2⟩:=(h.sane.walk _ _ ha ho).resolve_left c1;obtain⟨p3,p4⟩:=(h.sane.walk _ _ ho hb).resolve_left c2;have hne:cell xs (i/12) o+cell xs o (i%12)≠-1:=by omega
  refine⟨aE4 h.sane ha hb (by omega) (p2.trans p4),λa b n h1 h2 w=>aAX h.sane.len ha hb h2 hne (h.compl a b n h1 h2 w),λa b m n h1 h2 h3 w1 w2=>?_,λa h1=>?_,λa b h1 h2=>?_⟩
  .by_cases e:a*12+b<i
   .exact aAX h.sane.len ha hb h2 hne (h.done a b m n h1 h2 e w1 w2)
   .have ea:a=i/12:=by omega
    have eb:b=i%12:=by omega
    have g1:=(h.compl a o m h1 ho w1).2;have g2:=(h.compl o b n ho h2 w2).2;rw[<- ea,<- eb]at hne ⊢;have g3:=aJg (a:=a) (b:=b) h.sane.len h1 h2 hne;exact⟨g3.1,by have:=g3.2;omega⟩
  .have hd:=h.sane.diag o ho;have q:=h.edge a h1;constructor
   .rw[jI h.sane.len ha hb ho];split
    .rename_i g;obtain⟨rfl,g5,g6⟩:=g;rw[<- g5,hd]at g6;have:=q.1;omega
    .exact q.1
   .rw[jI h.sane.len ha hb h1];split
    .rename_i g;obtain⟨g5,rfl,g6⟩:=g;rw[<- g5,hd]at g6;have:=q.2;omega
    .exact q.2
  .rw[jI h.sane.len ha hb h2];split
   .have q1:=(h.edge (i/12) ha).1;have q2:=(h.edge (i%12) hb).2;omega
   .exact h.all a b h1 h2
theorem Mid.next {N:Nat} {ls:List Line} (ok:iE N ls) {o:Nat} (ho:o+1<12) {xs:List Int} (h:Mid ls o 144 xs):Mid ls (o+1) 0 xs:=by
 have e:5000*2 ^ (o+1)=2*(5000*2 ^ o:Int):=by rw[Int.pow_succ];omega
 refine⟨h.sane,λa b n h1 h2 w=>?_,λa b m n h1 h2 h3=>by omega,λa h1=>by rw[e];exact⟨h.all a (o+1) h1 ho,h.all (o+1) a ho h1⟩,λa b h1 h2=>?_⟩
 .rcases w.split ok with⟨m,hm,g⟩ | ⟨m1,m2,hm,g1,g2⟩
  .have:=h.compl a b m h1 h2 g;exact⟨this.1,by have:=this.2;omega⟩
  .have:=h.done a b m1 m2 h1 h2 (by omega) g1 g2;exact⟨this.1,by have:=this.2;omega⟩
 .have:=h.all a b h1 h2;have h0:(0:Int)<=5000*2 ^ o:=Int.mul_nonneg (by decide) (Int.le_of_lt (Int.pow_pos (by decide)))
  rw[e];omega
theorem aZV{N:Nat}{ls:List Line}(ok:iE N ls): ∀(o:Nat),o<12->∀i,i<=144->Mid ls o i (fwN ls (o*144+i)):=by
 intro o;have row:∀o,o<12->Mid ls o 0 (fwN ls (o*144))->∀i,i<=144->Mid ls o i (fwN ls (o*144+i)):=by
  intro o ho h i;induction i with
  | zero=>intro _;exact h
  | succ i ih=>
   intro hi;rw[<- Nat.add_assoc,aH8];exact(ih (by omega)).step ok ho (by omega)
 induction o with
 | zero=>
  intro _;refine row 0 (by decide) ?_
  obtain⟨g1,g2,g3⟩:=aLv ok;refine⟨g1,g2,λa b m n h1 h2 h3=>by omega,λa h1=>⟨?_,?_⟩,λa b h1 h2=>?_⟩
  .have:=g3 a 0 h1 (by decide)
   show cell (aCI ls) a 0<=5000*2 ^ 0;omega
  .have:=g3 0 a (by decide) h1
   show cell (aCI ls) 0 a<=5000*2 ^ 0;omega
  .have:=g3 a b h1 h2;simp only[Int.pow_zero,Int.mul_one];show cell (aCI ls) a b<=_;omega
 | succ o ih=>
  intro ho;refine row (o+1) ho ?_;have:=(ih (by omega) 144 (Nat.le_refl _)).next ok ho
  rw[show o*144+144=(o+1)*144 by omega]at this
  exact this
theorem aJ2{N:Nat}{ls:List Line}(ok:iE N ls){k:Nat}(hk:k<=1728){a b:Nat}(ha:a<12)(hb:b<12): -1<=cell (fwN ls k) a b/\cell (fwN ls k) a b<=20480000:=by
 have h:∃o i,o<12/\i<=144/\k=o*144+i:=by
  by_cases e:k=1728
  .exact⟨11,144,by decide,by decide,by omega⟩
  .exact⟨k/144,k%144,by omega,by omega,by omega⟩
 obtain⟨o,i,ho,hi,rfl⟩:=h;have m:=aZV ok o ho i hi;have h1:=m.all a b ha hb;have h2:=m.sane.walk a b ha hb;have h3:(2:Int) ^ o<=2 ^ 11:=by
  have:(2:Nat) ^ o<=2 ^ 11:=Nat.pow_le_pow_right (by decide) (by omega)
  exact_mod_cast this
 have h4:(2:Int) ^ 11=2048:=by decide
 constructor
 .rcases h2 with h2 | h2<;>omega
 .omega
structure aBj (ls:List Line) (a:Nat) (d:Nat->Int):Prop where
 self:d a=0
 low:∀b,b<12->-1<=d b
 line:∀l∈ls,0<=d (fA l).toNat->0<=d (lTo l).toNat/\d (lTo l).toNat<=d (fA l).toNat+cZ l
 last:∀b,b<12->b≠a->0<=d b->∃l∈ls,(lTo l).toNat=b/\0<=d (fA l).toNat/\d b=d (fA l).toNat+cZ l
theorem aBj.walk {N:Nat} {ls:List Line} (ok:iE N ls) {a:Nat} {d:Nat->Int} (h:aBj ls a d) {b:Nat} {n:Int} (w:Walk ls a b n):0<=d b/\d b<=n:=by
 induction w with
 | nil=>rw[h.self];exact⟨Int.le_refl _,Int.le_refl _⟩
 | snoc l hl _ ih=>have:=h.line l hl ih.1;have:=ih.2;omega
theorem Walk.wk {N:Nat} {ls:List Line} (ok:iE N ls) {a b:Nat} {n:Int} (w:Walk ls a b n):Wk ls 12 a b n:=by
 induction w with
 | nil=>exact .refl _
 | snoc l hl _ ih=>
  have o:=ok.at_ l hl;exact .via (toNat_lt o.1 o.2.1 ok.n12) ih (.edge l hl)
theorem aBj.toWalk {N:Nat} {ls:List Line} (ok:iE N ls) {a:Nat} {d:Nat->Int} (h:aBj ls a d):∀(k b:Nat),b<12->0<=d b->(d b).toNat<=k->Walk ls a b (d b):=by
 intro k;induction k with
 | zero=>
  intro b hb h0 hk;by_cases e:b=a
  .subst e;rw[h.self];exact .nil b
  .obtain⟨l,hl,e1,e2,e3⟩:=h.last b hb e h0;have:=(ok.at_ l hl).2.2.2.2.2.1;omega
 | succ k ih=>
  intro b hb h0 hk;by_cases e:b=a
  .subst e;rw[h.self];exact .nil b
  .obtain⟨l,hl,e1,e2,e3⟩:=h.last b hb e h0;have o:=ok.at_ l hl;have:=o.2.2.2.2.2.1;have w:=ih _ (toNat_lt o.1 o.2.1 ok.n12) e2 (by omega)
   have:=Walk.snoc l hl w;rw[e1,<- e3]at this;exact this
theorem aBj.unique {N:Nat} {ls:List Line} (ok:iE N ls) {a:Nat} {d e:Nat->Int} (h:aBj ls a d) (g:aBj ls a e) {b:Nat} (hb:b<12):d b=e b:=by
 have h1:=h.low b hb;have h2:=g.low b hb;by_cases p:0<=d b
 .have:=g.walk ok (h.toWalk ok _ b hb p (Nat.le_refl _));have:=h.walk ok (g.toWalk ok _ b hb this.1 (Nat.le_refl _));omega
 .by_cases q:0<=e b
  .have:=h.walk ok (g.toWalk ok _ b hb q (Nat.le_refl _));omega
  .omega
def at1(row:List Int)(b:Nat): Int:=row.getD b 0
def oU(row:List Int)(l:Line): List Int:=
 bif decide (0<=at1 row (fA l).toNat)&&(decide (at1 row (lTo l).toNat<0)||decide (at1 row (lTo l).toNat>at1 row (fA l).toNat+cZ l))then row.set (lTo l).toNat (at1 row (fA l).toNat+cZ l)else row
def aC2(m:Nat)(a:Nat): List Int:=(List.range m).map λb=>if b=a then 0 else -1
def aIB(ls:List Line)(row:List Int): List Int:=ls.foldl oU row
def bfN(ls:List Line)(m a r:Nat): List Int:=(List.range r).foldl (λrow _=>aIB ls row) (aC2 m a)
theorem bAk{row:List Int}{i b:Nat}{x:Int}(hi:i<row.length): at1 (row.set i x) b=if b=i then x else at1 row b:=by
 unfold at1;rw[List.getD_eq_getElem?_getD,List.getElem?_set,List.getD_eq_getElem?_getD];by_cases h:i=b
 .subst h;simp[hi]
 .rw[if_neg h,if_neg (λe=>h e.symm)]
theorem aAx(row:List Int)(l:Line): (oU row l).length=row.length:=by
 unfold oU;cases(decide (0<=at1 row (fA l).toNat)&&(decide (at1 row (lTo l).toNat<0)||decide (at1 row (lTo l).toNat>at1 row (fA l).toNat+cZ l)))<;>simp
theorem aC1{row:List Int}{l:Line}(ht:(lTo l).toNat<row.length)(b:Nat): at1 (oU row l) b =
  if b=(lTo l).toNat/\0<=at1 row (fA l).toNat/\(at1 row (lTo l).toNat<0\/at1 row (lTo l).toNat>at1 row (fA l).toNat+cZ l)then at1 row (fA l).toNat+cZ l else at1 row b:=by
 unfold oU;by_cases h:0<=at1 row (fA l).toNat/\(at1 row (lTo l).toNat<0\/at1 row (lTo l).toNat>at1 row (fA l).toNat+cZ l)
 .have e:(decide (0<=at1 row (fA l).toNat)&&(decide (at1 row (lTo l).toNat<0)||decide (at1 row (lTo l).toNat>at1 row (fA l).toNat+cZ l)))=true:=by simpa using h
  rw[e,cond_true,bAk ht];by_cases hb:b=(lTo l).toNat
  .rw[if_pos hb,if_pos ⟨hb,h⟩]
  .rw[if_neg hb,if_neg λg=>hb g.1]
 .have e:(decide (0<=at1 row (fA l).toNat)&&(decide (at1 row (lTo l).toNat<0)||decide (at1 row (lTo l).toNat>at1 row (fA l).toNat+cZ l)))=false:=by
   rw[Bool.eq_false_iff];simpa using h
  rw[e,cond_false,if_neg λg=>h g.2]
def Abv(m:Nat)(d:Nat->Int)(row:List Int): Prop:=row.length=m/\∀b,b<m->at1 row b=-1\/(0<=d b/\d b<=at1 row b)
def aWx(d:Nat->Int)(row:List Int)(b:Nat): Prop:=0<=d b/\at1 row b=d b
section
variable {m:Nat} {ls:List Line} {a:Nat} {d:Nat->Int}
theorem aOZ(ok:iE m ls)(h:aBj ls a d){row:List Int}(hr:Abv m d row){l:Line}(hl:l∈ls): Abv m d (oU row l):=by
 have o:=ok.at_ l hl;refine⟨by rw[aAx];exact hr.1,λb hb=>?_⟩
 rw[aC1 (by rw[hr.1];omega)]
 split
 .rename_i g;obtain⟨rfl,g1,g2⟩:=g;rcases hr.2 (fA l).toNat (by omega)with q | q
  .omega
  .have:=h.line l hl q.1
   right
   omega
 .exact hr.2 b hb
theorem aHh(ok:iE m ls)(h:aBj ls a d){row:List Int}(hr:Abv m d row){l:Line}(hl:l∈ls){b:Nat}(hb:b<m)(hs:aWx d row b): aWx d (oU row l) b:=by
 have o:=ok.at_ l hl;refine⟨hs.1,?_⟩;rw[aC1 (by rw[hr.1];omega)]
 split
 .rename_i g;obtain⟨rfl,g1,g2⟩:=g;rcases hr.2 (fA l).toNat (by omega)with q | q
  .omega
  .have:=h.line l hl q.1;have:=hs.1;have:=hs.2;omega
 .exact hs.2
theorem aOY(ok:iE m ls){row:List Int}(hr:Abv m d row){l:Line}(hl:l∈ls)(hs:aWx d row (fA l).toNat)(h0:0<=d (lTo l).toNat)(he:d (lTo l).toNat=d (fA l).toNat+cZ l): aWx d (oU row l) (lTo l).toNat:=by
 have o:=ok.at_ l hl;refine⟨h0,?_⟩;have e1:=hs.2;have e2:=hs.1;rw[aC1 (by rw[hr.1];omega)]
 split
 .omega
 .rename_i g;have g':¬(0<=at1 row (fA l).toNat/\(at1 row (lTo l).toNat<0\/at1 row (lTo l).toNat>at1 row (fA l).toNat+cZ l)):=λq=>g ⟨rfl,q⟩
  rcases hr.2 (lTo l).toNat (by omega)with q | q<;>omega
theorem aXn(ok:iE m ls)(h:aBj ls a d): ∀(rs:List Line) (row:List Int),(∀l∈rs,l∈ls)->Abv m d row->Abv m d (rs.foldl oU row)/\(∀b,b<m->aWx d row b->aWx d (rs.foldl oU row) b)/\
  ∀l∈rs,aWx d row (fA l).toNat->0<=d (lTo l).toNat->d (lTo l).toNat=d (fA l).toNat+cZ l->aWx d (rs.foldl oU row) (lTo l).toNat
 | [],row,_,hr=>⟨hr,λ_ _ h=>h,(λl hl=>by cases hl)⟩
 | x::rs,row,hrs,hr=>by
  have hx:=hrs x (by simp)
  have ox:=ok.at_ x hx;obtain⟨g1,g2,g3⟩:=aXn ok h rs (oU row x) (λl hl=>hrs l (by simp[hl])) (aOZ ok h hr hx)
  rw[List.foldl_cons];refine⟨g1,λb hb hs=>g2 b hb (aHh ok h hr hx hb hs),λl hl hs h0 he=>?_⟩
  have o:=ok.at_ l (hrs l hl);rcases List.mem_cons.1 hl with rfl | hl
  .exact g2 _ (by omega) (aOY ok hr hx hs h0 he)
  .exact g3 l hl (aHh ok h hr hx (by omega) hs) h0 he
def rank(m:Nat)(d:Nat->Int)(b:Nat): Nat:=((List.range m).filter λx=>decide (0<=d x/\d x<d b)).length
theorem filter_lt{α:Type}{p q:α->Bool}: ∀{l:List α} {x:α},(∀y,p y=true->q y=true)->x∈l->p x=false->q x=true->(l.filter p).length<(l.filter q).length
 | [],_,_,h,_,_=>by cases h
 | y::l,x,hpq,hx,hp,hq=>by
  have le:∀l:List α,(l.filter p).length<=(l.filter q).length:=by
   intro l;induction l with
   | nil=>exact Nat.le_refl _
   | cons z l ih=>
    simp only[List.filter_cons];cases h1:p z with
    | true=>rw[hpq z h1];simpa using ih
    | false=>cases q z<;>simp<;>omega
  rcases List.mem_cons.1 hx with rfl | hx
  .simp only[List.filter_cons,hp,hq,Bool.false_eq_true,if_false,if_true,List.length_cons];have:=le l;omega
  .have ih:=filter_lt hpq hx hp hq;simp only[List.filter_cons];cases h1:p y with
   | true=>rw[hpq y h1];simpa using ih
   | false=>cases q y<;>simp<;>omega
theorem aQP{b c:Nat}(hc:c<m)(h0:0<=d c)(h1:d c<d b): rank m d c<rank m d b:=by
 refine filter_lt (x:=c) (λy hy=>?_) (List.mem_range.2 hc) ?_ ?_
 .have:=of_decide_eq_true hy;exact decide_eq_true (by omega)
 .exact decide_eq_false (by omega)
 .exact decide_eq_true (by omega)
theorem aKq{x:Nat}(hx:x<m): at1 (aC2 m a) x=if x=a then 0 else -1:=by
 unfold at1 aC2;rw[List.getD_eq_getElem?_getD,List.getElem?_map,List.getElem?_range hx];rfl
theorem aIC(ls:List Line)(m a r:Nat): bfN ls m a (r+1)=aIB ls (bfN ls m a r):=by
 unfold bfN;rw[List.range_succ,List.foldl_append];rfl
theorem aWn(ok:iE m ls)(h:aBj ls a d)(ha:a<m): ∀r,Abv m d (bfN ls m a r)/\∀b,b<m->0<=d b->rank m d b<=r->aWx d (bfN ls m a r) b
 | 0=>by
  have e:bfN ls m a 0=aC2 m a:=rfl;rw[e];refine⟨⟨by simp[aC2],λb hb=>?_⟩,λb hb h0 hr=>?_⟩
  .rw[aKq hb];split
   .rename_i e;subst e;right;rw[h.self];omega
   .exact .inl rfl
  .by_cases e:b=a
   .subst e;exact⟨h0,by rw[aKq hb,if_pos rfl,h.self]⟩
   .obtain⟨l,hl,e1,e2,e3⟩:=h.last b (Nat.lt_of_lt_of_le hb ok.n12) e h0;have:=(ok.at_ l hl).2.2.2.2.2.1;have:=aQP (m:=m) (d:=d) (b:=b) (c:=a) ha (by rw[h.self];omega) (by rw[h.self];omega)
    omega
 | r+1=>by
  obtain⟨g1,g2⟩:=aWn ok h ha r;obtain⟨f1,f2,f3⟩:=aXn ok h ls (bfN ls m a r) (λ_ h=>h) g1
  rw[aIC];refine⟨f1,λb hb h0 hr=>?_⟩
  by_cases e:b=a
  .have:rank m d b<=r\/rank m d b=r+1:=by omega
   have hz:rank m d b=0:=by
    unfold rank;rw[List.length_eq_zero_iff,List.filter_eq_nil_iff];intro x _;rw[e,h.self];exact λg=>by have:=of_decide_eq_true g;omega
   exact f2 b hb (g2 b hb h0 (by omega))
  .obtain⟨l,hl,e1,e2,e3⟩:=h.last b (Nat.lt_of_lt_of_le hb ok.n12) e h0;have o:=ok.at_ l hl;have hlt:=aQP (m:=m) (d:=d) (b:=b) (c:=(fA l).toNat) (by omega) e2 (by omega)
   have hs:=g2 _ (by omega) e2 (by omega)
   have:=f3 l hl hs (by rw[e1];exact h0) (by rw[e1];exact e3)
   rwa [e1]at this
end
end Go.Eng.Sv
set_option maxRecDepth 100000
noncomputable section
namespace Go.Eng.Sv
open Go.Proofs
abbrev I: Ty:=.int .i64
abbrev U: Ty:=.int .u8
abbrev B: Ty:=.sl .bool
abbrev R: Ty:=.sl I
abbrev LC: Type:=List (Int×List Bool×List Int)
abbrev LB: Type:=List ByteArray
abbrev C: Ty:=.pair I (.pair B R)
abbrev S: Ty:=.str
abbrev cal(z:Int)(w:List Bool)(h:List Int): AV:=.agg [.dat I z,.dat B w,.dat R h]
def kw: List ByteArray:=[⟨#[99,97,108,101,110,100,97,114]⟩,⟨#[111,112,101,114,97,116,111,114]⟩,⟨#[111,102,102,105,99,101]⟩,⟨#[108,105,110,101]⟩,⟨#[99,108,97,115,115]⟩,⟨#[122,111,110,101]⟩,⟨#[119,101,101,107]⟩,⟨#[104,111,108,105,100,97,121]⟩,⟨#[112,111,99,107,101,116,115]⟩,⟨#[112,97,115,115,101,115]⟩,⟨#[109,105,110,117,116,101,115]⟩,⟨#[99,111,100,101,115]⟩,⟨#[97,116]⟩,⟨#[116,114,97,118,101,108]⟩,⟨#[108,111,97,100]⟩,⟨#[99,117,116]⟩,⟨#[100,101,108,105,118,101,114]⟩]
def uD(b:Int): Bool:=decide (97<=b/\b<=122)
def lZ(b:Int): Bool:=decide (48<=b/\b<=57)
def jU(v a b:Int): Bool:=decide (a<=v/\v<=b)
def nameB(b:Int): Bool:=uD b||lZ b||decide (b=95)
def aFV(b:Int): Bool:=lZ b||decide (65<=b/\b<=90)
def isKey(s:ByteArray): Bool:=kw.any λw=>w.toList==s.toList
def gV(s:ByteArray): Bool:=decide (1<=s.size/\s.size<=16)&&uD ((s.data.getD 0 0).toNat:Int)&&(s.data.toList.all λb=>nameB (b.toNat:Int))&&!isKey s
def iY(s:ByteArray): Bool:=decide (1<=s.size/\s.size<=8)&&s.data.toList.all λb=>aFV (b.toNat:Int)
def aCB(s:ByteArray)(k:Int): Prop:=0<=k/\k<=s.size/\(s.data.toList.take k.toNat).all (λb=>nameB (b.toNat:Int))=true
def aCT(s:ByteArray)(k:Int): Prop:=0<=k/\k<=s.size/\(s.data.toList.take k.toNat).all (λb=>aFV (b.toNat:Int))=true
def aDl(s:ByteArray)(k:Int): Prop:=0<=k/\k<=17/\(kw.take k.toNat).any (λw=>w.toList==s.toList)=false
def aO(z:Int)(w:List Bool)(h:List Int): Bool:=decide (-720<=z/\z<=840/\w.length=7/\h.length<=40)&&(List.range (h.length-1)).all λi=>decide (h.getD i 0<h.getD (i+1) 0)
def oN(w:List Bool)(h:List Int): Bool:=decide (w.length<=20)&&decide (h.length<=60)
def aEc(h:List Int)(k:Int): Prop:=1<=k/\(k<=h.length\/k=1)/\h.length<=40/\∀i:Nat,(i:Int)+1<k->h.getD i 0<h.getD (i+1) 0
def sF(k:Int): Int:=if k=3 then 12 else if k=4 then 40 else if k=5 then 4 else 6
def K0: Kt:=λf args m=>none
def G0: List (Nat×AV):=[(0,.ia S kw)]
def KI0: FuncId->List AV->Option sV:=λ_ _=>none
noncomputable def mkc(K:Kt): Cfg:=⟨Tryz.prog,G0,K,λ_=>false,KI0,false,λ_ _ _=>none,λ_=>false⟩
def aMf(h:List Int): Ann:=⟨λid s=>match id with
 | 4=>some {α:=Int,inv:=λk=>aEc h k,st:=λk=>put s [(3,.dat I k)],μ:=λk=>Dc (Dh (Df h) k)}
 | _=>none,λ_ _=>none,λ_ _=>none⟩
theorem aHn(z:Int)(w:List Bool)(h:List Int)(hvc:
 let c1:=Dp z (-720);let c2:=Dk c1;let c3:=Ec c1 true (Ei z 840);let c4:=Dk c3;let c5:=Ec c3 true (Eb (Df w) 7);let c6:=Dk c5;let c7:=Ec c5 true (Ei (Df h) 40);let c8:=(z,w,h);true/\(True->(c2->c2->c2)/\(c2->c2->c2)/\(Di true c2->c2)/\(c4->c4->c4)/\(c4->c4->c4)/\(c4->c4->c4)/\(Di true c4->c4)/\(c6->c6->c6)/\(c6->c6->c6)/\(c6->c6->c6)/\(Di true c6->c6)/\(c7->false=aO z w h/\True)/\(c7=false->(∃x,aEc h x/\c8=c8/\1=x/\True)/\∀(x:Int),let c9:=Dp x (Df h);let c10:=x-1;let c11:=Eh (Du h (Dc x) 0) (Du h (Dc c10) 0);let c12:=x+1;aEc h x->(c9->0<=x/\x<Df h/\inR IntKind.i64 c10/\0<=c10/\c10<Df h/\(c11->false=aO z w h/\True)/\(c11=false->inR IntKind.i64 c12/\∃y,aEc h y/\(c8=c8/\c12=y/\True)/\Dc (Df h-y)<Dc (Df h-x)))/\(c9=false->true=aO z w h/\True)))):
  evF (mkc K0) (lvA [(4,[1,2,3])] (aMf h)) 161 [cal z w h] [] ⟨True,.dat .bool (aO z w h),[]⟩:=@of_eq _ _ (by kernel_rfl) hvc
theorem aPg(z:Int)(w:List Bool)(h:List Int)(hvc:
 let c1:=Dp z (-720);let c2:=Dk c1;let c3:=Ec c1 true (Ei z 840);let c4:=Dk c3;let c5:=Ec c3 true (Eb (Df w) 7);let c6:=Dk c5;let c7:=Ec c5 true (Ei (Df h) 40);let c8:=(z,w,h);true/\(True->(c2->c2->c2)/\(c2->c2->c2)/\(Di true c2->c2)/\(c4->c4->c4)/\(c4->c4->c4)/\(c4->c4->c4)/\(Di true c4->c4)/\(c6->c6->c6)/\(c6->c6->c6)/\(c6->c6->c6)/\(Di true c6->c6)/\(c7->false=aO z w h/\True)/\(c7=false->(∃x,aEc h x/\c8=c8/\1=x/\True)/\∀(x:Int),let c9:=Dp x (Df h);let c10:=x-1;let c11:=Ed (Du h (Dc c10) 0) (Du h (Dc x) 0);let c12:=x+1;aEc h x->(c9->inR IntKind.i64 c10/\0<=c10/\c10<Df h/\0<=x/\x<Df h/\(c11->false=aO z w h/\True)/\(c11=false->inR IntKind.i64 c12/\∃y,aEc h y/\(c8=c8/\c12=y/\True)/\Dc (Df h-y)<Dc (Df h-x)))/\(c9=false->true=aO z w h/\True)))):
  evF (mkc K0) (lvA [(4,[1,2,3])] (aMf h)) 118 [cal z w h] [] ⟨True,.dat .bool (aO z w h),[]⟩:=@of_eq _ _ (by kernel_rfl) hvc
theorem aTe(z:Int)(w:List Bool)(h:List Int)(hvc:
 let c1:=Eh (Df w) 20;true/\(True->(c1->c1->c1)/\(c1->c1->c1)/\(c1->c1->c1)/\(Di true c1->c1)/\Ec c1 (Eh (Df h) 60) false=oN w h/\True)):
  evF (mkc K0) aQ 167 [cal z w h] [] ⟨True,.dat .bool (oN w h),[]⟩:=@of_eq _ _ (by kernel_rfl) hvc
theorem aNH(b:Int)(hvc:
 let c1:=Ed b 97;true/\(True->(c1->c1->c1)/\(Di true c1->c1)/\Ec c1 (Eh b 122) false=uD b/\True)):
  evF (mkc K0) aQ 283 [.dat U b] [] ⟨True,.dat .bool (uD b),[]⟩:=@of_eq _ _ (by kernel_rfl) hvc
theorem aNI(b:Int)(hvc:
 let c1:=Ed b 48;true/\(True->(c1->c1->c1)/\(Di true c1->c1)/\Ec c1 (Eh b 57) false=lZ b/\True)):
  evF (mkc K0) aQ 284 [.dat U b] [] ⟨True,.dat .bool (lZ b),[]⟩:=@of_eq _ _ (by kernel_rfl) hvc
theorem aTV(b:Int)(hvc:
 let c1:=Ed b 48;true/\(True->(c1->c1->c1)/\(Di true c1->c1)/\Ec c1 (Eh b 57) false=lZ b/\True)):
  evF (mkc K0) aQ 297 [.dat U b] [] ⟨True,.dat .bool (lZ b),[]⟩:=@of_eq _ _ (by kernel_rfl) hvc
theorem aPr(v a b:Int)(hvc:
 true/\(True->(Ed v a->Ed v a->Ed v a)/\(Ed v a->Ed v a->Ed v a)/\(Di true (Ed v a)->Ed v a)/\Ec (Ed v a) (Eh v b) false=jU v a b/\True)):
  evF (mkc K0) aQ 248 [.dat I v,.dat I a,.dat I b] [] ⟨True,.dat .bool (jU v a b),[]⟩:=@of_eq _ _ (by kernel_rfl) hvc
theorem aNP(v a b:Int)(hvc:
 true/\(True->(Ed v a->Ed v a->Ed v a)/\(Ed v a->Ed v a->Ed v a)/\(Di true (Ed v a)->Ed v a)/\Ec (Ed v a) (Eh v b) false=jU v a b/\True)):
  evF (mkc K0) aQ 300 [.dat I v,.dat I a,.dat I b] [] ⟨True,.dat .bool (jU v a b),[]⟩:=@of_eq _ _ (by kernel_rfl) hvc
theorem aTD(k:Int)(hvc:
 let c1:=Ea k 3;let c2:=Ea k 4;let c3:=Ea k 5;true/\(True->(c1->12=sF k/\True)/\(c1=false->(c2->40=sF k/\True)/\(c2=false->(c3->4=sF k/\True)/\(c3=false->6=sF k/\True))))):
  evF (mkc K0) aQ 226 [.dat I k] [] ⟨True,.dat I (sF k),[]⟩:=@of_eq _ _ (by kernel_rfl) hvc
theorem aX2(hvc:
 true/\(True->[ByteArray.mk #[(99:UInt8),(97:UInt8),(108:UInt8),(101:UInt8),(110:UInt8),(100:UInt8),(97:UInt8),(114:UInt8)],ByteArray.mk #[(111:UInt8),(112:UInt8),(101:UInt8),(114:UInt8),(97:UInt8),(116:UInt8),(111:UInt8),(114:UInt8)],ByteArray.mk #[(111:UInt8),(102:UInt8),(102:UInt8),(105:UInt8),(99:UInt8),(101:UInt8)],ByteArray.mk #[(108:UInt8),(105:UInt8),(110:UInt8),(101:UInt8)],ByteArray.mk #[(99:UInt8),(108:UInt8),(97:UInt8),(115:UInt8),(115:UInt8)],ByteArray.mk #[(122:UInt8),(111:UInt8),(110:UInt8),(101:UInt8)],ByteArray.mk #[(119:UInt8),(101:UInt8),(101:UInt8),(107:UInt8)],ByteArray.mk #[(104:UInt8),(111:UInt8),(108:UInt8),(105:UInt8),(100:UInt8),(97:UInt8),(121:UInt8)],ByteArray.mk #[(112:UInt8),(111:UInt8),(99:UInt8),(107:UInt8),(101:UInt8),(116:UInt8),(115:UInt8)],ByteArray.mk #[(112:UInt8),(97:UInt8),(115:UInt8),(115:UInt8),(101:UInt8),(115:UInt8)],ByteArray.mk #[(109:UInt8),(105:UInt8),(110:UInt8),(117:UInt8),(116:UInt8),(101:UInt8),(115:UInt8)],ByteArray.mk #[(99:UInt8),(111:UInt8),(100:UInt8),(101:UInt8),(115:UInt8)],ByteArray.mk #[(97:UInt8),(116:UInt8)],ByteArray.mk #[(116:UInt8),(114:UInt8),(97:UInt8),(118:UInt8),(101:UInt8),(108:UInt8)],ByteArray.mk #[(108:UInt8),(111:UInt8),(97:UInt8),(100:UInt8)],ByteArray.mk #[(99:UInt8),(117:UInt8),(116:UInt8)],ByteArray.mk #[(100:UInt8),(101:UInt8),(108:UInt8),(105:UInt8),(118:UInt8),(101:UInt8),(114:UInt8)]]=kw/\True)):
  evF (mkc K0) aQ 303 [] [] ⟨True,.dat (.sl S) kw,[]⟩:=@of_eq _ _ (by kernel_rfl) hvc
def K1: Kt:=λf args m=>match f,args,m with
 | 161,[.agg [.dat (.int .i64) z,.dat (.sl .bool) w,.dat (.sl (.int .i64)) h]],[]=>some ⟨True,.dat .bool (aO z w h),[]⟩
 | 118,[.agg [.dat (.int .i64) z,.dat (.sl .bool) w,.dat (.sl (.int .i64)) h]],[]=>some ⟨True,.dat .bool (aO z w h),[]⟩
 | 167,[.agg [.dat (.int .i64) z,.dat (.sl .bool) w,.dat (.sl (.int .i64)) h]],[]=>some ⟨True,.dat .bool (oN w h),[]⟩
 | 283,[.dat (.int .u8) b],[]=>some ⟨True,.dat .bool (uD b),[]⟩
 | 284,[.dat (.int .u8) b],[]=>some ⟨True,.dat .bool (lZ b),[]⟩
 | 297,[.dat (.int .u8) b],[]=>some ⟨True,.dat .bool (lZ b),[]⟩
 | 248,[.dat (.int .i64) v,.dat (.int .i64) a,.dat (.int .i64) b],[]=>some ⟨True,.dat .bool (jU v a b),[]⟩
 | 300,[.dat (.int .i64) v,.dat (.int .i64) a,.dat (.int .i64) b],[]=>some ⟨True,.dat .bool (jU v a b),[]⟩
 | 226,[.dat (.int .i64) k],[]=>some ⟨True,.dat I (sF k),[]⟩
 | 303,[],[]=>some ⟨True,.dat (.sl S) kw,[]⟩
 | _,_,_=>none
def aZP(s:ByteArray): Ann:=⟨λid st=>match id with
 | 4=>some {α:=Int,inv:=λk=>aCB s k,st:=λk=>put st [(24,.dat I k)],μ:=λk=>Dc (Dh (Et s) k)}
 | 10=>some {α:=Int,inv:=λk=>aDl s k,st:=λk=>put st [(42,.dat I k)],μ:=λk=>Dc (Dh 17 k)}
 | _=>none,λ_ _=>none,λ_ _=>none⟩
def aZQ(s:ByteArray): Ann:=⟨λid st=>match id with
 | 4=>some {α:=Int,inv:=λk=>aCT s k,st:=λk=>put st [(16,.dat I k)],μ:=λk=>Dc (Dh (Et s) k)}
 | _=>none,λ_ _=>none,λ_ _=>none⟩
def bHl(s:ByteArray): Ann:=⟨λid st=>match id with
 | 3=>some {α:=Int,inv:=λk=>aDl s k,st:=λk=>put st [(4,.dat I k)],μ:=λk=>Dc (Dh 17 k)}
 | _=>none,λ_ _=>none,λ_ _=>none⟩
theorem aKL(v:Int)(hvc:
 let c1:=jU v 0 1439;true/\(True->True/\c1=c1/\True)):
  evF (mkc K1) aQ 202 [.dat I v] [] ⟨True,.dat .bool (jU v 0 1439),[]⟩:=@of_eq _ _ (by kernel_rfl) hvc
theorem aPq(s:ByteArray)(hvc:
 let c1:=Dp (Et s) 1;let c2:=Dk c1;let c3:=Ec c1 true (Ei (Et s) 16);let c4:=Dk c3;let c5:=Ec c3 true (Dk (uD (Gg s 0)));true/\(True->(c2->c2->c2)/\(c2->c2->c2)/\(Di true c2->c2)/\(c4->c4->c4)/\(c4->Dl 0 0)/\(c4->0<Et s)/\(c4->c4->c4)/\(c4->True)/\(c4->c4->c4)/\(Di true c4->c4)/\(c5->false=gV s/\True)/\(c5=false->(∃x,aCB s x/\s=s/\Fq s=Fq s/\Df (Fq s)=Df (Fq s)/\0=x/\True)/\∀(x:Int),let c6:=Dp x (Df (Fq s));let c7:=Du (Fq s) (Dc x) 0;let c8:=Dk (uD c7);let c9:=Ec c8 (Dk (lZ c7)) false;let c10:=Ec c9 (Eb c7 95) false;let c11:=x+1;aCB s x->(c6->0<=x/\x<Df (Fq s)/\True/\(c8->c8->c8)/\(c8->True)/\(c8->c8->c8)/\(Di true c8->c8)/\(c9->c9->c9)/\(Di true c9->c9)/\(c10->false=gV s/\True)/\(c10=false->inR IntKind.i64 c11/\∃y,aCB s y/\(s=s/\Fq s=Fq s/\Df (Fq s)=Df (Fq s)/\c11=y/\True)/\Dc (Et s-y)<Dc (Et s-x)))/\(c6=false->Dj kw=17/\(∃x,aDl s x/\s=s/\kw=kw/\0=x/\True)/\∀(x:Int),let c12:=Dp x 17;let c13:=Fv s (Du kw (Dc x) (ByteArray.mk #[]));let c14:=x+1;aDl s x->(c12->0<=x/\x<Dx (17)/\Dj kw=17/\(c13->false=gV s/\True)/\(c13=false->inR IntKind.i64 c14/\∃y,aDl s y/\(s=s/\kw=kw/\c14=y/\True)/\Dc (17-y)<Dc (17-x)))/\(c12=false->true=gV s/\True))))):
  evF (mkc K1) (lvA [(4,[0,2,4,6,22,23,24,41,42]),(10,[0,2,6,41,42])] (aZP s)) 236 [.dat S s] [] ⟨True,.dat .bool (gV s),[]⟩:=@of_eq _ _ (by kernel_rfl) hvc
theorem aPs(s:ByteArray)(hvc:
 let c1:=Dp (Et s) 1;let c2:=Dk c1;let c3:=Ec c1 true (Ei (Et s) 8);true/\(True->(c2->c2->c2)/\(c2->c2->c2)/\(Di true c2->c2)/\(c3->false=iY s/\True)/\(c3=false->(∃x,aCT s x/\Fq s=Fq s/\Df (Fq s)=Df (Fq s)/\0=x/\True)/\∀(x:Int),let c4:=Dp x (Df (Fq s));let c5:=Du (Fq s) (Dc x) 0;let c6:=Dk (lZ c5);let c7:=Dp c5 65;let c8:=Ec c6 (Ec c7 true (Ei c5 90)) false;let c9:=x+1;aCT s x->(c4->0<=x/\x<Df (Fq s)/\True/\(c6->c6->c6)/\(c6->c6->c6)/\(Di c6 (Dk c7)->Di c6 (Dk c7)->Di c6 (Dk c7))/\(c6->c6->c6)/\(c6->Di c6 (Dk c7)->Di c6 (Dk c7))/\(Di true c6->c6)/\(c8->false=iY s/\True)/\(c8=false->inR IntKind.i64 c9/\∃y,aCT s y/\(Fq s=Fq s/\Df (Fq s)=Df (Fq s)/\c9=y/\True)/\Dc (Et s-y)<Dc (Et s-x)))/\(c4=false->true=iY s/\True)))):
  evF (mkc K1) (lvA [(4,[2,4,14,15,16])] (aZQ s)) 247 [.dat S s] [] ⟨True,.dat .bool (iY s),[]⟩:=@of_eq _ _ (by kernel_rfl) hvc
theorem bBQ(s:ByteArray)(hvc:
 true/\(True->True/\(∃x,aDl s x/\s=s/\kw=kw/\0=x/\True)/\∀(x:Int),let c1:=Dp x (Df kw);let c2:=Fv (Du kw (Dc x) (ByteArray.mk #[])) s;let c3:=x+1;aDl s x->(c1->0<=x/\x<Df kw/\(c2->true=isKey s/\True)/\(c2=false->inR IntKind.i64 c3/\∃y,aDl s y/\(s=s/\kw=kw/\c3=y/\True)/\Dc (17-y)<Dc (17-x)))/\(c1=false->false=isKey s/\True))):
  evF (mkc K1) (lvA [(3,[0,2,3,4])] (bHl s)) 296 [.dat S s] [] ⟨True,.dat .bool (isKey s),[]⟩:=@of_eq _ _ (by kernel_rfl) hvc
def K2: Kt:=λf args m=>match f,args,m with
 | 202,[.dat (.int .i64) v],[]=>some ⟨True,.dat .bool (jU v 0 1439),[]⟩
 | 236,[.dat .str s],[]=>some ⟨True,.dat .bool (gV s),[]⟩
 | 247,[.dat .str s],[]=>some ⟨True,.dat .bool (iY s),[]⟩
 | 296,[.dat .str s],[]=>some ⟨True,.dat .bool (isKey s),[]⟩
 | _,_,_=>K1 f args m
theorem aD0(x y:Bool): Ec x true y=(x||y):=by cases x<;>rfl
theorem rH(x y:Bool): Ec x y false=(x&&y):=by cases x<;>rfl
theorem hm: Tryz.prog.follows .mixedOrders=true:=by kernel_rfl
theorem KS0: aI Tryz.prog G0 K0:=λf args m c h=>by cases h
theorem bD: dI Tryz.prog G0 KI0:=λf args c h=>by cases h
def aSz(z:Int)(w:List Bool)(h:List Int): Prop:=(-720<=z/\z<=840/\w.length=7/\h.length<=40)/\∀i:Nat,i+1<h.length->h.getD i 0<h.getD (i+1) 0
theorem fQ{z:Int}{w:List Bool}{h:List Int}: aO z w h=true↔aSz z w h:=by
 unfold aO aSz;rw[qC,qE,qM];refine and_congr_right λ_=>⟨λg i hi=>?_,λg i hi=>?_⟩
 .have:=g i (vN.2 (by omega))
  simpa using this
 .have:=vN.1 hi;simpa using g i (by omega)
theorem aC7{z:Int}{w:List Bool}{h:List Int}(hn:¬aSz z w h): false=aO z w h:=by
 cases hv:aO z w h with
 | false=>rfl
 | true=>exact(hn (fQ.1 hv)).elim
theorem aJW{h:List Int}(hl:¬(h.length:Int)>40): aEc h 1:=⟨qL _,.inr rfl,by omega,λi hi=>by omega⟩
theorem aG7{h:List Int}{x:Int}(hx:aEc h x)(hlt:x<h.length)(hn:h.getD (x-1).toNat 0<h.getD x.toNat 0): aEc h (x+1):=by
 obtain⟨g1,g2,g3,g4⟩:=hx;refine⟨by omega,by omega,g3,λi hi=>?_⟩
 by_cases e:(i:Int)+1<x
 .exact g4 i e
 .have e1:(x-1).toNat=i:=by omega
  have e2:x.toNat=i+1:=by omega
  rwa [e1,e2]at hn
theorem aJX{z:Int}{w:List Bool}{h:List Int}{x:Int}(hx:aEc h x)(hlt:x<h.length)(hn:h.getD x.toNat 0<=h.getD (x-1).toNat 0): false=aO z w h:=by
 refine aC7 λhv=>?_
 have:=hx.1;have:=hv.2 (x-1).toNat (by omega)
 rw[show(x-1).toNat+1=x.toNat by omega]at this
 omega
theorem aJY{z:Int}{w:List Bool}{h:List Int}{x:Int}(hx:aEc h x)(hge:¬x<h.length)(h1:-720<=z)(h2:z<=840)(h3:w.length=7): true=aO z w h:=
 (fQ.2 ⟨⟨h1,h2,h3,by have:=hx.2.2.1;omega⟩,λi hi=>hx.2.2.2 i (by omega)⟩).symm
theorem aKY(z:Int)(w:List Bool)(h:List Int): aB Tryz.prog G0 161 [cal z w h] [] ⟨True,.dat .bool (aO z w h),[]⟩:=by
 refine aA (c:=mkc K0) KS0 bD hm (aHn z w h ⟨rfl,λ_=>?_⟩)
 simp only[qc,Di,Es,Dk,qd,Dt,Ea,Eb,Dp,Ei,Eh,Ed,Ew,Df,Et,Dl,Dn,Eo,Dy,Dw,Dh,Dq,Ee,Fg,Dc,Dx,Dj,Dz,Ej,Du,Eu,Ez,En,Ef,Fe,Fj,Fh,Ep,Em,Ey,Fb];refine⟨λhb=>aC7 λhv=>?_,λ⟨⟨⟨h1,h2⟩,h3⟩,h4⟩=>⟨aJW h4,λx hx=>⟨λhlt=>?_,λhge=>aJY hx hge (by omega) (by omega) (by omega)⟩⟩⟩
 .obtain⟨⟨g1,g2,g3,g4⟩,_⟩:=hv;omega
 .have hx1:=hx.1;have hx3:=hx.2.2.1;refine⟨by omega,hlt,⟨by omega,by omega⟩,by omega,by omega,λhle=>aJX hx hlt hle,λhn=>⟨⟨by omega,by omega⟩,x+1,aG7 hx hlt (by omega),rfl,by omega⟩⟩
theorem aUK(z:Int)(w:List Bool)(h:List Int): aB Tryz.prog G0 118 [cal z w h] [] ⟨True,.dat .bool (aO z w h),[]⟩:=by
 refine aA (c:=mkc K0) KS0 bD hm (aPg z w h ⟨rfl,λ_=>?_⟩)
 simp only[qc,Di,Es,Dk,qd,Dt,Ea,Eb,Dp,Ei,Eh,Ed,Ew,Df,Et,Dl,Dn,Eo,Dy,Dw,Dh,Dq,Ee,Fg,Dc,Dx,Dj,Dz,Ej,Du,Eu,Ez,En,Ef,Fe,Fj,Fh,Ep,Em,Ey,Fb];refine⟨λhb=>aC7 λhv=>?_,λ⟨⟨⟨h1,h2⟩,h3⟩,h4⟩=>⟨aJW h4,λx hx=>⟨λhlt=>?_,λhge=>aJY hx hge (by omega) (by omega) (by omega)⟩⟩⟩
 .obtain⟨⟨g1,g2,g3,g4⟩,_⟩:=hv;omega
 .have hx1:=hx.1;have hx3:=hx.2.2.1;refine⟨⟨by omega,by omega⟩,by omega,by omega,by omega,hlt,λhle=>aJX hx hlt hle,λhn=>⟨⟨by omega,by omega⟩,x+1,aG7 hx hlt (by omega),rfl,by omega⟩⟩
theorem aZi(z:Int)(w:List Bool)(h:List Int): aB Tryz.prog G0 167 [cal z w h] [] ⟨True,.dat .bool (oN w h),[]⟩:=by
 refine aA (c:=mkc K0) KS0 bD hm (aTe z w h ⟨rfl,λ_=>?_⟩)
 simp only[qc,Di,Es,Dk,oN,Eh,Df]
 congr 1<;>congr 1<;>exact propext (by omega)
theorem aBh(p q:Prop)[Decidable p][Decidable q]: (decide p&&decide q)=decide (p/\q):=by by_cases hp:p<;>by_cases hq:q<;>simp[hp,hq]
theorem aQo(b:Int): aB Tryz.prog G0 283 [.dat U b] [] ⟨True,.dat .bool (uD b),[]⟩:=by
 refine aA (c:=mkc K0) KS0 bD hm (aNH b ⟨rfl,λ_=>?_⟩)
 simp only[qc,Di,Es,Dk,uD,Ed,Eh,aBh,kQ]
theorem aQp(b:Int): aB Tryz.prog G0 284 [.dat U b] [] ⟨True,.dat .bool (lZ b),[]⟩:=by
 refine aA (c:=mkc K0) KS0 bD hm (aNI b ⟨rfl,λ_=>?_⟩)
 simp only[qc,Di,Es,Dk,lZ,Ed,Eh,aBh,kQ]
theorem aZn(b:Int): aB Tryz.prog G0 297 [.dat U b] [] ⟨True,.dat .bool (lZ b),[]⟩:=by
 refine aA (c:=mkc K0) KS0 bD hm (aTV b ⟨rfl,λ_=>?_⟩)
 simp only[qc,Di,Es,Dk,lZ,Ed,Eh,aBh,kQ]
theorem aUM(v a b:Int): aB Tryz.prog G0 248 [.dat I v,.dat I a,.dat I b] [] ⟨True,.dat .bool (jU v a b),[]⟩:=by
 refine aA (c:=mkc K0) KS0 bD hm (aPr v a b ⟨rfl,λ_=>?_⟩)
 simp only[qc,Di,Es,Dk,jU,Ed,Eh,aBh,kQ]
theorem aQs(v a b:Int): aB Tryz.prog G0 300 [.dat I v,.dat I a,.dat I b] [] ⟨True,.dat .bool (jU v a b),[]⟩:=by
 refine aA (c:=mkc K0) KS0 bD hm (aNP v a b ⟨rfl,λ_=>?_⟩)
 simp only[qc,Di,Es,Dk,jU,Ed,Eh,aBh,kQ]
theorem aZk(k:Int): aB Tryz.prog G0 226 [.dat I k] [] ⟨True,.dat I (sF k),[]⟩:=by
 refine aA (c:=mkc K0) KS0 bD hm (aTD k ⟨rfl,λ_=>?_⟩)
 simp only[qc,Di,Es,Dk,qd,Dt,Ea,Eb,Dp,Ei,Eh,Ed,Ew,Df,Et,Dl,Dn,Eo,Dy,Dw,Dh,Dq,Ee,Fg,Dc,Dx,Dj,Dz,Ej,Du,Eu,Ez,En,Ef,Fe,Fj,Fh,Ep,Em,Ey,Fb,sF];refine⟨λh=>by rw[if_pos h],λh1=>⟨λh=>by rw[if_neg h1,if_pos h],λh2=>⟨λh=>by rw[if_neg h1,if_neg h2,if_pos h],λh=>by rw[if_neg h1,if_neg h2,if_neg h]⟩⟩⟩
theorem bCB: aB Tryz.prog G0 303 [] [] ⟨True,.dat (.sl S) kw,[]⟩:=
 aA (c:=mkc K0) KS0 bD hm (aX2 ⟨rfl,λ_=>⟨rfl,trivial⟩⟩)
theorem KS1: aI Tryz.prog G0 K1:=by
 intro f args m c h;unfold K1 at h;split at h
 .cases h;exact aKY _ _ _
 .cases h;exact aUK _ _ _
 .cases h;exact aZi _ _ _
 .cases h;exact aQo _
 .cases h;exact aQp _
 .cases h;exact aZn _
 .cases h;exact aUM _ _ _
 .cases h;exact aQs _ _ _
 .cases h;exact aZk _
 .cases h;exact bCB
 .cases h
theorem aOS(s:ByteArray)(i:Nat): (Fq s).getD i 0=((s.data.getD i 0).toNat:Int):=by
 show(List.map (λb:UInt8=>(b.toNat:Int)) s.data.toList).getD i 0=_
 rw[qA,qP,zX,qJ];cases s.data[i]?<;>rfl
theorem aKk(s:ByteArray)(x:Int): (Fq s).getD x.toNat 0=Gg s x:=aOS s x.toNat
theorem aD1(s:ByteArray): (Fq s).length=s.size:=by
 show(List.map _ s.data.toList).length=s.data.size;rw[vF,vH]
theorem aBA(s:ByteArray): s.data.toList.length=s.size:=vH
theorem mF{α:Type}{l:List α}{p:α->Bool}{d:α}{k:Nat}(h:(l.take k).all p=true)(hk:k<l.length)(hp:p (l.getD k d)=true): (l.take (k+1)).all p=true:=by
 rw[wV,qB hk,kX,h];rw[qA,qB hk]at hp;simpa using hp
theorem aBi{α:Type}{l:List α}{p:α->Bool}{d:α}{k:Nat}(hk:k<l.length)(hp:p (l.getD k d)=false): l.all p=false:=by
 rw[qA,qB hk]at hp;rw[qCt];exact⟨l[k],wH hk,by simpa using hp⟩
theorem aXr{α:Type}{l:List α}{p:α->Bool}{d:α}{k:Nat}(hk:k<l.length)(hp:p (l.getD k d)=true): l.any p=true:=by
 rw[qA,qB hk]at hp;exact kD.2 ⟨l[k],wH hk,by simpa using hp⟩
theorem aHk{α:Type}{l:List α}{p:α->Bool}{d:α}{k:Nat}(h:(l.take k).any p=false)(hk:k<l.length)(hp:p (l.getD k d)=false): (l.take (k+1)).any p=false:=by
 rw[wV,qB hk,List.any_append,h];rw[qA,qB hk]at hp;simpa using hp
theorem aCR(s:ByteArray)(i:Nat): s.data.toList.getD i 0=s.data.getD i 0:=by
 rw[qA,zX,qJ]
theorem aLl(s:ByteArray): aCB s 0:=⟨qL _,qR _,by simp⟩
theorem aLR(s:ByteArray): aCT s 0:=⟨qL _,qR _,by simp⟩
theorem aG3(s:ByteArray): aDl s 0:=⟨qL _,by decide,by simp⟩
theorem aLm{s:ByteArray}{x:Int}(h:aCB s x)(hx:x<s.size)(hp:nameB (Gg s x)=true): aCB s (x+1):=by
 obtain⟨h0,h1,h2⟩:=h;refine⟨by omega,by omega,?_⟩
 rw[show(x+1).toNat=x.toNat+1 by omega]
 exact mF (d:=0) h2 (by rw[aBA];omega) (by rw[aCR];exact hp)
theorem aLS{s:ByteArray}{x:Int}(h:aCT s x)(hx:x<s.size)(hp:aFV (Gg s x)=true): aCT s (x+1):=by
 obtain⟨h0,h1,h2⟩:=h;refine⟨by omega,by omega,?_⟩
 rw[show(x+1).toNat=x.toNat+1 by omega]
 exact mF (d:=0) h2 (by rw[aBA];omega) (by rw[aCR];exact hp)
theorem aOg{s:ByteArray}{x:Int}(h:aCB s x)(hx:¬x<s.size): (s.data.toList.all λb=>nameB (b.toNat:Int))=true:=by
 obtain⟨h0,h1,h2⟩:=h
 rwa [qO (by rw[aBA];omega)]at h2
theorem aOL{s:ByteArray}{x:Int}(h:aCT s x)(hx:¬x<s.size): (s.data.toList.all λb=>aFV (b.toNat:Int))=true:=by
 obtain⟨h0,h1,h2⟩:=h
 rwa [qO (by rw[aBA];omega)]at h2
theorem aVm{s:ByteArray}{x:Int}(h:aCB s x)(hx:x<s.size)(hp:nameB (Gg s x)=false): (s.data.toList.all λb=>nameB (b.toNat:Int))=false:=
 aBi (d:=0) (k:=x.toNat) (by rw[aBA];have:=h.1;omega) (by rw[aCR];exact hp)
theorem aV6{s:ByteArray}{x:Int}(h:aCT s x)(hx:x<s.size)(hp:aFV (Gg s x)=false): (s.data.toList.all λb=>aFV (b.toNat:Int))=false:=
 aBi (d:=0) (k:=x.toNat) (by rw[aBA];have:=h.1;omega) (by rw[aCR];exact hp)
theorem aG4{s:ByteArray}{x:Int}(h:aDl s x)(hx:x<17)(hp:s.toList≠(kw.getD x.toNat ⟨#[]⟩).toList): aDl s (x+1):=by
 obtain⟨h0,h1,h2⟩:=h;refine⟨by omega,by omega,?_⟩
 rw[show(x+1).toNat=x.toNat+1 by omega]
 exact aHk (d:=⟨#[]⟩) h2 (by show x.toNat<17;omega) (by simpa using λe=>hp e.symm)
theorem aW6{s:ByteArray}{x:Int}(h:aDl s x)(hx:x<17)(hp:s.toList=(kw.getD x.toNat ⟨#[]⟩).toList): isKey s=true:=
 aXr (d:=⟨#[]⟩) (k:=x.toNat) (by have:=h.1;show x.toNat<17;omega) (by simpa using hp.symm)
theorem aJR{s:ByteArray}{x:Int}(h:aDl s x)(hx:¬x<17): isKey s=false:=by
 obtain⟨h0,h1,h2⟩:=h;have:x=17:=by omega
 subst this;exact h2
theorem aLk{s:ByteArray}(h:gV s=true->False): false=gV s:=by
 cases e:gV s with
 | false=>rfl
 | true=>exact(h e).elim
theorem aR4{s:ByteArray}(h:iY s=true->False): false=iY s:=by
 cases e:iY s with
 | false=>rfl
 | true=>exact(h e).elim
theorem aAp{s:ByteArray}: gV s=true↔(1<=s.size/\s.size<=16)/\uD (Gg s 0)=true/\(s.data.toList.all λb=>nameB (b.toNat:Int))=true/\isKey s=false:=by
 unfold gV;simp only[qC,qE,zJ,qDi];exact Iff.rfl
theorem aB6{s:ByteArray}: iY s=true↔(1<=s.size/\s.size<=8)/\(s.data.toList.all λb=>aFV (b.toNat:Int))=true:=by
 unfold iY;simp only[qC,qE]
theorem aLn{b:Int}(h1:uD b=false)(h2:lZ b=false)(h3:b≠95): nameB b=false:=by simp[nameB,h1,h2,h3]
theorem aN0(v:Int): aB Tryz.prog G0 202 [.dat I v] [] ⟨True,.dat .bool (jU v 0 1439),[]⟩:=
 aA (c:=mkc K1) KS1 bD hm (aKL v ⟨rfl,λ_=>⟨trivial,rfl,trivial⟩⟩)
theorem aVn{b:Int}(h:uD b=false->lZ b=false->b=95): nameB b=true:=by
 unfold nameB;cases q1:uD b with
 | true=>rfl
 | false=>cases q2:lZ b with
  | true=>rfl
  | false=>simpa using h q1 q2
theorem aV8{b:Int}(h:lZ b=false->65<=b/\b<=90): aFV b=true:=by
 unfold aFV;cases q1:lZ b with
 | true=>rfl
 | false=>simpa using h q1
theorem aLU{b:Int}(h1:lZ b=false)(h2:b<65\/b>90): aFV b=false:=by
 unfold aFV;rw[h1];simp;omega
theorem aUL(s:ByteArray): aB Tryz.prog G0 236 [.dat S s] [] ⟨True,.dat .bool (gV s),[]⟩:=by
 refine aA (c:=mkc K1) KS1 bD hm (aPq s ⟨rfl,λ_=>?_⟩)
 simp only[qc,Di,Es,Dk,qd,Dt,Ea,Eb,Dp,Ei,Eh,Ed,Ew,Df,Et,Dl,Dn,Eo,Dy,Dw,Dh,Dq,Ee,Fg,Dc,Dx,Dj,Dz,Ej,Du,Eu,Ez,En,Ef,Fe,Fj,Fh,Ep,Em,Ey,Fb,aKk,aD1];refine⟨λ_=>qL _,λh=>by omega,λh=>aLk λg=>?_,λ⟨⟨h1,h2⟩,h3⟩=>⟨aLl s,λx hx=>⟨λhlt=>?_,λhge=>?_⟩⟩⟩
 .rw[aAp]at g;rcases h with h | h
  .omega
  .rw[g.2.1]at h;cases h
 .refine⟨hx.1,hlt,λ⟨⟨b1,b2⟩,b3⟩=>aLk λg=>?_,λhb=>⟨⟨by have:=hx.1;omega,by omega⟩,x+1,aLm hx hlt (aVn λq1 q2=>hb ⟨q1,q2⟩),rfl,by have:=hx.1;omega⟩⟩
  have:=aVm hx hlt (aLn b1 b2 b3);rw[(aAp.1 g).2.2.1]at this;cases this
 .refine⟨rfl,aG3 s,λy hy=>⟨λhlt=>⟨hy.1,by omega,rfl,λhe=>aLk λg=>?_,λhne=>⟨⟨by have:=hy.1;omega,by omega⟩,y+1,aG4 hy hlt hne,rfl,by have:=hy.1;omega⟩⟩,λhge2=>(aAp.2 ⟨by omega,h3,aOg hx hge,aJR hy hge2⟩).symm⟩⟩
  have:=aW6 hy hlt he;rw[(aAp.1 g).2.2.2]at this;cases this
theorem aUN(s:ByteArray): aB Tryz.prog G0 247 [.dat S s] [] ⟨True,.dat .bool (iY s),[]⟩:=by
 refine aA (c:=mkc K1) KS1 bD hm (aPs s ⟨rfl,λ_=>?_⟩)
 simp only[qc,Di,Es,Dk,qd,Dt,Ea,Eb,Dp,Ei,Eh,Ed,Ew,Df,Et,Dl,Dn,Eo,Dy,Dw,Dh,Dq,Ee,Fg,Dc,Dx,Dj,Dz,Ej,Du,Eu,Ez,En,Ef,Fe,Fj,Fh,Ep,Em,Ey,Fb,aKk,aD1];refine⟨λh=>aR4 λg=>by rw[aB6]at g;omega,λ⟨h1,h2⟩=>⟨aLR s,λx hx=>⟨λhlt=>?_,λhge=>(aB6.2 ⟨by omega,aOL hx hge⟩).symm⟩⟩⟩
 refine⟨hx.1,hlt,λ⟨b1,b2⟩=>aR4 λg=>?_,λhb=>⟨⟨by have:=hx.1;omega,by omega⟩,x+1,aLS hx hlt (aV8 λq1=>by have:=hb q1;omega),rfl,by have:=hx.1;omega⟩⟩
 have:=aV6 hx hlt (aLU b1 b2);rw[(aB6.1 g).2]at this;cases this
theorem bFC(s:ByteArray): aB Tryz.prog G0 296 [.dat S s] [] ⟨True,.dat .bool (isKey s),[]⟩:=by
 refine aA (c:=mkc K1) KS1 bD hm (bBQ s ⟨rfl,λ_=>?_⟩)
 simp only[qc,Di,Es,Dk,qd,Dt,Ea,Eb,Dp,Ei,Eh,Ed,Ew,Df,Et,Dl,Dn,Eo,Dy,Dw,Dh,Dq,Ee,Fg,Dc,Dx,Dj,Dz,Ej,Du,Eu,Ez,En,Ef,Fe,Fj,Fh,Ep,Em,Ey,Fb];have hl:(kw.length:Int)=17:=rfl;refine⟨aG3 s,λy hy=>⟨λhlt=>⟨hy.1,hlt,λhe=>(aW6 hy (by omega) he.symm).symm,λhne=>⟨⟨by have:=hy.1;omega,by omega⟩,y+1,aG4 hy (by omega) (λe=>hne e.symm),rfl,by have:=hy.1;omega⟩⟩,λhge=>(aJR hy (by omega)).symm⟩⟩
theorem KS2: aI Tryz.prog G0 K2:=by
 intro f args m c h;unfold K2 at h;split at h
 .cases h;exact aN0 _
 .cases h;exact aUL _
 .cases h;exact aUN _
 .cases h;exact bFC _
 .exact KS1 _ _ _ _ h
end Go.Eng.Sv
set_option maxRecDepth 100000
noncomputable section
namespace Go.Eng.Sv
open Go.Proofs
abbrev Of: Ty:=.pair S (.pair I (.pair I (.pair I (.pair I (.pair I (.sl S))))))
abbrev Ln: Ty:=.pair S (.pair I (.pair I (.pair I (.pair I I))))
abbrev Kl: Ty:=.pair S (.pair I I)
abbrev Fa: Ty:=.pair I (.pair I I)
abbrev N: Ty:=.pair (.sl C) (.pair (.sl S) (.pair (.sl S) (.pair (.sl Of) (.pair (.sl Ln) (.sl Kl)))))
abbrev Off:=ByteArray×Int×Int×Int×Int×Int×List ByteArray
abbrev Cla:=ByteArray×Int×Int
abbrev Net:=List (Int×List Bool×List Int)×List ByteArray×List ByteArray×List Off×List Line×List Cla
abbrev net(cs:LC)(ns os:LB)(fs:List Off)(ls:List Line)(ks:List Cla): AV:=.agg [.dat (.sl C) cs,.dat (.sl S) ns,.dat (.sl S) os,.dat (.sl Of) fs,.dat (.sl Ln) ls,.dat (.sl Kl) ks]
def jT(i n:Int): Bool:=decide (0<=i/\i<n)
def idx(i n:Int): Prop:=0<=i/\i<n
def aDV(i n:Int): Prop:=0<=i/\i<n/\i<=1000
def aAu(l:List ByteArray)(k:Int): Prop:=0<=k/\k<=l.length/\(l.take k.toNat).all iY=true
def iZ(n:Net)(o:Off): Bool:=jT o.2.1 n.2.2.1.length&&jT o.2.2.1 n.1.length&&decide (o.2.2.2.2.2.2.length<=20)&&o.2.2.2.2.2.2.all iY&&jU o.2.2.2.1 2 64&&jU o.2.2.2.2.1 1 4&&jU o.2.2.2.2.2.1 1 240
def jA(n:Net)(l:Line): Bool:=jT l.2.1 n.2.2.2.1.length&&jT l.2.2.1 n.2.2.2.1.length&&decide (l.2.1≠l.2.2.1)&&jU l.2.2.2.1 0 1439&&jU l.2.2.2.2.1 1 5000&&jU l.2.2.2.2.2 1 40
def rF(k:Cla): Bool:=jU k.2.1 0 1439&&jU k.2.2 0 1439
def aU(cs:List (Int×List Bool×List Int))(ns:List ByteArray): List ByteArray:=(List.range cs.length).map λi=>ns.getD i ⟨#[]⟩
def aV(fs:List Off): List ByteArray:=fs.map (·.1)
def aW(ls:List Line): List ByteArray:=ls.map (·.1)
def aX(ks:List Cla): List ByteArray:=ks.map (·.1)
def dH(cs:List (Int×List Bool×List Int)): List Bool:=cs.map λc=>aO c.1 c.2.1 c.2.2
def fK(os:List ByteArray): List Bool:=os.map λ_=>true
def iQ(n:Net): List Bool:=n.2.2.2.1.map (iZ n)
def iH(n:Net): List Bool:=n.2.2.2.2.1.map (jA n)
def dO(ks:List Cla): List Bool:=ks.map rF
def oH(l:List ByteArray)(i:Int): ByteArray:=l.getD i.toNat ⟨#[]⟩
def dV(l:List ByteArray)(i:Int): Int:=if gV (oH l i)then 0 else 1
def rule2(l:List ByteArray)(i:Int): Int:=if(l.take i.toNat).any (λw=>w.toList==(oH l i).toList)then 4 else 0
def fF(g:List Bool)(i:Int): Int:=if g.getD i.toNat false then 0 else 1
def aGd(l:List ByteArray)(i k:Int): Prop:=0<=k/\k<=i/\(l.take k.toNat).any (λw=>w.toList==(oH l i).toList)=false
def fU(l:List ByteArray)(g:List Bool)(i k:Int): Prop:=0<=k/\k<=3/\(0<k->dV l i=0)/\(1<k->rule2 l i=0)/\(2<k->fF g i=0)
def aM9(l:List ByteArray)(g:List Bool)(i:Int): Int:=if dV l i≠0 then dV l i else if rule2 l i≠0 then rule2 l i else fF g i
def bQ(kind:Int)(l:List ByteArray)(g:List Bool)(k:Int): List (Int×Int×Int):=(List.range k.toNat).filterMap λi:Nat=>if aM9 l g i=0 then none else some (kind,(i:Int),aM9 l g i)
def aOe(kind lim:Int)(l:List ByteArray): List (Int×Int×Int):=if lim<l.length then[(kind,lim,2)]else[]
def dS(kind lim:Int)(l:List ByteArray)(g:List Bool): List (Int×Int×Int):=bQ kind l g (min l.length lim)++aOe kind lim l
def iR(k n lim:Int): Prop:=0<=k/\k<=n/\k<=lim
def aLH(n:Net): List (Int×Int×Int):=if n.2.1.length=n.1.length then[]else[(1,-1,1)]
def bM(n:Net)(k:Int): List ByteArray:=if k=1 then aU n.1 n.2.1 else if k=2 then n.2.2.1 else if k=3 then aV n.2.2.2.1 else if k=4 then aW n.2.2.2.2.1 else if k=5 then aX n.2.2.2.2.2 else[]
def aRE(n:Net)(k:Int): List Bool:=if k=1 then dH n.1 else if k=2 then fK n.2.2.1 else if k=3 then iQ n else if k=4 then iH n else if k=5 then dO n.2.2.2.2.2 else[]
def sJ(n:Net)(k:Int): List (Int×Int×Int):=aLH n++(List.range (k.toNat-1)).flatMap λj:Nat=>dS (j+1) (sF (j+1)) (bM n (j+1)) (aRE n (j+1))
def lU(n:Net): List (Int×Int×Int):=sJ n 6
def aBR(n:Net): Bool:=decide (n.1.length<=10/\n.2.1.length<=10/\n.2.2.1.length<=10/\n.2.2.2.1.length<=16/\n.2.2.2.2.1.length<=50/\n.2.2.2.2.2.length<=8)
theorem aTH(i:Int)(xs:List Of.den)(hvc:
 let c1:=Ed i 0;let c2:=Df xs;true/\(True->(c1->c1->c1)/\(c1->c1->c1)/\(c1->c1->c1)/\(Di true c1->c1)/\Ec c1 (Dp i c2) false=jT i c2/\True)):
  evF (mkc K2) aQ 252 [.dat I i,.dat (.sl Of) xs] [] ⟨True,.dat .bool (jT i (Df xs)),[]⟩:=@of_eq _ _ (by kernel_rfl) hvc
theorem aX3(i:Int)(xs:List S.den)(hvc:
 let c1:=Ed i 0;true/\(True->(c1->c1->c1)/\(c1->c1->c1)/\(c1->c1->c1)/\(Di true c1->c1)/\Ec c1 (Dp i (Df xs)) false=jT i (Df xs)/\True)):
  evF (mkc K2) aQ 245 [.dat I i,.dat (.sl S) xs] [] ⟨True,.dat .bool (jT i (Df xs)),[]⟩:=@of_eq _ _ (by kernel_rfl) hvc
theorem aX4(i:Int)(xs:List C.den)(hvc:
 let c1:=Ed i 0;let c2:=Df xs;true/\(True->(c1->c1->c1)/\(c1->c1->c1)/\(c1->c1->c1)/\(Di true c1->c1)/\Ec c1 (Dp i c2) false=jT i c2/\True)):
  evF (mkc K2) aQ 246 [.dat I i,.dat (.sl C) xs] [] ⟨True,.dat .bool (jT i (Df xs)),[]⟩:=@of_eq _ _ (by kernel_rfl) hvc
def K3: Kt:=kOr 252 (aP [.val I,.val (.sl Of)] (λ_=>True) λ(i,xs,_)=>.dat .bool (jT i (Df xs)))
 (kOr 245 (aP [.val I,.val (.sl S)] (λ_=>True) λ(i,xs,_)=>.dat .bool (jT i (Df xs)))
 (kOr 246 (aP [.val I,.val (.sl C)] (λ_=>True) λ(i,xs,_)=>.dat .bool (jT i (Df xs))) K2))
def bDr(l:List ByteArray): Ann:=⟨λid st=>match id with
 | 4=>some {α:=Int,inv:=λk=>aAu l k,st:=λk=>put st [(30,.dat I k)],μ:=λk=>Dc (Dh (Df l) k)}
 | _=>none,λ_ _=>none,λ_ _=>none⟩
theorem aHo(cs:LC)(ns os:LB)(fs:List Off)(ls:List Line)(ks:List Cla)(e1:ByteArray)(e2 e3 e4 e5 e6:Int)(e7:List ByteArray)(hvc:
 let c1:=Dk (jT e2 (Df os));let c2:=Dk c1;let c3:=Ec c1 true (Dk (jT e3 (Df cs)));let c4:=Dk c3;let c5:=Ec c3 true (Ei (Df e7) 20);let c6:=(e1,e2,e3,e4,e5,e6,e7);let c7:=iZ (cs,ns,os,fs,ls,ks) c6;let c8:=jU e4 2 64;let c9:=Ec c8 (jU e5 1 4) false;true/\(True->True/\(c2->c2->c2)/\(c2->c2->c2)/\(c2->c2->c2)/\(c2->c2->c2)/\(c2->True)/\(c2->c2->c2)/\(Di true c2->c2)/\(c4->c4->c4)/\(c4->c4->c4)/\(c4->c4->c4)/\(Di true c4->c4)/\(c5->false=c7/\True)/\(c5=false->(∃x,aAu e7 x/\c6=c6/\e7=e7/\Df e7=Df e7/\0=x/\True)/\∀(x:Int),let c10:=Dp x (Df e7);let c11:=Dk (iY (Du e7 (Dc x) (ByteArray.mk #[])));let c12:=x+1;aAu e7 x->(c10->0<=x/\x<Df e7/\True/\(c11->false=c7/\True)/\(c11=false->inR IntKind.i64 c12/\∃y,aAu e7 y/\(c6=c6/\e7=e7/\Df e7=Df e7/\c12=y/\True)/\Dc (Df e7-y)<Dc (Df e7-x)))/\(c10=false->True/\(c8->c8->c8)/\(c8->c8->c8)/\(c8->True)/\(Di true c8->c8)/\(c9->c9->c9)/\(c9->c9->c9)/\(c9->True)/\(Di true c9->c9)/\Ec c9 (jU e6 1 240) false=c7/\True)))):
  evF (mkc K3) (lvA [(4,[3,4,6,28,29,30])] (bDr e7)) 194 [net cs ns os fs ls ks,.agg [.dat .str e1,.dat (.int .i64) e2,.dat (.int .i64) e3,.dat (.int .i64) e4,.dat (.int .i64) e5,.dat (.int .i64) e6,.dat (.sl .str) e7]] [] ⟨True,.dat .bool (iZ (cs,ns,os,fs,ls,ks) (e1,e2,e3,e4,e5,e6,e7)),[]⟩:=@of_eq _ _ (by kernel_rfl) hvc
theorem aKN(cs:LC)(ns os:LB)(fs:List Off)(ls:List Line)(ks:List Cla)(e1:ByteArray)(e2 e3 e4 e5 e6:Int)(hvc:
 let c1:=Df fs;let c2:=Dk (jT e2 c1);let c3:=Dk c2;let c4:=Ec c2 true (Dk (jT e3 c1));let c5:=Dk c4;let c6:=Ec c4 true (Ea e2 e3);let c7:=jA (cs,ns,os,fs,ls,ks) (e1,e2,e3,e4,e5,e6);let c8:=jU e4 0 1439;let c9:=Ec c8 (jU e5 1 5000) false;true/\(True->True/\(c3->c3->c3)/\(c3->c3->c3)/\(c3->c3->c3)/\(c3->c3->c3)/\(c3->True)/\(c3->c3->c3)/\(Di true c3->c3)/\(c5->c5->c5)/\(c5->c5->c5)/\(c5->c5->c5)/\(c5->c5->c5)/\(Di true c5->c5)/\(c6->false=c7/\True)/\(c6=false->True/\(c8->c8->c8)/\(c8->c8->c8)/\(c8->True)/\(Di true c8->c8)/\(c9->c9->c9)/\(c9->c9->c9)/\(c9->True)/\(Di true c9->c9)/\Ec c9 (jU e6 1 40) false=c7/\True))):
  evF (mkc K3) aQ 198 [net cs ns os fs ls ks,.agg [.dat .str e1,.dat (.int .i64) e2,.dat (.int .i64) e3,.dat (.int .i64) e4,.dat (.int .i64) e5,.dat (.int .i64) e6]] [] ⟨True,.dat .bool (jA (cs,ns,os,fs,ls,ks) (e1,e2,e3,e4,e5,e6)),[]⟩:=@of_eq _ _ (by kernel_rfl) hvc
def K4: Kt:=kOr 194 (aP [.row N,.row Of] (λ_=>True) λ(n,o,_)=>.dat .bool (iZ n o))
 (kOr 198 (aP [.row N,.row Ln] (λ_=>True) λ(n,l,_)=>.dat .bool (jA n l)) K3)
theorem bBv(i:Int)(cs:LC)(ns os:LB)(fs:List Off)(ls:List Line)(ks:List Cla)(hvc:
 let c1:=Dp i (Df ns);let c2:=oH (aU cs ns) i;true/\(idx i (Df cs)->(c1->0<=i/\i<Df ns/\Du ns (Dc i) (ByteArray.mk #[])=c2/\True)/\(c1=false->ByteArray.mk #[]=c2/\True))):
  evF (mkc K4) aQ 186 [.dat I i,.ip N (cs,ns,os,fs,ls,ks)] [] ⟨idx i (Df cs),.dat S (oH (aU cs ns) i),[]⟩:=@of_eq _ _ (by kernel_rfl) hvc
theorem bBu(i:Int)(cs:LC)(ns os:LB)(fs:List Off)(ls:List Line)(ks:List Cla)(hvc:
 true/\(idx i (Df os)->0<=i/\i<Df os/\Du os (Dc i) (ByteArray.mk #[])=oH os i/\True)):
  evF (mkc K4) aQ 188 [.dat I i,.ip N (cs,ns,os,fs,ls,ks)] [] ⟨idx i (Df os),.dat S (oH os i),[]⟩:=@of_eq _ _ (by kernel_rfl) hvc
theorem bBI(e1:ByteArray)(hvc:
 true/\(True->true/\True)):
  evF (mkc K4) aQ 190 [.agg [.dat .str e1]] [] ⟨True,.dat .bool true,[]⟩:=@of_eq _ _ (by kernel_rfl) hvc
theorem bBt(i:Int)(cs:LC)(ns os:LB)(fs:List Off)(ls:List Line)(ks:List Cla)(hvc:
 let c1:=Df fs;true/\(idx i c1->0<=i/\i<c1/\(Du fs (Dc i) (ByteArray.mk #[],(0:Int),(0:Int),(0:Int),(0:Int),(0:Int),Dt ByteArray)).1=oH (aV fs) i/\True)):
  evF (mkc K4) aQ 191 [.dat I i,.ip N (cs,ns,os,fs,ls,ks)] [] ⟨idx i (Df fs),.dat S (oH (aV fs) i),[]⟩:=@of_eq _ _ (by kernel_rfl) hvc
theorem bBH(cs:LC)(ns os:LB)(fs:List Off)(ls:List Line)(ks:List Cla)(e1:ByteArray)(e2 e3 e4 e5 e6:Int)(e7:List ByteArray)(hvc:
 let c1:=iZ (cs,ns,os,fs,ls,ks) (e1,e2,e3,e4,e5,e6,e7);true/\(True->True/\c1=c1/\True)):
  evF (mkc K4) aQ 193 [.agg [.dat .str e1,.dat (.int .i64) e2,.dat (.int .i64) e3,.dat (.int .i64) e4,.dat (.int .i64) e5,.dat (.int .i64) e6,.dat (.sl .str) e7],.ip N (cs,ns,os,fs,ls,ks)] [] ⟨True,.dat .bool (iZ (cs,ns,os,fs,ls,ks) (e1,e2,e3,e4,e5,e6,e7)),[]⟩:=@of_eq _ _ (by kernel_rfl) hvc
theorem bBs(i:Int)(cs:LC)(ns os:LB)(fs:List Off)(ls:List Line)(ks:List Cla)(hvc:
 let c1:=Df ls;true/\(idx i c1->0<=i/\i<c1/\(Du ls (Dc i) (ByteArray.mk #[],(0:Int),(0:Int),(0:Int),(0:Int),(0:Int))).1=oH (aW ls) i/\True)):
  evF (mkc K4) aQ 195 [.dat I i,.ip N (cs,ns,os,fs,ls,ks)] [] ⟨idx i (Df ls),.dat S (oH (aW ls) i),[]⟩:=@of_eq _ _ (by kernel_rfl) hvc
theorem bBG(cs:LC)(ns os:LB)(fs:List Off)(ls:List Line)(ks:List Cla)(e1:ByteArray)(e2 e3 e4 e5 e6:Int)(hvc:
 let c1:=jA (cs,ns,os,fs,ls,ks) (e1,e2,e3,e4,e5,e6);true/\(True->True/\c1=c1/\True)):
  evF (mkc K4) aQ 197 [.agg [.dat .str e1,.dat (.int .i64) e2,.dat (.int .i64) e3,.dat (.int .i64) e4,.dat (.int .i64) e5,.dat (.int .i64) e6],.ip N (cs,ns,os,fs,ls,ks)] [] ⟨True,.dat .bool (jA (cs,ns,os,fs,ls,ks) (e1,e2,e3,e4,e5,e6)),[]⟩:=@of_eq _ _ (by kernel_rfl) hvc
theorem bBr(i:Int)(cs:LC)(ns os:LB)(fs:List Off)(ls:List Line)(ks:List Cla)(hvc:
 let c1:=Df ks;true/\(idx i c1->0<=i/\i<c1/\(Du ks (Dc i) (ByteArray.mk #[],(0:Int),(0:Int))).1=oH (aX ks) i/\True)):
  evF (mkc K4) aQ 199 [.dat I i,.ip N (cs,ns,os,fs,ls,ks)] [] ⟨idx i (Df ks),.dat S (oH (aX ks) i),[]⟩:=@of_eq _ _ (by kernel_rfl) hvc
theorem bBF(e1:ByteArray)(e2 e3:Int)(hvc:
 let c1:=jU e2 0 1439;true/\(True->True/\(c1->c1->c1)/\(c1->c1->c1)/\(c1->True)/\(Di true c1->c1)/\Ec c1 (jU e3 0 1439) false=rF (e1,e2,e3)/\True)):
  evF (mkc K4) aQ 201 [.agg [.dat .str e1,.dat (.int .i64) e2,.dat (.int .i64) e3]] [] ⟨True,.dat .bool (rF (e1,e2,e3)),[]⟩:=@of_eq _ _ (by kernel_rfl) hvc
def K5: Kt:=kOr 186 (aP [.val I,.ptr N] (λ(i,(cs,ns,os,fs,ls,ks),_)=>idx i (Df cs)) λ(i,(cs,ns,os,fs,ls,ks),_)=>.dat S (oH (aU cs ns) i))
 (kOr 188 (aP [.val I,.ptr N] (λ(i,(cs,ns,os,fs,ls,ks),_)=>idx i (Df os)) λ(i,(cs,ns,os,fs,ls,ks),_)=>.dat S (oH (os) i))
 (kOr 190 (aP [.row S] (λ_=>True) λ_=>.dat .bool true)
 (kOr 191 (aP [.val I,.ptr N] (λ(i,(cs,ns,os,fs,ls,ks),_)=>idx i (Df fs)) λ(i,(cs,ns,os,fs,ls,ks),_)=>.dat S (oH (aV fs) i))
 (kOr 193 (aP [.row Of,.ptr N] (λ_=>True) λ(o,n,_)=>.dat .bool (iZ n o))
 (kOr 195 (aP [.val I,.ptr N] (λ(i,(cs,ns,os,fs,ls,ks),_)=>idx i (Df ls)) λ(i,(cs,ns,os,fs,ls,ks),_)=>.dat S (oH (aW ls) i))
 (kOr 197 (aP [.row Ln,.ptr N] (λ_=>True) λ(l,n,_)=>.dat .bool (jA n l))
 (kOr 199 (aP [.val I,.ptr N] (λ(i,(cs,ns,os,fs,ls,ks),_)=>idx i (Df ks)) λ(i,(cs,ns,os,fs,ls,ks),_)=>.dat S (oH (aX ks) i))
 (kOr 201 (aP [.row Kl] (λ_=>True) λ(k,_)=>.dat .bool (rF k)) K4))))))))
def twA(l:List ByteArray)(i:Int): Ann:=⟨λid st=>match id with
 | 2=>some {α:=Int,inv:=λk=>aGd l i k,st:=λk=>put st [(6,.dat I k)],μ:=λk=>Dc (Dh i k)}
 | _=>none,λ_ _=>none,λ_ _=>none⟩
theorem bBo(i:Int)(cs:LC)(ns os:LB)(fs:List Off)(ls:List Line)(ks:List Cla)(hvc:
 let c1:=Dk (gV (oH (aU cs ns) i));let c2:=dV (aU cs ns) i;true/\(idx i (Df cs)->idx i (Df cs)/\True/\(c1->1=c2/\True)/\(c1=false->0=c2/\True))):
  evF (mkc K5) aQ 235 [.dat I i,.ipv (.fn 186 [.ip N (cs,ns,os,fs,ls,ks)])] [] ⟨idx i (Df cs),.dat I (dV (aU cs ns) i),[]⟩:=@of_eq _ _ (by kernel_rfl) hvc
theorem bBj(i:Int)(cs:LC)(ns os:LB)(fs:List Off)(ls:List Line)(ks:List Cla)(hvc:
 let c1:=Df cs;let c2:=(cs,ns,os,fs,ls,ks);let c3:=rule2 (aU cs ns) i;true/\(aDV i c1->(∃x,aGd (aU cs ns) i x/\i=i/\c2=c2/\i=i/\0=x/\True)/\∀(x:Int),let c4:=Fv (oH (aU cs ns) x) (oH (aU cs ns) i);let c5:=x+1;aGd (aU cs ns) i x->(Dp x i->idx x c1/\idx i c1/\(c4->4=c3/\True)/\(c4=false->inR IntKind.i64 c5/\∃y,aGd (aU cs ns) i y/\(i=i/\c2=c2/\i=i/\c5=y/\True)/\Dc (i-y)<Dc (i-x)))/\(Dp x i=false->0=c3/\True))):
  evF (mkc K5) (lvA [(2,[0,1,3,4,5,6])] (twA (aU cs ns) i)) 237 [.dat I i,.ipv (.fn 186 [.ip N (cs,ns,os,fs,ls,ks)])] [] ⟨aDV i (Df cs),.dat I (rule2 (aU cs ns) i),[]⟩:=@of_eq _ _ (by kernel_rfl) hvc
theorem bBe(i:Int)(cs:LC)(ns os:LB)(fs:List Off)(ls:List Line)(ks:List Cla)(hvc:
 let c1:=Df cs;let c2:=Du cs (Dc i) ((0:Int),Dt Bool,Dt Int);let c4:=Dk (aO c2.1 c2.2.1 c2.2.2);true/\(idx i c1->0<=i/\i<c1/\True/\(c4->1=fF (dH cs) i/\True)/\(c4=false->0=fF (dH cs) i/\True))):
  evF (mkc K5) aQ 238 [.dat I i,.ipv (.fn 161 []),.ip (.sl C) cs] [] ⟨idx i (Df cs),.dat I (fF (dH cs) i),[]⟩:=@of_eq _ _ (by kernel_rfl) hvc
theorem bBn(i:Int)(cs:LC)(ns os:LB)(fs:List Off)(ls:List Line)(ks:List Cla)(hvc:
 let c1:=Dk (gV (oH os i));true/\(idx i (Df os)->idx i (Df os)/\True/\(c1->1=dV os i/\True)/\(c1=false->0=dV os i/\True))):
  evF (mkc K5) aQ 239 [.dat I i,.ipv (.fn 188 [.ip N (cs,ns,os,fs,ls,ks)])] [] ⟨idx i (Df os),.dat I (dV (os) i),[]⟩:=@of_eq _ _ (by kernel_rfl) hvc
theorem bBi(i:Int)(cs:LC)(ns os:LB)(fs:List Off)(ls:List Line)(ks:List Cla)(hvc:
 let c1:=(cs,ns,os,fs,ls,ks);true/\(aDV i (Df os)->(∃x,aGd os i x/\i=i/\c1=c1/\i=i/\0=x/\True)/\∀(x:Int),let c2:=Fv (oH os x) (oH os i);let c3:=x+1;aGd os i x->(Dp x i->idx x (Df os)/\idx i (Df os)/\(c2->4=rule2 os i/\True)/\(c2=false->inR IntKind.i64 c3/\∃y,aGd os i y/\(i=i/\c1=c1/\i=i/\c3=y/\True)/\Dc (i-y)<Dc (i-x)))/\(Dp x i=false->0=rule2 os i/\True))):
  evF (mkc K5) (lvA [(2,[0,1,3,4,5,6])] (twA (os) i)) 240 [.dat I i,.ipv (.fn 188 [.ip N (cs,ns,os,fs,ls,ks)])] [] ⟨aDV i (Df os),.dat I (rule2 (os) i),[]⟩:=@of_eq _ _ (by kernel_rfl) hvc
theorem bBd(i:Int)(cs:LC)(ns os:LB)(fs:List Off)(ls:List Line)(ks:List Cla)(hvc:
 true/\(idx i (Df os)->0<=i/\i<Df os/\True/\(Dk true->1=fF (fK os) i/\True)/\(Dk true=false->0=fF (fK os) i/\True))):
  evF (mkc K5) aQ 241 [.dat I i,.ipv (.fn 190 []),.ip (.sl S) os] [] ⟨idx i (Df os),.dat I (fF (fK os) i),[]⟩:=@of_eq _ _ (by kernel_rfl) hvc
theorem bBm(i:Int)(cs:LC)(ns os:LB)(fs:List Off)(ls:List Line)(ks:List Cla)(hvc:
 let c1:=Dk (gV (oH (aV fs) i));true/\(idx i (Df fs)->idx i (Df fs)/\True/\(c1->1=dV (aV fs) i/\True)/\(c1=false->0=dV (aV fs) i/\True))):
  evF (mkc K5) aQ 242 [.dat I i,.ipv (.fn 191 [.ip N (cs,ns,os,fs,ls,ks)])] [] ⟨idx i (Df fs),.dat I (dV (aV fs) i),[]⟩:=@of_eq _ _ (by kernel_rfl) hvc
theorem bBh(i:Int)(cs:LC)(ns os:LB)(fs:List Off)(ls:List Line)(ks:List Cla)(hvc:
 let c1:=Df fs;let c2:=(cs,ns,os,fs,ls,ks);true/\(aDV i c1->(∃x,aGd (aV fs) i x/\i=i/\c2=c2/\i=i/\0=x/\True)/\∀(x:Int),let c3:=Fv (oH (aV fs) x) (oH (aV fs) i);let c4:=x+1;aGd (aV fs) i x->(Dp x i->idx x c1/\idx i c1/\(c3->4=rule2 (aV fs) i/\True)/\(c3=false->inR IntKind.i64 c4/\∃y,aGd (aV fs) i y/\(i=i/\c2=c2/\i=i/\c4=y/\True)/\Dc (i-y)<Dc (i-x)))/\(Dp x i=false->0=rule2 (aV fs) i/\True))):
  evF (mkc K5) (lvA [(2,[0,1,3,4,5,6])] (twA (aV fs) i)) 243 [.dat I i,.ipv (.fn 191 [.ip N (cs,ns,os,fs,ls,ks)])] [] ⟨aDV i (Df fs),.dat I (rule2 (aV fs) i),[]⟩:=@of_eq _ _ (by kernel_rfl) hvc
theorem bBc(i:Int)(cs:LC)(ns os:LB)(fs:List Off)(ls:List Line)(ks:List Cla)(hvc:
 let c1:=Df fs;let c2:=(cs,ns,os,fs,ls,ks);let c9:=Dk (iZ c2 (Du fs (Dc i) (ByteArray.mk #[],(0:Int),(0:Int),(0:Int),(0:Int),(0:Int),Dt ByteArray)));let c10:=fF (iQ c2) i;true/\(idx i c1->0<=i/\i<c1/\True/\(c9->1=c10/\True)/\(c9=false->0=c10/\True))):
  evF (mkc K5) aQ 244 [.dat I i,.ipv (.fn 193 [.ip N (cs,ns,os,fs,ls,ks)]),.ip (.sl Of) fs] [] ⟨idx i (Df fs),.dat I (fF (iQ (cs,ns,os,fs,ls,ks)) i),[]⟩:=@of_eq _ _ (by kernel_rfl) hvc
theorem bBl(i:Int)(cs:LC)(ns os:LB)(fs:List Off)(ls:List Line)(ks:List Cla)(hvc:
 let c1:=Dk (gV (oH (aW ls) i));true/\(idx i (Df ls)->idx i (Df ls)/\True/\(c1->1=dV (aW ls) i/\True)/\(c1=false->0=dV (aW ls) i/\True))):
  evF (mkc K5) aQ 249 [.dat I i,.ipv (.fn 195 [.ip N (cs,ns,os,fs,ls,ks)])] [] ⟨idx i (Df ls),.dat I (dV (aW ls) i),[]⟩:=@of_eq _ _ (by kernel_rfl) hvc
theorem bBg(i:Int)(cs:LC)(ns os:LB)(fs:List Off)(ls:List Line)(ks:List Cla)(hvc:
 let c1:=Df ls;let c2:=(cs,ns,os,fs,ls,ks);true/\(aDV i c1->(∃x,aGd (aW ls) i x/\i=i/\c2=c2/\i=i/\0=x/\True)/\∀(x:Int),let c3:=Fv (oH (aW ls) x) (oH (aW ls) i);let c4:=x+1;aGd (aW ls) i x->(Dp x i->idx x c1/\idx i c1/\(c3->4=rule2 (aW ls) i/\True)/\(c3=false->inR IntKind.i64 c4/\∃y,aGd (aW ls) i y/\(i=i/\c2=c2/\i=i/\c4=y/\True)/\Dc (i-y)<Dc (i-x)))/\(Dp x i=false->0=rule2 (aW ls) i/\True))):
  evF (mkc K5) (lvA [(2,[0,1,3,4,5,6])] (twA (aW ls) i)) 250 [.dat I i,.ipv (.fn 195 [.ip N (cs,ns,os,fs,ls,ks)])] [] ⟨aDV i (Df ls),.dat I (rule2 (aW ls) i),[]⟩:=@of_eq _ _ (by kernel_rfl) hvc
theorem bBb(i:Int)(cs:LC)(ns os:LB)(fs:List Off)(ls:List Line)(ks:List Cla)(hvc:
 let c1:=Df ls;let c2:=(cs,ns,os,fs,ls,ks);let c8:=Dk (jA c2 (Du ls (Dc i) (ByteArray.mk #[],(0:Int),(0:Int),(0:Int),(0:Int),(0:Int))));let c9:=fF (iH c2) i;true/\(idx i c1->0<=i/\i<c1/\True/\(c8->1=c9/\True)/\(c8=false->0=c9/\True))):
  evF (mkc K5) aQ 251 [.dat I i,.ipv (.fn 197 [.ip N (cs,ns,os,fs,ls,ks)]),.ip (.sl Ln) ls] [] ⟨idx i (Df ls),.dat I (fF (iH (cs,ns,os,fs,ls,ks)) i),[]⟩:=@of_eq _ _ (by kernel_rfl) hvc
theorem bBk(i:Int)(cs:LC)(ns os:LB)(fs:List Off)(ls:List Line)(ks:List Cla)(hvc:
 let c1:=Dk (gV (oH (aX ks) i));true/\(idx i (Df ks)->idx i (Df ks)/\True/\(c1->1=dV (aX ks) i/\True)/\(c1=false->0=dV (aX ks) i/\True))):
  evF (mkc K5) aQ 253 [.dat I i,.ipv (.fn 199 [.ip N (cs,ns,os,fs,ls,ks)])] [] ⟨idx i (Df ks),.dat I (dV (aX ks) i),[]⟩:=@of_eq _ _ (by kernel_rfl) hvc
theorem bBf(i:Int)(cs:LC)(ns os:LB)(fs:List Off)(ls:List Line)(ks:List Cla)(hvc:
 let c1:=Df ks;let c2:=(cs,ns,os,fs,ls,ks);true/\(aDV i c1->(∃x,aGd (aX ks) i x/\i=i/\c2=c2/\i=i/\0=x/\True)/\∀(x:Int),let c3:=Fv (oH (aX ks) x) (oH (aX ks) i);let c4:=x+1;aGd (aX ks) i x->(Dp x i->idx x c1/\idx i c1/\(c3->4=rule2 (aX ks) i/\True)/\(c3=false->inR IntKind.i64 c4/\∃y,aGd (aX ks) i y/\(i=i/\c2=c2/\i=i/\c4=y/\True)/\Dc (i-y)<Dc (i-x)))/\(Dp x i=false->0=rule2 (aX ks) i/\True))):
  evF (mkc K5) (lvA [(2,[0,1,3,4,5,6])] (twA (aX ks) i)) 254 [.dat I i,.ipv (.fn 199 [.ip N (cs,ns,os,fs,ls,ks)])] [] ⟨aDV i (Df ks),.dat I (rule2 (aX ks) i),[]⟩:=@of_eq _ _ (by kernel_rfl) hvc
theorem bBa(i:Int)(cs:LC)(ns os:LB)(fs:List Off)(ls:List Line)(ks:List Cla)(hvc:
 let c1:=Df ks;let c4:=Dk (rF (Du ks (Dc i) (ByteArray.mk #[],(0:Int),(0:Int))));true/\(idx i c1->0<=i/\i<c1/\True/\(c4->1=fF (dO ks) i/\True)/\(c4=false->0=fF (dO ks) i/\True))):
  evF (mkc K5) aQ 255 [.dat I i,.ipv (.fn 201 []),.ip (.sl Kl) ks] [] ⟨idx i (Df ks),.dat I (fF (dO ks) i),[]⟩:=@of_eq _ _ (by kernel_rfl) hvc
def K6: Kt:=
 kOr 235 (aP [.val I,.fnp 186 N] (λ(i,(cs,ns,os,fs,ls,ks),_)=>idx i (Df cs)) λ(i,(cs,ns,os,fs,ls,ks),_)=>.dat I (dV (aU cs ns) i)) <|
 kOr 237 (aP [.val I,.fnp 186 N] (λ(i,(cs,ns,os,fs,ls,ks),_)=>aDV i (Df cs)) λ(i,(cs,ns,os,fs,ls,ks),_)=>.dat I (rule2 (aU cs ns) i)) <|
 kOr 238 (aP [.val I,.fnp0 161,.ptr (.sl C)] (λ(i,_,cs,_)=>idx i (Df cs)) λ(i,_,cs,_)=>.dat I (fF (dH cs) i)) <|
 kOr 239 (aP [.val I,.fnp 188 N] (λ(i,(cs,ns,os,fs,ls,ks),_)=>idx i (Df os)) λ(i,(cs,ns,os,fs,ls,ks),_)=>.dat I (dV (os) i)) <|
 kOr 240 (aP [.val I,.fnp 188 N] (λ(i,(cs,ns,os,fs,ls,ks),_)=>aDV i (Df os)) λ(i,(cs,ns,os,fs,ls,ks),_)=>.dat I (rule2 (os) i)) <|
 kOr 241 (aP [.val I,.fnp0 190,.ptr (.sl S)] (λ(i,_,os,_)=>idx i (Df os)) λ(i,_,os,_)=>.dat I (fF (fK os) i)) <|
 kOr 242 (aP [.val I,.fnp 191 N] (λ(i,(cs,ns,os,fs,ls,ks),_)=>idx i (Df fs)) λ(i,(cs,ns,os,fs,ls,ks),_)=>.dat I (dV (aV fs) i)) <|
 kOr 243 (aP [.val I,.fnp 191 N] (λ(i,(cs,ns,os,fs,ls,ks),_)=>aDV i (Df fs)) λ(i,(cs,ns,os,fs,ls,ks),_)=>.dat I (rule2 (aV fs) i)) <|
 kOr 244 (aP [.val I,.fnp 193 N,.ptr (.sl Of)] (λ(i,(cs,ns,os,fs,ls,ks),xs,_)=>idx i (Df fs)/\xs=fs) λ(i,(cs,ns,os,fs,ls,ks),_,_)=>.dat I (fF (iQ (cs,ns,os,fs,ls,ks)) i)) <|
 kOr 249 (aP [.val I,.fnp 195 N] (λ(i,(cs,ns,os,fs,ls,ks),_)=>idx i (Df ls)) λ(i,(cs,ns,os,fs,ls,ks),_)=>.dat I (dV (aW ls) i)) <|
 kOr 250 (aP [.val I,.fnp 195 N] (λ(i,(cs,ns,os,fs,ls,ks),_)=>aDV i (Df ls)) λ(i,(cs,ns,os,fs,ls,ks),_)=>.dat I (rule2 (aW ls) i)) <|
 kOr 251 (aP [.val I,.fnp 197 N,.ptr (.sl Ln)] (λ(i,(cs,ns,os,fs,ls,ks),xs,_)=>idx i (Df ls)/\xs=ls) λ(i,(cs,ns,os,fs,ls,ks),_,_)=>.dat I (fF (iH (cs,ns,os,fs,ls,ks)) i)) <|
 kOr 253 (aP [.val I,.fnp 199 N] (λ(i,(cs,ns,os,fs,ls,ks),_)=>idx i (Df ks)) λ(i,(cs,ns,os,fs,ls,ks),_)=>.dat I (dV (aX ks) i)) <|
 kOr 254 (aP [.val I,.fnp 199 N] (λ(i,(cs,ns,os,fs,ls,ks),_)=>aDV i (Df ks)) λ(i,(cs,ns,os,fs,ls,ks),_)=>.dat I (rule2 (aX ks) i)) <|
 kOr 255 (aP [.val I,.fnp0 201,.ptr (.sl Kl)] (λ(i,_,ks,_)=>idx i (Df ks)) λ(i,_,ks,_)=>.dat I (fF (dO ks) i)) <|
 K5
def aKj(kind lim:Int)(l:List ByteArray)(g:List Bool): Ann:=⟨λid st=>match id with
 | 4=>some {α:=Int,inv:=λk=>iR k (Df l) lim,st:=λk=>pX (put st [(25,.dat I k),(12,.buf 100 (Dj (bQ kind l g k)))]) 100 (.buf 177 Fa (bQ kind l g k) []),μ:=λk=>Dc (Dh lim k)}
 | 7=>match st.sig.T 13 with
  | .dat (.int .i64) i=>some {α:=Int,inv:=λk=>fU l g i k,st:=λk=>put st [(29,.dat I k),(12,.buf 100 (Dj (bQ kind l g i)))],μ:=λk=>Dc (Dh 3 k)}
  | _=>none
 | _=>none,λ_ _=>none,λ_ _=>none⟩
theorem bBO(cs:LC)(ns os:LB)(fs:List Off)(ls:List Line)(ks:List Cla)(hvc:
 let c1:=Df cs;let c2:=Eu c1 6;let c3:=(cs,ns,os,fs,ls,ks);let c4:=Ei c1 6;let c5:=[((1:Int),(6:Int),(2:Int))];let c6:=dS 1 6 (aU cs ns) (dH cs);true/\(True->1=1/\0=0/\(∃x,let c7:=bQ 1 (aU cs ns) (dH cs) x;iR x (Df (aU cs ns)) 6/\(1:Int)=(1:Int)/\(6:Int)=(6:Int)/\cs=cs/\Value.slice none (0) (0)=Value.slice none (0) (0)/\1=1/\0=0/\0=0/\Dj c7=0/\c7=Dt (Int×Int×Int)/\c2=c2/\0=x/\c3=c3/\c3=c3/\cs=cs/\c7=Dt (Int×Int×Int)/\True)/\∀(x:Int),let c8:=Df (aU cs ns);let c9:=bQ 1 (aU cs ns) (dH cs) x;let c10:=Dj c9;let c12:=x+1;let c13:=c10+Dj c5;let c14:=Ef c9 c5;iR x c8 6->(Dp x c2->1=1/\0=0/\(∃x_3,fU (aU cs ns) (dH cs) x x_3/\(1:Int)=(1:Int)/\(6:Int)=(6:Int)/\cs=cs/\Value.slice none (0) (0)=Value.slice none (0) (0)/\1=1/\0=0/\0=0/\c10=c10/\x=x/\c2=c2/\x=x/\c3=c3/\c3=c3/\cs=cs/\0=x_3/\c3=c3/\c3=c3/\cs=cs/\c9=c9/\True)/\∀(x_3:Int),let c15:=Dp x_3 3;let c16:=Du [dV (aU cs ns) x,rule2 (aU cs ns) x,fF (dH cs) x] (Dc x_3) 0;let c17:=Eb c16 0;let c18:=[((1:Int),x,c16)];let c19:=c10+Dj c18;let c20:=x_3+1;fU (aU cs ns) (dH cs) x x_3->(c15->0<=x_3/\x_3<Dx (3)/\(Dc x_3=0->idx x c1)/\(Dc x_3=1->aDV x c1)/\(Dc x_3=2->idx x c1)/\(c17->c10=c10/\(c19*(24))<=(140737488355328)/\c19<=(9223372036854775807)/\inR IntKind.i64 c12/\∃y,let c21:=bQ 1 (aU cs ns) (dH cs) y;
 iR y c8 6/\((1:Int)=(1:Int)/\(6:Int)=(6:Int)/\cs=cs/\Value.slice none (0) (0)=Value.slice none (0) (0)/\1=1/\0=0/\0=0/\c19=Dj c21/\c2=c2/\c12=y/\c3=c3/\c3=c3/\cs=cs/\Ef c9 c18=c21/\True)/\Dc (6-y)<Dc (6-x))/\(c17=false->inR IntKind.i64 c20/\∃y,fU (aU cs ns) (dH cs) x y/\((1:Int)=(1:Int)/\(6:Int)=(6:Int)/\cs=cs/\Value.slice none (0) (0)=Value.slice none (0) (0)/\1=1/\0=0/\0=0/\c10=c10/\x=x/\c2=c2/\x=x/\c3=c3/\c3=c3/\cs=cs/\c20=y/\c3=c3/\c3=c3/\cs=cs/\c9=c9/\True)/\Dc (3-y)<Dc (3-x_3)))/\(c15=false->inR IntKind.i64 c12/\∃y,let c22:=bQ 1 (aU cs ns) (dH cs) y;iR y c8 6/\((1:Int)=(1:Int)/\(6:Int)=(6:Int)/\cs=cs/\Value.slice none (0) (0)=Value.slice none (0) (0)/\1=1/\0=0/\0=0/\c10=Dj c22/\c2=c2/\c12=y/\c3=c3/\c3=c3/\cs=cs/\c9=c22/\True)/\Dc (6-y)<Dc (6-x)))/\(Dp x c2=false->(c4->c10=c10/\(c13*(24))<=(140737488355328)/\c13<=(9223372036854775807)/\Dj c14=c13/\c14=c6/\True)/\(c4=false->c10=c10/\c9=c6/\True)))):
  evF (mkc K6) (lvA [(4,[0,1,7,10,11,12,13,15,16,24,25,28,29]),(7,[0,1,7,10,11,12,13,15,16,24,25,28,29])] (aKj 1 6 (aU cs ns) (dH cs))) 187 [.dat I 1,.dat I 6,.dat (.sl C) cs,.fn 186 [.ip N (cs,ns,os,fs,ls,ks)],.fn 161 []] [] ⟨True,.dat (.sl Fa) (dS 1 6 (aU cs ns) (dH cs)),[]⟩:=@of_eq _ _ (by kernel_rfl) hvc
theorem bBN(cs:LC)(ns os:LB)(fs:List Off)(ls:List Line)(ks:List Cla)(hvc:
 let c1:=Eu (Df os) 6;let c2:=(cs,ns,os,fs,ls,ks);let c3:=Ei (Df os) 6;let c4:=[((2:Int),(6:Int),(2:Int))];let c5:=dS 2 6 os (fK os);true/\(True->1=1/\0=0/\(∃x,let c6:=bQ 2 os (fK os) x;iR x (Df os) 6/\(2:Int)=(2:Int)/\(6:Int)=(6:Int)/\os=os/\Value.slice none (0) (0)=Value.slice none (0) (0)/\1=1/\0=0/\0=0/\Dj c6=0/\c6=Dt (Int×Int×Int)/\c1=c1/\0=x/\c2=c2/\c2=c2/\os=os/\c6=Dt (Int×Int×Int)/\True)/\∀(x:Int),let c7:=bQ 2 os (fK os) x;let c8:=Dj c7;let c10:=x+1;let c11:=c8+Dj c4;let c12:=Ef c7 c4;iR x (Df os) 6->(Dp x c1->1=1/\0=0/\(∃x_3,fU os (fK os) x x_3/\(2:Int)=(2:Int)/\(6:Int)=(6:Int)/\os=os/\Value.slice none (0) (0)=Value.slice none (0) (0)/\1=1/\0=0/\0=0/\c8=c8/\x=x/\c1=c1/\x=x/\c2=c2/\c2=c2/\os=os/\0=x_3/\c2=c2/\c2=c2/\os=os/\c7=c7/\True)/\∀(x_3:Int),let c13:=Dp x_3 3;let c14:=Du [dV os x,rule2 os x,fF (fK os) x] (Dc x_3) 0;let c15:=Eb c14 0;let c16:=[((2:Int),x,c14)];let c17:=c8+Dj c16;let c18:=x_3+1;fU os (fK os) x x_3->(c13->0<=x_3/\x_3<Dx (3)/\(Dc x_3=0->idx x (Df os))/\(Dc x_3=1->aDV x (Df os))/\(Dc x_3=2->idx x (Df os))/\(c15->c8=c8/\(c17*(24))<=(140737488355328)/\c17<=(9223372036854775807)/\inR IntKind.i64 c10/\∃y,let c19:=bQ 2 os (fK os) y;
 iR y (Df os) 6/\((2:Int)=(2:Int)/\(6:Int)=(6:Int)/\os=os/\Value.slice none (0) (0)=Value.slice none (0) (0)/\1=1/\0=0/\0=0/\c17=Dj c19/\c1=c1/\c10=y/\c2=c2/\c2=c2/\os=os/\Ef c7 c16=c19/\True)/\Dc (6-y)<Dc (6-x))/\(c15=false->inR IntKind.i64 c18/\∃y,fU os (fK os) x y/\((2:Int)=(2:Int)/\(6:Int)=(6:Int)/\os=os/\Value.slice none (0) (0)=Value.slice none (0) (0)/\1=1/\0=0/\0=0/\c8=c8/\x=x/\c1=c1/\x=x/\c2=c2/\c2=c2/\os=os/\c18=y/\c2=c2/\c2=c2/\os=os/\c7=c7/\True)/\Dc (3-y)<Dc (3-x_3)))/\(c13=false->inR IntKind.i64 c10/\∃y,let c20:=bQ 2 os (fK os) y;iR y (Df os) 6/\((2:Int)=(2:Int)/\(6:Int)=(6:Int)/\os=os/\Value.slice none (0) (0)=Value.slice none (0) (0)/\1=1/\0=0/\0=0/\c8=Dj c20/\c1=c1/\c10=y/\c2=c2/\c2=c2/\os=os/\c7=c20/\True)/\Dc (6-y)<Dc (6-x)))/\(Dp x c1=false->(c3->c8=c8/\(c11*(24))<=(140737488355328)/\c11<=(9223372036854775807)/\Dj c12=c11/\c12=c5/\True)/\(c3=false->c8=c8/\c7=c5/\True)))):
  evF (mkc K6) (lvA [(4,[0,1,7,10,11,12,13,15,16,24,25,28,29]),(7,[0,1,7,10,11,12,13,15,16,24,25,28,29])] (aKj 2 6 (os) (fK os))) 189 [.dat I 2,.dat I 6,.dat (.sl S) os,.fn 188 [.ip N (cs,ns,os,fs,ls,ks)],.fn 190 []] [] ⟨True,.dat (.sl Fa) (dS 2 6 (os) (fK os)),[]⟩:=@of_eq _ _ (by kernel_rfl) hvc
theorem bBM(cs:LC)(ns os:LB)(fs:List Off)(ls:List Line)(ks:List Cla)(hvc:
 let c1:=(cs,ns,os,fs,ls,ks);let c2:=iQ c1;let c3:=Df fs;let c4:=Eu c3 12;let c5:=Ei c3 12;let c6:=[((3:Int),(12:Int),(2:Int))];let c7:=dS 3 12 (aV fs) c2;true/\(True->1=1/\0=0/\(∃x,let c8:=bQ 3 (aV fs) c2 x;iR x (Df (aV fs)) 12/\(3:Int)=(3:Int)/\(12:Int)=(12:Int)/\fs=fs/\Value.slice none (0) (0)=Value.slice none (0) (0)/\1=1/\0=0/\0=0/\Dj c8=0/\c8=Dt (Int×Int×Int)/\c4=c4/\0=x/\c1=c1/\c1=c1/\c1=c1/\fs=fs/\c8=Dt (Int×Int×Int)/\True)/\∀(x:Int),let c9:=bQ 3 (aV fs) c2 x;let c10:=Dj c9;let c12:=x+1;let c13:=c10+Dj c6;let c14:=Ef c9 c6;iR x (Df (aV fs)) 12->(Dp x c4->1=1/\0=0/\(∃x_3,fU (aV fs) c2 x x_3/\(3:Int)=(3:Int)/\(12:Int)=(12:Int)/\fs=fs/\Value.slice none (0) (0)=Value.slice none (0) (0)/\1=1/\0=0/\0=0/\c10=c10/\x=x/\c4=c4/\x=x/\c1=c1/\c1=c1/\c1=c1/\fs=fs/\0=x_3/\c1=c1/\c1=c1/\c1=c1/\fs=fs/\c9=c9/\True)/\∀(x_3:Int),let c15:=Dp x_3 3;let c16:=Du [dV (aV fs) x,rule2 (aV fs) x,fF c2 x] (Dc x_3) 0;let c17:=Eb c16 0;let c18:=[((3:Int),x,c16)];let c19:=c10+Dj c18;let c20:=x_3+1;fU (aV fs) c2 x x_3->(c15->0<=x_3/\x_3<Dx (3)/\(Dc x_3=0->idx x c3)/\(Dc x_3=1->aDV x c3)/\(Dc x_3=2->idx x c3/\fs=fs)/\(c17->c10=c10/\(c19*(24))<=(140737488355328)/\c19<=(9223372036854775807)/\inR IntKind.i64 c12/\∃y,let c21:=bQ 3 (aV fs) c2 y;
 iR y (Df (aV fs)) 12/\((3:Int)=(3:Int)/\(12:Int)=(12:Int)/\fs=fs/\Value.slice none (0) (0)=Value.slice none (0) (0)/\1=1/\0=0/\0=0/\c19=Dj c21/\c4=c4/\c12=y/\c1=c1/\c1=c1/\c1=c1/\fs=fs/\Ef c9 c18=c21/\True)/\Dc (12-y)<Dc (12-x))/\(c17=false->inR IntKind.i64 c20/\∃y,fU (aV fs) c2 x y/\((3:Int)=(3:Int)/\(12:Int)=(12:Int)/\fs=fs/\Value.slice none (0) (0)=Value.slice none (0) (0)/\1=1/\0=0/\0=0/\c10=c10/\x=x/\c4=c4/\x=x/\c1=c1/\c1=c1/\c1=c1/\fs=fs/\c20=y/\c1=c1/\c1=c1/\c1=c1/\fs=fs/\c9=c9/\True)/\Dc (3-y)<Dc (3-x_3)))/\(c15=false->inR IntKind.i64 c12/\∃y,let c22:=bQ 3 (aV fs) c2 y;iR y (Df (aV fs)) 12/\((3:Int)=(3:Int)/\(12:Int)=(12:Int)/\fs=fs/\Value.slice none (0) (0)=Value.slice none (0) (0)/\1=1/\0=0/\0=0/\c10=Dj c22/\c4=c4/\c12=y/\c1=c1/\c1=c1/\c1=c1/\fs=fs/\c9=c22/\True)/\Dc (12-y)<Dc (12-x)))/\(Dp x c4=false->(c5->c10=c10/\(c13*(24))<=(140737488355328)/\c13<=(9223372036854775807)/\Dj c14=c13/\c14=c7/\True)/\(c5=false->c10=c10/\c9=c7/\True)))):
  evF (mkc K6) (lvA [(4,[0,1,7,10,11,12,13,15,16,24,25,28,29]),(7,[0,1,7,10,11,12,13,15,16,24,25,28,29])] (aKj 3 12 (aV fs) (iQ (cs,ns,os,fs,ls,ks)))) 192 [.dat I 3,.dat I 12,.dat (.sl Of) fs,.fn 191 [.ip N (cs,ns,os,fs,ls,ks)],.fn 193 [.ip N (cs,ns,os,fs,ls,ks)]] [] ⟨True,.dat (.sl Fa) (dS 3 12 (aV fs) (iQ (cs,ns,os,fs,ls,ks))),[]⟩:=@of_eq _ _ (by kernel_rfl) hvc
theorem bBL(cs:LC)(ns os:LB)(fs:List Off)(ls:List Line)(ks:List Cla)(hvc:
 let c1:=(cs,ns,os,fs,ls,ks);let c2:=iH c1;let c3:=Df ls;let c4:=Eu c3 40;let c5:=Ei c3 40;let c6:=[((4:Int),(40:Int),(2:Int))];let c7:=dS 4 40 (aW ls) c2;true/\(True->1=1/\0=0/\(∃x,let c8:=bQ 4 (aW ls) c2 x;iR x (Df (aW ls)) 40/\(4:Int)=(4:Int)/\(40:Int)=(40:Int)/\ls=ls/\Value.slice none (0) (0)=Value.slice none (0) (0)/\1=1/\0=0/\0=0/\Dj c8=0/\c8=Dt (Int×Int×Int)/\c4=c4/\0=x/\c1=c1/\c1=c1/\c1=c1/\ls=ls/\c8=Dt (Int×Int×Int)/\True)/\∀(x:Int),let c9:=bQ 4 (aW ls) c2 x;let c10:=Dj c9;let c12:=x+1;let c13:=c10+Dj c6;let c14:=Ef c9 c6;iR x (Df (aW ls)) 40->(Dp x c4->1=1/\0=0/\(∃x_3,fU (aW ls) c2 x x_3/\(4:Int)=(4:Int)/\(40:Int)=(40:Int)/\ls=ls/\Value.slice none (0) (0)=Value.slice none (0) (0)/\1=1/\0=0/\0=0/\c10=c10/\x=x/\c4=c4/\x=x/\c1=c1/\c1=c1/\c1=c1/\ls=ls/\0=x_3/\c1=c1/\c1=c1/\c1=c1/\ls=ls/\c9=c9/\True)/\∀(x_3:Int),let c15:=Dp x_3 3;let c16:=Du [dV (aW ls) x,rule2 (aW ls) x,fF c2 x] (Dc x_3) 0;let c17:=Eb c16 0;let c18:=[((4:Int),x,c16)];let c19:=c10+Dj c18;let c20:=x_3+1;fU (aW ls) c2 x x_3->(c15->0<=x_3/\x_3<Dx (3)/\(Dc x_3=0->idx x c3)/\(Dc x_3=1->aDV x c3)/\(Dc x_3=2->idx x c3/\ls=ls)/\(c17->c10=c10/\(c19*(24))<=(140737488355328)/\c19<=(9223372036854775807)/\inR IntKind.i64 c12/\∃y,let c21:=bQ 4 (aW ls) c2 y;
 iR y (Df (aW ls)) 40/\((4:Int)=(4:Int)/\(40:Int)=(40:Int)/\ls=ls/\Value.slice none (0) (0)=Value.slice none (0) (0)/\1=1/\0=0/\0=0/\c19=Dj c21/\c4=c4/\c12=y/\c1=c1/\c1=c1/\c1=c1/\ls=ls/\Ef c9 c18=c21/\True)/\Dc (40-y)<Dc (40-x))/\(c17=false->inR IntKind.i64 c20/\∃y,fU (aW ls) c2 x y/\((4:Int)=(4:Int)/\(40:Int)=(40:Int)/\ls=ls/\Value.slice none (0) (0)=Value.slice none (0) (0)/\1=1/\0=0/\0=0/\c10=c10/\x=x/\c4=c4/\x=x/\c1=c1/\c1=c1/\c1=c1/\ls=ls/\c20=y/\c1=c1/\c1=c1/\c1=c1/\ls=ls/\c9=c9/\True)/\Dc (3-y)<Dc (3-x_3)))/\(c15=false->inR IntKind.i64 c12/\∃y,let c22:=bQ 4 (aW ls) c2 y;iR y (Df (aW ls)) 40/\((4:Int)=(4:Int)/\(40:Int)=(40:Int)/\ls=ls/\Value.slice none (0) (0)=Value.slice none (0) (0)/\1=1/\0=0/\0=0/\c10=Dj c22/\c4=c4/\c12=y/\c1=c1/\c1=c1/\c1=c1/\ls=ls/\c9=c22/\True)/\Dc (40-y)<Dc (40-x)))/\(Dp x c4=false->(c5->c10=c10/\(c13*(24))<=(140737488355328)/\c13<=(9223372036854775807)/\Dj c14=c13/\c14=c7/\True)/\(c5=false->c10=c10/\c9=c7/\True)))):
  evF (mkc K6) (lvA [(4,[0,1,7,10,11,12,13,15,16,24,25,28,29]),(7,[0,1,7,10,11,12,13,15,16,24,25,28,29])] (aKj 4 40 (aW ls) (iH (cs,ns,os,fs,ls,ks)))) 196 [.dat I 4,.dat I 40,.dat (.sl Ln) ls,.fn 195 [.ip N (cs,ns,os,fs,ls,ks)],.fn 197 [.ip N (cs,ns,os,fs,ls,ks)]] [] ⟨True,.dat (.sl Fa) (dS 4 40 (aW ls) (iH (cs,ns,os,fs,ls,ks))),[]⟩:=@of_eq _ _ (by kernel_rfl) hvc
theorem bBK(cs:LC)(ns os:LB)(fs:List Off)(ls:List Line)(ks:List Cla)(hvc:
 let c1:=Df ks;let c2:=Eu c1 4;let c3:=(cs,ns,os,fs,ls,ks);let c4:=Ei c1 4;let c5:=[((5:Int),(4:Int),(2:Int))];let c6:=dS 5 4 (aX ks) (dO ks);true/\(True->1=1/\0=0/\(∃x,let c7:=bQ 5 (aX ks) (dO ks) x;iR x (Df (aX ks)) 4/\(5:Int)=(5:Int)/\(4:Int)=(4:Int)/\ks=ks/\Value.slice none (0) (0)=Value.slice none (0) (0)/\1=1/\0=0/\0=0/\Dj c7=0/\c7=Dt (Int×Int×Int)/\c2=c2/\0=x/\c3=c3/\c3=c3/\ks=ks/\c7=Dt (Int×Int×Int)/\True)/\∀(x:Int),let c8:=bQ 5 (aX ks) (dO ks) x;let c9:=Dj c8;let c11:=x+1;let c12:=c9+Dj c5;let c13:=Ef c8 c5;iR x (Df (aX ks)) 4->(Dp x c2->1=1/\0=0/\(∃x_3,fU (aX ks) (dO ks) x x_3/\(5:Int)=(5:Int)/\(4:Int)=(4:Int)/\ks=ks/\Value.slice none (0) (0)=Value.slice none (0) (0)/\1=1/\0=0/\0=0/\c9=c9/\x=x/\c2=c2/\x=x/\c3=c3/\c3=c3/\ks=ks/\0=x_3/\c3=c3/\c3=c3/\ks=ks/\c8=c8/\True)/\∀(x_3:Int),let c14:=Dp x_3 3;let c15:=Du [dV (aX ks) x,rule2 (aX ks) x,fF (dO ks) x] (Dc x_3) 0;let c16:=Eb c15 0;let c17:=[((5:Int),x,c15)];let c18:=c9+Dj c17;let c19:=x_3+1;fU (aX ks) (dO ks) x x_3->(c14->0<=x_3/\x_3<Dx (3)/\(Dc x_3=0->idx x c1)/\(Dc x_3=1->aDV x c1)/\(Dc x_3=2->idx x c1)/\(c16->c9=c9/\(c18*(24))<=(140737488355328)/\c18<=(9223372036854775807)/\inR IntKind.i64 c11/\∃y,let c20:=bQ 5 (aX ks) (dO ks) y;
 iR y (Df (aX ks)) 4/\((5:Int)=(5:Int)/\(4:Int)=(4:Int)/\ks=ks/\Value.slice none (0) (0)=Value.slice none (0) (0)/\1=1/\0=0/\0=0/\c18=Dj c20/\c2=c2/\c11=y/\c3=c3/\c3=c3/\ks=ks/\Ef c8 c17=c20/\True)/\Dc (4-y)<Dc (4-x))/\(c16=false->inR IntKind.i64 c19/\∃y,fU (aX ks) (dO ks) x y/\((5:Int)=(5:Int)/\(4:Int)=(4:Int)/\ks=ks/\Value.slice none (0) (0)=Value.slice none (0) (0)/\1=1/\0=0/\0=0/\c9=c9/\x=x/\c2=c2/\x=x/\c3=c3/\c3=c3/\ks=ks/\c19=y/\c3=c3/\c3=c3/\ks=ks/\c8=c8/\True)/\Dc (3-y)<Dc (3-x_3)))/\(c14=false->inR IntKind.i64 c11/\∃y,let c21:=bQ 5 (aX ks) (dO ks) y;iR y (Df (aX ks)) 4/\((5:Int)=(5:Int)/\(4:Int)=(4:Int)/\ks=ks/\Value.slice none (0) (0)=Value.slice none (0) (0)/\1=1/\0=0/\0=0/\c9=Dj c21/\c2=c2/\c11=y/\c3=c3/\c3=c3/\ks=ks/\c8=c21/\True)/\Dc (4-y)<Dc (4-x)))/\(Dp x c2=false->(c4->c9=c9/\(c12*(24))<=(140737488355328)/\c12<=(9223372036854775807)/\Dj c13=c12/\c13=c6/\True)/\(c4=false->c9=c9/\c8=c6/\True)))):
  evF (mkc K6) (lvA [(4,[0,1,7,10,11,12,13,15,16,24,25,28,29]),(7,[0,1,7,10,11,12,13,15,16,24,25,28,29])] (aKj 5 4 (aX ks) (dO ks))) 200 [.dat I 5,.dat I 4,.dat (.sl Kl) ks,.fn 199 [.ip N (cs,ns,os,fs,ls,ks)],.fn 201 []] [] ⟨True,.dat (.sl Fa) (dS 5 4 (aX ks) (dO ks)),[]⟩:=@of_eq _ _ (by kernel_rfl) hvc
def K7: Kt:=
 kOr 187 (aP [.val I,.val I,.val (.sl C),.fn 186 N,.fn0 161] (λ(k,m,xs,(cs,ns,os,fs,ls,ks),_,_)=>k=1/\m=6/\xs=cs) λ(_,_,_,(cs,ns,os,fs,ls,ks),_,_)=>.dat (.sl Fa) (dS 1 6 (aU cs ns) (dH cs))) <|
 kOr 189 (aP [.val I,.val I,.val (.sl S),.fn 188 N,.fn0 190] (λ(k,m,xs,(cs,ns,os,fs,ls,ks),_,_)=>k=2/\m=6/\xs=os) λ(_,_,_,(cs,ns,os,fs,ls,ks),_,_)=>.dat (.sl Fa) (dS 2 6 (os) (fK os))) <|
 kOr 192 (aP [.val I,.val I,.val (.sl Of),.fn 191 N,.fn 193 N] (λ(k,m,xs,(cs,ns,os,fs,ls,ks),n2,_)=>k=3/\m=12/\xs=fs/\n2=(cs,ns,os,fs,ls,ks)) λ(_,_,_,(cs,ns,os,fs,ls,ks),_,_)=>.dat (.sl Fa) (dS 3 12 (aV fs) (iQ (cs,ns,os,fs,ls,ks)))) <|
 kOr 196 (aP [.val I,.val I,.val (.sl Ln),.fn 195 N,.fn 197 N] (λ(k,m,xs,(cs,ns,os,fs,ls,ks),n2,_)=>k=4/\m=40/\xs=ls/\n2=(cs,ns,os,fs,ls,ks)) λ(_,_,_,(cs,ns,os,fs,ls,ks),_,_)=>.dat (.sl Fa) (dS 4 40 (aW ls) (iH (cs,ns,os,fs,ls,ks)))) <|
 kOr 200 (aP [.val I,.val I,.val (.sl Kl),.fn 199 N,.fn0 201] (λ(k,m,xs,(cs,ns,os,fs,ls,ks),_,_)=>k=5/\m=4/\xs=ks) λ(_,_,_,(cs,ns,os,fs,ls,ks),_,_)=>.dat (.sl Fa) (dS 5 4 (aX ks) (dO ks))) <|
 K6
theorem aPt(cs:LC)(ns os:LB)(fs:List Off)(ls:List Line)(ks:List Cla)(hvc:
 let c1:=Eb (Df ns) (Df cs);let c2:=[((1:Int),(-1:Int),(1:Int))];let c3:=Dj c2;let c4:=dS 1 6 (aU cs ns) (dH cs);let c5:=Dj c4;let c6:=c3+c5;let c7:=Ef c2 c4;let c8:=dS 2 6 os (fK os);let c9:=Dj c8;let c10:=c6+c9;let c11:=(cs,ns,os,fs,ls,ks);let c12:=Ef c7 c8;let c13:=dS 3 12 (aV fs) (iQ c11);let c14:=Dj c13;let c15:=c10+c14;let c16:=Ef c12 c13;let c17:=dS 4 40 (aW ls) (iH c11);let c18:=Dj c17;let c19:=c15+c18;let c20:=Ef c16 c17;let c21:=dS 5 4 (aX ks) (dO ks);let c22:=Dj c21;let c23:=c19+c22;let c24:=lU c11;let c25:=Dj c24;let c26:=c5+c9;let c27:=Ef c4 c8;let c28:=c26+c14;let c29:=Ef c27 c13;let c30:=c28+c18;let c31:=Ef c29 c17;let c32:=c30+c22;
 true/\(True->(c1->(c3*(24))<=(140737488355328)/\c3<=(9223372036854775807)/\((1:Int)=(1:Int)/\(6:Int)=(6:Int)/\cs=cs)/\c3=c3/\(c6*(24))<=(140737488355328)/\c6<=(9223372036854775807)/\((2:Int)=(2:Int)/\(6:Int)=(6:Int)/\os=os)/\Dj c7=c6/\(c10*(24))<=(140737488355328)/\c10<=(9223372036854775807)/\((3:Int)=(3:Int)/\(12:Int)=(12:Int)/\fs=fs/\c11=c11)/\Dj c12=c10/\(c15*(24))<=(140737488355328)/\c15<=(9223372036854775807)/\((4:Int)=(4:Int)/\(40:Int)=(40:Int)/\ls=ls/\c11=c11)/\Dj c16=c15/\(c19*(24))<=(140737488355328)/\c19<=(9223372036854775807)/\((5:Int)=(5:Int)/\(4:Int)=(4:Int)/\ks=ks)/\Dj c20=c19/\(c23*(24))<=(140737488355328)/\c23<=(9223372036854775807)/\c23=c25/\Ef c20 c21=c24/\True)/\(c1=false->((1:Int)=(1:Int)/\(6:Int)=(6:Int)/\cs=cs)/\(c5*(24))<=(140737488355328)/\c5<=(9223372036854775807)/\((2:Int)=(2:Int)/\(6:Int)=(6:Int)/\os=os)/\c5=c5/\(c26*(24))<=(140737488355328)/\c26<=(9223372036854775807)/\((3:Int)=(3:Int)/\(12:Int)=(12:Int)/\fs=fs/\c11=c11)/\Dj c27=c26/\(c28*(24))<=(140737488355328)/\c28<=(9223372036854775807)/\((4:Int)=(4:Int)/\(40:Int)=(40:Int)/\ls=ls/\c11=c11)/\Dj c29=c28/\(c30*(24))<=(140737488355328)/\c30<=(9223372036854775807)/\((5:Int)=(5:Int)/\(4:Int)=(4:Int)/\ks=ks)/\Dj c31=c30/\(c32*(24))<=(140737488355328)/\c32<=(9223372036854775807)/\c32=c25/\Ef c31 c21=c24/\True))):
  evF (mkc K7) aQ 129 [net cs ns os fs ls ks] [] ⟨True,.buf 0 (Dj (lU (cs,ns,os,fs,ls,ks))),[(0,.buf 177 Fa (lU (cs,ns,os,fs,ls,ks)) [])]⟩:=@of_eq _ _ (by kernel_rfl) hvc
theorem aYU(i:Int)(xs:List Of.den): aB Tryz.prog G0 252 [.dat I i,.dat (.sl Of) xs] [] ⟨True,.dat .bool (jT i (Df xs)),[]⟩:=by
 refine aA (c:=mkc K2) KS2 bD hm (aTH i xs ⟨rfl,λ_=>?_⟩)
 simp only[qc,Di,Es,Dk,jT,Ed,Dp,aBh,kQ]
theorem bCf(i:Int)(xs:List S.den): aB Tryz.prog G0 245 [.dat I i,.dat (.sl S) xs] [] ⟨True,.dat .bool (jT i (Df xs)),[]⟩:=by
 refine aA (c:=mkc K2) KS2 bD hm (aX3 i xs ⟨rfl,λ_=>?_⟩)
 simp only[qc,Di,Es,Dk,jT,Ed,Dp,aBh,kQ]
theorem bCg(i:Int)(xs:List C.den): aB Tryz.prog G0 246 [.dat I i,.dat (.sl C) xs] [] ⟨True,.dat .bool (jT i (Df xs)),[]⟩:=by
 refine aA (c:=mkc K2) KS2 bD hm (aX4 i xs ⟨rfl,λ_=>?_⟩)
 simp only[qc,Di,Es,Dk,jT,Ed,Dp,aBh,kQ]
theorem KS3: aI Tryz.prog G0 K3:=
 aH (aC λ(i,xs,_)=>aYU i xs)<|aH (aC λ(i,xs,_)=>bCf i xs)<|aH (aC λ(i,xs,_)=>bCg i xs) KS2
theorem aKf(l:List ByteArray): aAu l 0:=⟨qL _,qR _,by simp⟩
theorem aKg{l:List ByteArray}{x:Int}(h:aAu l x)(hx:x<l.length)(hp:iY (l.getD x.toNat ⟨#[]⟩)=true): aAu l (x+1):=by
 obtain⟨h0,h1,h2⟩:=h;refine⟨by omega,by omega,?_⟩
 rw[show(x+1).toNat=x.toNat+1 by omega]
 exact mF (d:=⟨#[]⟩) h2 (by omega) hp
theorem aR3{l:List ByteArray}{x:Int}(h:aAu l x)(hx:x<l.length)(hp:iY (l.getD x.toNat ⟨#[]⟩)=false): l.all iY=false:=
 aBi (d:=⟨#[]⟩) (k:=x.toNat) (by have:=h.1;omega) hp
theorem aLQ{l:List ByteArray}{x:Int}(h:aAu l x)(hx:¬x<l.length): l.all iY=true:=by
 obtain⟨h0,h1,h2⟩:=h
 rwa [qO (by omega)]at h2
theorem aIO(cs:LC)(ns os:LB)(fs:List Off)(ls:List Line)(ks:List Cla)(e1:ByteArray)(e2 e3 e4 e5 e6:Int)(e7:List ByteArray): aB Tryz.prog G0 194 [net cs ns os fs ls ks,.agg [.dat .str e1,.dat (.int .i64) e2,.dat (.int .i64) e3,.dat (.int .i64) e4,.dat (.int .i64) e5,.dat (.int .i64) e6,.dat (.sl .str) e7]] [] ⟨True,.dat .bool (iZ (cs,ns,os,fs,ls,ks) (e1,e2,e3,e4,e5,e6,e7)),[]⟩:=by
 refine aA (c:=mkc K3) KS3 bD hm (aHo cs ns os fs ls ks e1 e2 e3 e4 e5 e6 e7 ⟨rfl,λ_=>?_⟩)
 simp only[qc,Di,Es,Dk,qd,Dt,Ea,Eb,Dp,Ei,Eh,Ed,Ew,Df,Et,Dl,Dn,Eo,Dy,Dw,Dh,Dq,Ee,Fg,Dc,Dx,Dj,Dz,Ej,Du,Eu,Ez,En,Ef,Fe,Fj,Fh,Ep,Em,Ey,Fb];refine⟨λh=>?_,λ⟨⟨h1,h2⟩,h3⟩=>⟨aKf e7,λx hx=>⟨λhlt=>⟨hx.1,hlt,λhb=>?_,λhg=>⟨⟨by have:=hx.1;omega,by omega⟩,x+1,aKg hx hlt hg,rfl,by have:=hx.1;omega⟩⟩,λhge=>?_⟩⟩⟩
 .unfold iZ;rcases h with(h | h) | h
  .rw[show jT _ _=false from h];rfl
  .rw[show jT e3 _=false from h];simp
  .have:decide (e7.length<=20)=false:=vG (by omega)
   simp[this]
 .have:=aR3 hx hlt hb;simp[iZ,this]
 .have h4:=aLQ hx hge;have h5:decide (e7.length<=20)=true:=qW (by omega)
  have h1':jT e2 (os.length:Int)=true:=h1;have h2':jT e3 (cs.length:Int)=true:=h2;simp only[iZ,h1',h2',h4,h5,zQ]
theorem aNX(cs:LC)(ns os:LB)(fs:List Off)(ls:List Line)(ks:List Cla)(e1:ByteArray)(e2 e3 e4 e5 e6:Int): aB Tryz.prog G0 198 [net cs ns os fs ls ks,.agg [.dat .str e1,.dat (.int .i64) e2,.dat (.int .i64) e3,.dat (.int .i64) e4,.dat (.int .i64) e5,.dat (.int .i64) e6]] [] ⟨True,.dat .bool (jA (cs,ns,os,fs,ls,ks) (e1,e2,e3,e4,e5,e6)),[]⟩:=by
 refine aA (c:=mkc K3) KS3 bD hm (aKN cs ns os fs ls ks e1 e2 e3 e4 e5 e6 ⟨rfl,λ_=>?_⟩)
 simp only[qc,Di,Es,Dk,qd,Dt,Ea,Eb,Dp,Ei,Eh,Ed,Ew,Df,Et,Dl,Dn,Eo,Dy,Dw,Dh,Dq,Ee,Fg,Dc,Dx,Dj,Dz,Ej,Du,Eu,Ez,En,Ef,Fe,Fj,Fh,Ep,Em,Ey,Fb];refine⟨λh=>?_,λ⟨⟨h1,h2⟩,h3⟩=>?_⟩
 .unfold jA;rcases h with(h | h) | h
  .rw[show jT _ _=false from h];rfl
  .rw[show jT e3 _=false from h];simp
  .simp[h]
 .have h1':jT e2 (fs.length:Int)=true:=h1;have h2':jT e3 (fs.length:Int)=true:=h2;have h3':decide (e2≠e3)=true:=qW h3;simp only[jA,h1',h2',h3',zQ]
theorem KS4: aI Tryz.prog G0 K4:=
 aH (aC λ((cs,ns,os,fs,ls,ks),(e1,e2,e3,e4,e5,e6,e7),_)=>aIO cs ns os fs ls ks e1 e2 e3 e4 e5 e6 e7)<|aH (aC λ((cs,ns,os,fs,ls,ks),(e1,e2,e3,e4,e5,e6),_)=>aNX cs ns os fs ls ks e1 e2 e3 e4 e5 e6) KS3
theorem aBt{α β:Type}(f:α->β)(l:List α)(i:Nat)(d:α)(e:β)(hi:i<l.length): (l.map f).getD i e=f (l.getD i d):=by
 simp only[qA,qP,qB hi,zK,qQ]
theorem aFX{cs:List (Int×List Bool×List Int)}{ns:List ByteArray}{i:Int}(h0:0<=i)(h1:i<cs.length): oH (aU cs ns) i=ns.getD i.toNat ⟨#[]⟩:=by
 unfold oH aU;rw[aBt (λi=>ns.getD i ⟨#[]⟩) _ _ 0 _ (by rw[vK];omega)]
 show ns.getD ((List.range cs.length).getD i.toNat 0) _=_;rw[show(List.range cs.length).getD i.toNat 0=i.toNat by rw[qA,vX (by omega)];rfl]
theorem aOf{α:Type}{f:α->ByteArray}{l:List α}{i:Int}(d:α)(h0:0<=i)(h1:i<l.length): oH (l.map f) i=f (l.getD i.toNat d):=aBt _ _ _ _ _ (by omega)
theorem bFd(i:Int)(cs:LC)(ns os:LB)(fs:List Off)(ls:List Line)(ks:List Cla): aB Tryz.prog G0 186 [.dat I i,.ip N (cs,ns,os,fs,ls,ks)] [] ⟨idx i (Df cs),.dat S (oH (aU cs ns) i),[]⟩:=by
 refine aA (c:=mkc K4) KS4 bD hm (bBv i cs ns os fs ls ks ⟨rfl,λ⟨h0,h1⟩=>?_⟩)
 have h0:0<=i:=h0;have h1:i<(cs.length:Int):=h1;simp only[qc,Di,Es,Dk,qd,Dt,Ea,Eb,Dp,Ei,Eh,Ed,Ew,Df,Et,Dl,Dn,Eo,Dy,Dw,Dh,Dq,Ee,Fg,Dc,Dx,Dj,Dz,Ej,Du,Eu,Ez,En,Ef,Fe,Fj,Fh,Ep,Em,Ey,Fb,aFX h0 h1];refine⟨λh=>⟨h0,h⟩,λh=>?_⟩
 rw[qA,zD (by omega)];rfl
theorem bFc(i:Int)(cs:LC)(ns os:LB)(fs:List Off)(ls:List Line)(ks:List Cla): aB Tryz.prog G0 188 [.dat I i,.ip N (cs,ns,os,fs,ls,ks)] [] ⟨idx i (Df os),.dat S (oH os i),[]⟩:=by
 refine aA (c:=mkc K4) KS4 bD hm (bBu i cs ns os fs ls ks ⟨rfl,λ⟨h0,h1⟩=>?_⟩)
 simp only[qc,Di,Es,Dk,qd,Dt,Ea,Eb,Dp,Ei,Eh,Ed,Ew,Df,Et,Dl,Dn,Eo,Dy,Dw,Dh,Dq,Ee,Fg,Dc,Dx,Dj,Dz,Ej,Du,Eu,Ez,En,Ef,Fe,Fj,Fh,Ep,Em,Ey,Fb];exact⟨h0,h1,rfl⟩
theorem bFq(e1:ByteArray): aB Tryz.prog G0 190 [.agg [.dat .str e1]] [] ⟨True,.dat .bool true,[]⟩:=
 aA (c:=mkc K4) KS4 bD hm (bBI e1 ⟨rfl,λ_=>⟨rfl,trivial⟩⟩)
theorem bFb(i:Int)(cs:LC)(ns os:LB)(fs:List Off)(ls:List Line)(ks:List Cla): aB Tryz.prog G0 191 [.dat I i,.ip N (cs,ns,os,fs,ls,ks)] [] ⟨idx i (Df fs),.dat S (oH (aV fs) i),[]⟩:=by
 refine aA (c:=mkc K4) KS4 bD hm (bBt i cs ns os fs ls ks ⟨rfl,λ⟨h0,h1⟩=>?_⟩)
 simp only[qc,Di,Es,Dk,qd,Dt,Ea,Eb,Dp,Ei,Eh,Ed,Ew,Df,Et,Dl,Dn,Eo,Dy,Dw,Dh,Dq,Ee,Fg,Dc,Dx,Dj,Dz,Ej,Du,Eu,Ez,En,Ef,Fe,Fj,Fh,Ep,Em,Ey,Fb];exact⟨h0,h1,(aOf _ h0 h1).symm⟩
theorem bFp(cs:LC)(ns os:LB)(fs:List Off)(ls:List Line)(ks:List Cla)(e1:ByteArray)(e2 e3 e4 e5 e6:Int)(e7:List ByteArray): aB Tryz.prog G0 193 [.agg [.dat .str e1,.dat (.int .i64) e2,.dat (.int .i64) e3,.dat (.int .i64) e4,.dat (.int .i64) e5,.dat (.int .i64) e6,.dat (.sl .str) e7],.ip N (cs,ns,os,fs,ls,ks)] [] ⟨True,.dat .bool (iZ (cs,ns,os,fs,ls,ks) (e1,e2,e3,e4,e5,e6,e7)),[]⟩:=
 aA (c:=mkc K4) KS4 bD hm (bBH cs ns os fs ls ks e1 e2 e3 e4 e5 e6 e7 ⟨rfl,λ_=>by simp only[qc,Di,Es,Dk]⟩)
theorem bFa(i:Int)(cs:LC)(ns os:LB)(fs:List Off)(ls:List Line)(ks:List Cla): aB Tryz.prog G0 195 [.dat I i,.ip N (cs,ns,os,fs,ls,ks)] [] ⟨idx i (Df ls),.dat S (oH (aW ls) i),[]⟩:=by
 refine aA (c:=mkc K4) KS4 bD hm (bBs i cs ns os fs ls ks ⟨rfl,λ⟨h0,h1⟩=>?_⟩)
 simp only[qc,Di,Es,Dk,qd,Dt,Ea,Eb,Dp,Ei,Eh,Ed,Ew,Df,Et,Dl,Dn,Eo,Dy,Dw,Dh,Dq,Ee,Fg,Dc,Dx,Dj,Dz,Ej,Du,Eu,Ez,En,Ef,Fe,Fj,Fh,Ep,Em,Ey,Fb];exact⟨h0,h1,(aOf _ h0 h1).symm⟩
theorem bFo(cs:LC)(ns os:LB)(fs:List Off)(ls:List Line)(ks:List Cla)(e1:ByteArray)(e2 e3 e4 e5 e6:Int): aB Tryz.prog G0 197 [.agg [.dat .str e1,.dat (.int .i64) e2,.dat (.int .i64) e3,.dat (.int .i64) e4,.dat (.int .i64) e5,.dat (.int .i64) e6],.ip N (cs,ns,os,fs,ls,ks)] [] ⟨True,.dat .bool (jA (cs,ns,os,fs,ls,ks) (e1,e2,e3,e4,e5,e6)),[]⟩:=
 aA (c:=mkc K4) KS4 bD hm (bBG cs ns os fs ls ks e1 e2 e3 e4 e5 e6 ⟨rfl,λ_=>by simp only[qc,Di,Es,Dk]⟩)
theorem bE9(i:Int)(cs:LC)(ns os:LB)(fs:List Off)(ls:List Line)(ks:List Cla): aB Tryz.prog G0 199 [.dat I i,.ip N (cs,ns,os,fs,ls,ks)] [] ⟨idx i (Df ks),.dat S (oH (aX ks) i),[]⟩:=by
 refine aA (c:=mkc K4) KS4 bD hm (bBr i cs ns os fs ls ks ⟨rfl,λ⟨h0,h1⟩=>?_⟩)
 simp only[qc,Di,Es,Dk,qd,Dt,Ea,Eb,Dp,Ei,Eh,Ed,Ew,Df,Et,Dl,Dn,Eo,Dy,Dw,Dh,Dq,Ee,Fg,Dc,Dx,Dj,Dz,Ej,Du,Eu,Ez,En,Ef,Fe,Fj,Fh,Ep,Em,Ey,Fb];exact⟨h0,h1,(aOf _ h0 h1).symm⟩
theorem bFm(e1:ByteArray)(e2 e3:Int): aB Tryz.prog G0 201 [.agg [.dat .str e1,.dat (.int .i64) e2,.dat (.int .i64) e3]] [] ⟨True,.dat .bool (rF (e1,e2,e3)),[]⟩:=
 aA (c:=mkc K4) KS4 bD hm (bBF e1 e2 e3 ⟨rfl,λ_=>by simp only[qc,Di,Es,Dk,rF]⟩)
theorem KS5: aI Tryz.prog G0 K5:=
 aH (aC λ(i,(cs,ns,os,fs,ls,ks),_)=>bFd i cs ns os fs ls ks)<|aH (aC λ(i,(cs,ns,os,fs,ls,ks),_)=>bFc i cs ns os fs ls ks)<|aH (aC λ(e1,_)=>bFq e1)<|aH (aC λ(i,(cs,ns,os,fs,ls,ks),_)=>bFb i cs ns os fs ls ks) <|
 aH (aC λ((e1,e2,e3,e4,e5,e6,e7),(cs,ns,os,fs,ls,ks),_)=>bFp cs ns os fs ls ks e1 e2 e3 e4 e5 e6 e7)<|aH (aC λ(i,(cs,ns,os,fs,ls,ks),_)=>bFa i cs ns os fs ls ks)<|aH (aC λ((e1,e2,e3,e4,e5,e6),(cs,ns,os,fs,ls,ks),_)=>bFo cs ns os fs ls ks e1 e2 e3 e4 e5 e6) <|
 aH (aC λ(i,(cs,ns,os,fs,ls,ks),_)=>bE9 i cs ns os fs ls ks)<|aH (aC λ((e1,e2,e3),_)=>bFm e1 e2 e3) KS4
theorem aAO{l:List ByteArray}{i:Int}(h:0<=i): aGd l i 0:=⟨qL _,h,by simp⟩
theorem aAP{l:List ByteArray}{i x:Int}(h:aGd l i x)(hx:x<i)(hi:i<l.length)(hp:(oH l x).toList≠(oH l i).toList): aGd l i (x+1):=by
 obtain⟨h0,h1,h2⟩:=h;refine⟨by omega,by omega,?_⟩
 rw[show(x+1).toNat=x.toNat+1 by omega]
 exact aHk (d:=⟨#[]⟩) h2 (by omega) (by simpa[oH]using hp)
theorem aPG{l:List ByteArray}{i x:Int}(h:aGd l i x)(hx:x<i)(hi:i<l.length)(hp:(oH l x).toList=(oH l i).toList): 4=rule2 l i:=by
 unfold rule2;have hx0:=h.1;rw[if_pos];have hlt:x.toNat<(l.take i.toNat).length:=by rw[qI];omega
 refine aXr (d:=⟨#[]⟩) (k:=x.toNat) hlt ?_;have:(l.take i.toNat).getD x.toNat ⟨#[]⟩=oH l x:=by
  unfold oH;simp only[qA];rw[vM,if_pos (by omega)]
 rw[this];simpa using hp
theorem aCl{l:List ByteArray}{i x:Int}(h:aGd l i x)(hx:¬x<i): 0=rule2 l i:=by
 obtain⟨h0,h1,h2⟩:=h;have:x=i:=by omega
 subst this;unfold rule2;rw[h2];rfl
theorem aCw{α:Type}{g:α->Bool}{l:List α}{i:Int}(d:α)(h0:0<=i)(h1:i<l.length): fF (l.map g) i=if g (l.getD i.toNat d)then 0 else 1:=by
 unfold fF;rw[aBt g l _ d _ (by omega)]
theorem nC(cs:List (Int×List Bool×List Int))(ns:List ByteArray): (aU cs ns).length=cs.length:=by simp[aU]
theorem map_length{α β:Type}(f:α->β)(l:List α): (l.map f).length=l.length:=vF f
theorem bE6(i:Int)(cs:LC)(ns os:LB)(fs:List Off)(ls:List Line)(ks:List Cla): aB Tryz.prog G0 235 [.dat I i,.ipv (.fn 186 [.ip N (cs,ns,os,fs,ls,ks)])] [] ⟨idx i (Df cs),.dat I (dV (aU cs ns) i),[]⟩:=by
 refine aA (c:=mkc K5) KS5 bD hm (bBo i cs ns os fs ls ks ⟨rfl,λhp=>?_⟩)
 simp only[qc,Di,Es,Dk,qd,Dt,Ea,Eb,Dp,Ei,Eh,Ed,Ew,Df,Et,Dl,Dn,Eo,Dy,Dw,Dh,Dq,Ee,Fg,Dc,Dx,Dj,Dz,Ej,Du,Eu,Ez,En,Ef,Fe,Fj,Fh,Ep,Em,Ey,Fb];exact⟨hp,λh=>by simp[dV,h],λh=>by simp[dV,h]⟩
theorem bE1(i:Int)(cs:LC)(ns os:LB)(fs:List Off)(ls:List Line)(ks:List Cla): aB Tryz.prog G0 237 [.dat I i,.ipv (.fn 186 [.ip N (cs,ns,os,fs,ls,ks)])] [] ⟨aDV i (Df cs),.dat I (rule2 (aU cs ns) i),[]⟩:=by
 refine aA (c:=mkc K5) KS5 bD hm (bBj i cs ns os fs ls ks ⟨rfl,λhp=>?_⟩)
 have h0:0<=i:=hp.1;have h1:i<(cs.length:Int):=hp.2.1;have h2:i<=1000:=hp.2.2;have hl:((aU cs ns).length:Int)=cs.length:=zZ _ (nC cs ns);simp only[qc,Di,Es,Dk,qd,Dt,Ea,Eb,Dp,Ei,Eh,Ed,Ew,Df,Et,Dl,Dn,Eo,Dy,Dw,Dh,Dq,Ee,Fg,Dc,Dx,Dj,Dz,Ej,Du,Eu,Ez,En,Ef,Fe,Fj,Fh,Ep,Em,Ey,Fb]
 exact⟨aAO h0,λx hx=>⟨λhlt=>⟨⟨hx.1,by omega⟩,⟨h0,h1⟩,λhe=>aPG hx hlt (by omega) he,λhne=>⟨⟨by have:=hx.1;omega,by omega⟩,x+1,aAP hx hlt (by omega) hne,rfl,by have:=hx.1;omega⟩⟩,λhge=>aCl hx hge⟩⟩
theorem bEW(i:Int)(cs:LC)(ns os:LB)(fs:List Off)(ls:List Line)(ks:List Cla): aB Tryz.prog G0 238 [.dat I i,.ipv (.fn 161 []),.ip (.sl C) cs] [] ⟨idx i (Df cs),.dat I (fF (dH cs) i),[]⟩:=by
 refine aA (c:=mkc K5) KS5 bD hm (bBe i cs ns os fs ls ks ⟨rfl,λhp=>?_⟩)
 have h0:0<=i:=hp.1;have h1:i<(cs.length:Int):=hp.2;simp only[qc,Di,Es,Dk,qd,Dt,Ea,Eb,Dp,Ei,Eh,Ed,Ew,Df,Et,Dl,Dn,Eo,Dy,Dw,Dh,Dq,Ee,Fg,Dc,Dx,Dj,Dz,Ej,Du,Eu,Ez,En,Ef,Fe,Fj,Fh,Ep,Em,Ey,Fb];rw[show fF (dH cs) i=_ from aCw _ h0 h1]
 exact⟨h0,h1,λh=>by rw[if_neg (by intro g;rw[show _=false from h]at g;cases g)],λh=>by rw[if_pos h]⟩
theorem bE5(i:Int)(cs:LC)(ns os:LB)(fs:List Off)(ls:List Line)(ks:List Cla): aB Tryz.prog G0 239 [.dat I i,.ipv (.fn 188 [.ip N (cs,ns,os,fs,ls,ks)])] [] ⟨idx i (Df os),.dat I (dV (os) i),[]⟩:=by
 refine aA (c:=mkc K5) KS5 bD hm (bBn i cs ns os fs ls ks ⟨rfl,λhp=>?_⟩)
 simp only[qc,Di,Es,Dk,qd,Dt,Ea,Eb,Dp,Ei,Eh,Ed,Ew,Df,Et,Dl,Dn,Eo,Dy,Dw,Dh,Dq,Ee,Fg,Dc,Dx,Dj,Dz,Ej,Du,Eu,Ez,En,Ef,Fe,Fj,Fh,Ep,Em,Ey,Fb];exact⟨hp,λh=>by simp[dV,h],λh=>by simp[dV,h]⟩
theorem bE0(i:Int)(cs:LC)(ns os:LB)(fs:List Off)(ls:List Line)(ks:List Cla): aB Tryz.prog G0 240 [.dat I i,.ipv (.fn 188 [.ip N (cs,ns,os,fs,ls,ks)])] [] ⟨aDV i (Df os),.dat I (rule2 (os) i),[]⟩:=by
 refine aA (c:=mkc K5) KS5 bD hm (bBi i cs ns os fs ls ks ⟨rfl,λhp=>?_⟩)
 have h0:0<=i:=hp.1;have h1:i<(os.length:Int):=hp.2.1;have h2:i<=1000:=hp.2.2;have hl:((os).length:Int)=os.length:=zZ _ (rfl);simp only[qc,Di,Es,Dk,qd,Dt,Ea,Eb,Dp,Ei,Eh,Ed,Ew,Df,Et,Dl,Dn,Eo,Dy,Dw,Dh,Dq,Ee,Fg,Dc,Dx,Dj,Dz,Ej,Du,Eu,Ez,En,Ef,Fe,Fj,Fh,Ep,Em,Ey,Fb]
 exact⟨aAO h0,λx hx=>⟨λhlt=>⟨⟨hx.1,by omega⟩,⟨h0,h1⟩,λhe=>aPG hx hlt (by omega) he,λhne=>⟨⟨by have:=hx.1;omega,by omega⟩,x+1,aAP hx hlt (by omega) hne,rfl,by have:=hx.1;omega⟩⟩,λhge=>aCl hx hge⟩⟩
theorem bEV(i:Int)(cs:LC)(ns os:LB)(fs:List Off)(ls:List Line)(ks:List Cla): aB Tryz.prog G0 241 [.dat I i,.ipv (.fn 190 []),.ip (.sl S) os] [] ⟨idx i (Df os),.dat I (fF (fK os) i),[]⟩:=by
 refine aA (c:=mkc K5) KS5 bD hm (bBd i cs ns os fs ls ks ⟨rfl,λhp=>?_⟩)
 have h0:0<=i:=hp.1;have h1:i<(os.length:Int):=hp.2;simp only[qc,Di,Es,Dk,qd,Dt,Ea,Eb,Dp,Ei,Eh,Ed,Ew,Df,Et,Dl,Dn,Eo,Dy,Dw,Dh,Dq,Ee,Fg,Dc,Dx,Dj,Dz,Ej,Du,Eu,Ez,En,Ef,Fe,Fj,Fh,Ep,Em,Ey,Fb];rw[show fF (fK os) i=_ from aCw ⟨#[]⟩ h0 h1]
 exact⟨h0,h1,(λh=>by cases h),rfl⟩
theorem bE4(i:Int)(cs:LC)(ns os:LB)(fs:List Off)(ls:List Line)(ks:List Cla): aB Tryz.prog G0 242 [.dat I i,.ipv (.fn 191 [.ip N (cs,ns,os,fs,ls,ks)])] [] ⟨idx i (Df fs),.dat I (dV (aV fs) i),[]⟩:=by
 refine aA (c:=mkc K5) KS5 bD hm (bBm i cs ns os fs ls ks ⟨rfl,λhp=>?_⟩)
 simp only[qc,Di,Es,Dk,qd,Dt,Ea,Eb,Dp,Ei,Eh,Ed,Ew,Df,Et,Dl,Dn,Eo,Dy,Dw,Dh,Dq,Ee,Fg,Dc,Dx,Dj,Dz,Ej,Du,Eu,Ez,En,Ef,Fe,Fj,Fh,Ep,Em,Ey,Fb];exact⟨hp,λh=>by simp[dV,h],λh=>by simp[dV,h]⟩
theorem bEZ(i:Int)(cs:LC)(ns os:LB)(fs:List Off)(ls:List Line)(ks:List Cla): aB Tryz.prog G0 243 [.dat I i,.ipv (.fn 191 [.ip N (cs,ns,os,fs,ls,ks)])] [] ⟨aDV i (Df fs),.dat I (rule2 (aV fs) i),[]⟩:=by
 refine aA (c:=mkc K5) KS5 bD hm (bBh i cs ns os fs ls ks ⟨rfl,λhp=>?_⟩)
 have h0:0<=i:=hp.1;have h1:i<(fs.length:Int):=hp.2.1;have h2:i<=1000:=hp.2.2;have hl:((aV fs).length:Int)=fs.length:=zZ _ (map_length _ fs);simp only[qc,Di,Es,Dk,qd,Dt,Ea,Eb,Dp,Ei,Eh,Ed,Ew,Df,Et,Dl,Dn,Eo,Dy,Dw,Dh,Dq,Ee,Fg,Dc,Dx,Dj,Dz,Ej,Du,Eu,Ez,En,Ef,Fe,Fj,Fh,Ep,Em,Ey,Fb]
 exact⟨aAO h0,λx hx=>⟨λhlt=>⟨⟨hx.1,by omega⟩,⟨h0,h1⟩,λhe=>aPG hx hlt (by omega) he,λhne=>⟨⟨by have:=hx.1;omega,by omega⟩,x+1,aAP hx hlt (by omega) hne,rfl,by have:=hx.1;omega⟩⟩,λhge=>aCl hx hge⟩⟩
theorem bEU(i:Int)(cs:LC)(ns os:LB)(fs:List Off)(ls:List Line)(ks:List Cla): aB Tryz.prog G0 244 [.dat I i,.ipv (.fn 193 [.ip N (cs,ns,os,fs,ls,ks)]),.ip (.sl Of) fs] [] ⟨idx i (Df fs),.dat I (fF (iQ (cs,ns,os,fs,ls,ks)) i),[]⟩:=by
 refine aA (c:=mkc K5) KS5 bD hm (bBc i cs ns os fs ls ks ⟨rfl,λhp=>?_⟩)
 have h0:0<=i:=hp.1;have h1:i<(fs.length:Int):=hp.2;simp only[qc,Di,Es,Dk,qd,Dt,Ea,Eb,Dp,Ei,Eh,Ed,Ew,Df,Et,Dl,Dn,Eo,Dy,Dw,Dh,Dq,Ee,Fg,Dc,Dx,Dj,Dz,Ej,Du,Eu,Ez,En,Ef,Fe,Fj,Fh,Ep,Em,Ey,Fb];rw[show fF (iQ (cs,ns,os,fs,ls,ks)) i=_ from aCw _ h0 h1]
 exact⟨h0,h1,λh=>by rw[if_neg (by intro g;rw[show _=false from h]at g;cases g)],λh=>by rw[if_pos h]⟩
theorem bE3(i:Int)(cs:LC)(ns os:LB)(fs:List Off)(ls:List Line)(ks:List Cla): aB Tryz.prog G0 249 [.dat I i,.ipv (.fn 195 [.ip N (cs,ns,os,fs,ls,ks)])] [] ⟨idx i (Df ls),.dat I (dV (aW ls) i),[]⟩:=by
 refine aA (c:=mkc K5) KS5 bD hm (bBl i cs ns os fs ls ks ⟨rfl,λhp=>?_⟩)
 simp only[qc,Di,Es,Dk,qd,Dt,Ea,Eb,Dp,Ei,Eh,Ed,Ew,Df,Et,Dl,Dn,Eo,Dy,Dw,Dh,Dq,Ee,Fg,Dc,Dx,Dj,Dz,Ej,Du,Eu,Ez,En,Ef,Fe,Fj,Fh,Ep,Em,Ey,Fb];exact⟨hp,λh=>by simp[dV,h],λh=>by simp[dV,h]⟩
theorem bEY(i:Int)(cs:LC)(ns os:LB)(fs:List Off)(ls:List Line)(ks:List Cla): aB Tryz.prog G0 250 [.dat I i,.ipv (.fn 195 [.ip N (cs,ns,os,fs,ls,ks)])] [] ⟨aDV i (Df ls),.dat I (rule2 (aW ls) i),[]⟩:=by
 refine aA (c:=mkc K5) KS5 bD hm (bBg i cs ns os fs ls ks ⟨rfl,λhp=>?_⟩)
 have h0:0<=i:=hp.1;have h1:i<(ls.length:Int):=hp.2.1;have h2:i<=1000:=hp.2.2;have hl:((aW ls).length:Int)=ls.length:=zZ _ (map_length _ ls);simp only[qc,Di,Es,Dk,qd,Dt,Ea,Eb,Dp,Ei,Eh,Ed,Ew,Df,Et,Dl,Dn,Eo,Dy,Dw,Dh,Dq,Ee,Fg,Dc,Dx,Dj,Dz,Ej,Du,Eu,Ez,En,Ef,Fe,Fj,Fh,Ep,Em,Ey,Fb]
 exact⟨aAO h0,λx hx=>⟨λhlt=>⟨⟨hx.1,by omega⟩,⟨h0,h1⟩,λhe=>aPG hx hlt (by omega) he,λhne=>⟨⟨by have:=hx.1;omega,by omega⟩,x+1,aAP hx hlt (by omega) hne,rfl,by have:=hx.1;omega⟩⟩,λhge=>aCl hx hge⟩⟩
theorem bET(i:Int)(cs:LC)(ns os:LB)(fs:List Off)(ls:List Line)(ks:List Cla): aB Tryz.prog G0 251 [.dat I i,.ipv (.fn 197 [.ip N (cs,ns,os,fs,ls,ks)]),.ip (.sl Ln) ls] [] ⟨idx i (Df ls),.dat I (fF (iH (cs,ns,os,fs,ls,ks)) i),[]⟩:=by
 refine aA (c:=mkc K5) KS5 bD hm (bBb i cs ns os fs ls ks ⟨rfl,λhp=>?_⟩)
 have h0:0<=i:=hp.1;have h1:i<(ls.length:Int):=hp.2;simp only[qc,Di,Es,Dk,qd,Dt,Ea,Eb,Dp,Ei,Eh,Ed,Ew,Df,Et,Dl,Dn,Eo,Dy,Dw,Dh,Dq,Ee,Fg,Dc,Dx,Dj,Dz,Ej,Du,Eu,Ez,En,Ef,Fe,Fj,Fh,Ep,Em,Ey,Fb];rw[show fF (iH (cs,ns,os,fs,ls,ks)) i=_ from aCw _ h0 h1]
 exact⟨h0,h1,λh=>by rw[if_neg (by intro g;rw[show _=false from h]at g;cases g)],λh=>by rw[if_pos h]⟩
theorem bE2(i:Int)(cs:LC)(ns os:LB)(fs:List Off)(ls:List Line)(ks:List Cla): aB Tryz.prog G0 253 [.dat I i,.ipv (.fn 199 [.ip N (cs,ns,os,fs,ls,ks)])] [] ⟨idx i (Df ks),.dat I (dV (aX ks) i),[]⟩:=by
 refine aA (c:=mkc K5) KS5 bD hm (bBk i cs ns os fs ls ks ⟨rfl,λhp=>?_⟩)
 simp only[qc,Di,Es,Dk,qd,Dt,Ea,Eb,Dp,Ei,Eh,Ed,Ew,Df,Et,Dl,Dn,Eo,Dy,Dw,Dh,Dq,Ee,Fg,Dc,Dx,Dj,Dz,Ej,Du,Eu,Ez,En,Ef,Fe,Fj,Fh,Ep,Em,Ey,Fb];exact⟨hp,λh=>by simp[dV,h],λh=>by simp[dV,h]⟩
theorem bEX(i:Int)(cs:LC)(ns os:LB)(fs:List Off)(ls:List Line)(ks:List Cla): aB Tryz.prog G0 254 [.dat I i,.ipv (.fn 199 [.ip N (cs,ns,os,fs,ls,ks)])] [] ⟨aDV i (Df ks),.dat I (rule2 (aX ks) i),[]⟩:=by
 refine aA (c:=mkc K5) KS5 bD hm (bBf i cs ns os fs ls ks ⟨rfl,λhp=>?_⟩)
 have h0:0<=i:=hp.1;have h1:i<(ks.length:Int):=hp.2.1;have h2:i<=1000:=hp.2.2;have hl:((aX ks).length:Int)=ks.length:=zZ _ (map_length _ ks);simp only[qc,Di,Es,Dk,qd,Dt,Ea,Eb,Dp,Ei,Eh,Ed,Ew,Df,Et,Dl,Dn,Eo,Dy,Dw,Dh,Dq,Ee,Fg,Dc,Dx,Dj,Dz,Ej,Du,Eu,Ez,En,Ef,Fe,Fj,Fh,Ep,Em,Ey,Fb]
 exact⟨aAO h0,λx hx=>⟨λhlt=>⟨⟨hx.1,by omega⟩,⟨h0,h1⟩,λhe=>aPG hx hlt (by omega) he,λhne=>⟨⟨by have:=hx.1;omega,by omega⟩,x+1,aAP hx hlt (by omega) hne,rfl,by have:=hx.1;omega⟩⟩,λhge=>aCl hx hge⟩⟩
theorem bES(i:Int)(cs:LC)(ns os:LB)(fs:List Off)(ls:List Line)(ks:List Cla): aB Tryz.prog G0 255 [.dat I i,.ipv (.fn 201 []),.ip (.sl Kl) ks] [] ⟨idx i (Df ks),.dat I (fF (dO ks) i),[]⟩:=by
 refine aA (c:=mkc K5) KS5 bD hm (bBa i cs ns os fs ls ks ⟨rfl,λhp=>?_⟩)
 have h0:0<=i:=hp.1;have h1:i<(ks.length:Int):=hp.2;simp only[qc,Di,Es,Dk,qd,Dt,Ea,Eb,Dp,Ei,Eh,Ed,Ew,Df,Et,Dl,Dn,Eo,Dy,Dw,Dh,Dq,Ee,Fg,Dc,Dx,Dj,Dz,Ej,Du,Eu,Ez,En,Ef,Fe,Fj,Fh,Ep,Em,Ey,Fb];rw[show fF (dO ks) i=_ from aCw _ h0 h1]
 exact⟨h0,h1,λh=>by rw[if_neg (by intro g;rw[show _=false from h]at g;cases g)],λh=>by rw[if_pos h]⟩
theorem aDk(kind:Int)(l:List ByteArray)(g:List Bool)(k:Int): (bQ kind l g k).length<=k.toNat:=by
 unfold bQ;exact wC (qDb _ _) (by rw[vK];exact qK _)
theorem aG2{kind:Int}{l:List ByteArray}{g:List Bool}{k:Int}(h0:0<=k)(he:aM9 l g k≠0): bQ kind l g (k+1)=bQ kind l g k++[(kind,k,aM9 l g k)]:=by
 unfold bQ;rw[show(k+1).toNat=k.toNat+1 by omega,zT,qAq]
 simp[vC h0,he]
theorem aJQ{kind:Int}{l:List ByteArray}{g:List Bool}{k:Int}(h0:0<=k)(he:aM9 l g k=0): bQ kind l g (k+1)=bQ kind l g k:=by
 unfold bQ;rw[show(k+1).toNat=k.toNat+1 by omega,zT,qAq]
 simp[vC h0,he]
theorem aUV{l:List ByteArray}{g:List Bool}{i j:Int}(h:fU l g i j)(hj:j<3)(he:[dV l i,rule2 l i,fF g i].getD j.toNat 0≠0): [dV l i,rule2 l i,fF g i].getD j.toNat 0=aM9 l g i:=by
 obtain⟨h0,_,h1,h2,_⟩:=h;have hc:j=0\/j=1\/j=2:=by omega
 unfold aM9;rcases hc with rfl | rfl | rfl
 .have he:dV l i≠0:=he;rw[if_pos he];rfl
 .have he:rule2 l i≠0:=he;rw[if_neg (by simp[h1]),if_pos he];rfl
 .rw[if_neg (by simp[h1]),if_neg (by simp[h2])];rfl
theorem aN2{l:List ByteArray}{g:List Bool}{i j:Int}(h:fU l g i j)(hj:j<3)(he:[dV l i,rule2 l i,fF g i].getD j.toNat 0=0): fU l g i (j+1):=by
 obtain⟨h0,_,h1,h2,h3⟩:=h;have hc:j=0\/j=1\/j=2:=by omega
 rcases hc with rfl | rfl | rfl
 .exact⟨by omega,by omega,λ_=>he,λh=>by omega,λh=>by omega⟩
 .exact⟨by omega,by omega,λ_=>h1 (by omega),λ_=>he,λh=>by omega⟩
 .exact⟨by omega,by omega,λ_=>h1 (by omega),λ_=>h2 (by omega),λ_=>he⟩
theorem aQz{l:List ByteArray}{g:List Bool}{i j:Int}(h:fU l g i j)(hj:¬j<3): aM9 l g i=0:=by
 obtain⟨h0,_,h1,h2,h3⟩:=h;unfold aM9;rw[if_neg (by simp[h1 (by omega)]),if_neg (by simp[h2 (by omega)]),h3 (by omega)]
theorem aKi{kind lim:Int}{l:List ByteArray}{g:List Bool}{m:Nat}(hm:l.length=m)(h1:0<=lim)(h2:lim<=100):
  (∃x,iR x (l.length:Int) lim/\(bQ kind l g x).length=0/\bQ kind l g x=[]/\0=x/\bQ kind l g x=[])/\
  ∀(x:Int),iR x (l.length:Int) lim->
    (x<min (m:Int) lim->
      fU l g x 0/\∀(z:Int),fU l g x z->
         (z<3->0<=z/\z<(3:Nat)/\(z.toNat=0->idx x m)/\(z.toNat=1->aDV x m)/\(z.toNat=2->idx x m)/\
                ([dV l x,rule2 l x,fF g x].getD z.toNat 0≠0->
                  ((bQ kind l g x).length+[(kind,x,[dV l x,rule2 l x,fF g x].getD z.toNat 0)].length)*24<=140737488355328/\
                   (bQ kind l g x).length+[(kind,x,[dV l x,rule2 l x,fF g x].getD z.toNat 0)].length<=9223372036854775807/\
                    inR IntKind.i64 (x+1)/\
                     ∃y,iR y (l.length:Int) lim/\
                       ((bQ kind l g x).length+[(kind,x,[dV l x,rule2 l x,fF g x].getD z.toNat 0)].length=(bQ kind l g y).length/\
                         x+1=y/\bQ kind l g x++[(kind,x,[dV l x,rule2 l x,fF g x].getD z.toNat 0)]=bQ kind l g y)/\
                        (lim-y).toNat<(lim-x).toNat)/\
                 ([dV l x,rule2 l x,fF g x].getD z.toNat 0=0->inR IntKind.i64 (z+1)/\∃y,fU l g x y/\z+1=y/\(3-y).toNat<(3-z).toNat))/\
          (¬z<3->inR IntKind.i64 (x+1)/\∃y,iR y (l.length:Int) lim/\((bQ kind l g x).length=(bQ kind l g y).length/\x+1=y/\bQ kind l g x=bQ kind l g y)/\(lim-y).toNat<(lim-x).toNat))/\
     (¬x<min (m:Int) lim->
      ((m:Int)>lim->((bQ kind l g x).length+[(kind,lim,(2:Int))].length)*24<=140737488355328/\
         (bQ kind l g x).length+[(kind,lim,(2:Int))].length<=9223372036854775807/\
          (bQ kind l g x++[(kind,lim,2)]).length=(bQ kind l g x).length+[(kind,lim,(2:Int))].length/\
           bQ kind l g x++[(kind,lim,2)]=dS kind lim l g)/\
       (¬(m:Int)>lim->bQ kind l g x=dS kind lim l g)):=by
 subst hm;refine⟨⟨0,⟨qL _,qR _,h1⟩,rfl,rfl,rfl,rfl⟩,λx ⟨x0,x1,x2⟩=>⟨λhlt=>⟨⟨qL _,by decide,λh=>by omega,λh=>by omega,λh=>by omega⟩,λz hz=>⟨λhz3=>?_,λhz3=>?_⟩⟩,λhge=>?_⟩⟩
 .have hk:=aDk kind l g x;refine⟨hz.1,by omega,λ_=>⟨x0,by omega⟩,λ_=>⟨x0,by omega,by omega⟩,λ_=>⟨x0,by omega⟩,λhe=>?_,λhe=>⟨⟨by have:=hz.1;omega,by omega⟩,z+1,aN2 hz hz3 he,rfl,by have:=hz.1;omega⟩⟩
  have e:=aUV hz hz3 he;rw[e]at he ⊢;refine⟨by simp only[vV];omega,by simp only[vV];omega,⟨by omega,by omega⟩,x+1,⟨by omega,by omega,by omega⟩,⟨?_,rfl,(aG2 x0 he).symm⟩,by omega⟩
  rw[aG2 x0 he,qF]
 .have e:=aQz hz hz3;exact⟨⟨by omega,by omega⟩,x+1,⟨by omega,by omega,by omega⟩,⟨by rw[aJQ x0 e],rfl,(aJQ x0 e).symm⟩,by omega⟩
 .have hk:=aDk kind l g x;have ex:x=min (l.length:Int) lim:=by omega
  refine⟨λh=>⟨by simp only[vV];omega,by simp only[vV];omega,qF,?_⟩,λh=>?_⟩
  .unfold dS aOe;rw[if_pos (by omega),<- ex]
  .unfold dS aOe;rw[if_neg (by omega),<- ex,wE]
theorem KS6: aI Tryz.prog G0 K6:=
 aH (aC λ(i,(cs,ns,os,fs,ls,ks),_)=>bE6 i cs ns os fs ls ks)<|aH (aC λ(i,(cs,ns,os,fs,ls,ks),_)=>bE1 i cs ns os fs ls ks)<|aH (aC λ(i,_,cs,_)=>bEW i cs [] [] [] [] []) <|
 aH (aC λ(i,(cs,ns,os,fs,ls,ks),_)=>bE5 i cs ns os fs ls ks)<|aH (aC λ(i,(cs,ns,os,fs,ls,ks),_)=>bE0 i cs ns os fs ls ks)<|aH (aC λ(i,_,os,_)=>bEV i [] [] os [] [] []) <|
 aH (aC λ(i,(cs,ns,os,fs,ls,ks),_)=>bE4 i cs ns os fs ls ks)<|aH (aC λ(i,(cs,ns,os,fs,ls,ks),_)=>bEZ i cs ns os fs ls ks)<|aH (aC λ(i,(cs,ns,os,fs,ls,ks),xs,_)=>aB.of_pre λ(h:idx i (Df fs)/\xs=fs)=>by obtain⟨h,rfl⟩:=h;exact(bEU i cs ns os xs ls ks).weaken λ_=>h) <|
 aH (aC λ(i,(cs,ns,os,fs,ls,ks),_)=>bE3 i cs ns os fs ls ks)<|aH (aC λ(i,(cs,ns,os,fs,ls,ks),_)=>bEY i cs ns os fs ls ks)<|aH (aC λ(i,(cs,ns,os,fs,ls,ks),xs,_)=>aB.of_pre λ(h:idx i (Df ls)/\xs=ls)=>by obtain⟨h,rfl⟩:=h;exact(bET i cs ns os fs xs ks).weaken λ_=>h) <|
 aH (aC λ(i,(cs,ns,os,fs,ls,ks),_)=>bE2 i cs ns os fs ls ks)<|aH (aC λ(i,(cs,ns,os,fs,ls,ks),_)=>bEX i cs ns os fs ls ks)<|aH (aC λ(i,_,ks,_)=>bES i [] [] [] [] [] ks)<|KS5
theorem bFw(cs:LC)(ns os:LB)(fs:List Off)(ls:List Line)(ks:List Cla): aB Tryz.prog G0 187 [.dat I 1,.dat I 6,.dat (.sl C) cs,.fn 186 [.ip N (cs,ns,os,fs,ls,ks)],.fn 161 []] [] ⟨True,.dat (.sl Fa) (dS 1 6 (aU cs ns) (dH cs)),[]⟩:=by
 refine aA (c:=mkc K6) KS6 bD hm (bBO cs ns os fs ls ks ⟨rfl,λ_=>?_⟩)
 have hm:(aU cs ns).length=cs.length:=nC cs ns;simp only[qc,Di,Es,Dk,qd,Dt,Ea,Eb,Dp,Ei,Eh,Ed,Ew,Df,Et,Dl,Dn,Eo,Dy,Dw,Dh,Dq,Ee,Fg,Dc,Dx,Dj,Dz,Ej,Du,Eu,Ez,En,Ef,Fe,Fj,Fh,Ep,Em,Ey,Fb];exact aKi hm (by decide) (by decide)
theorem bFv(cs:LC)(ns os:LB)(fs:List Off)(ls:List Line)(ks:List Cla): aB Tryz.prog G0 189 [.dat I 2,.dat I 6,.dat (.sl S) os,.fn 188 [.ip N (cs,ns,os,fs,ls,ks)],.fn 190 []] [] ⟨True,.dat (.sl Fa) (dS 2 6 (os) (fK os)),[]⟩:=by
 refine aA (c:=mkc K6) KS6 bD hm (bBN cs ns os fs ls ks ⟨rfl,λ_=>?_⟩)
 have hm:(os).length=os.length:=rfl;simp only[qc,Di,Es,Dk,qd,Dt,Ea,Eb,Dp,Ei,Eh,Ed,Ew,Df,Et,Dl,Dn,Eo,Dy,Dw,Dh,Dq,Ee,Fg,Dc,Dx,Dj,Dz,Ej,Du,Eu,Ez,En,Ef,Fe,Fj,Fh,Ep,Em,Ey,Fb];exact aKi hm (by decide) (by decide)
theorem bFu(cs:LC)(ns os:LB)(fs:List Off)(ls:List Line)(ks:List Cla): aB Tryz.prog G0 192 [.dat I 3,.dat I 12,.dat (.sl Of) fs,.fn 191 [.ip N (cs,ns,os,fs,ls,ks)],.fn 193 [.ip N (cs,ns,os,fs,ls,ks)]] [] ⟨True,.dat (.sl Fa) (dS 3 12 (aV fs) (iQ (cs,ns,os,fs,ls,ks))),[]⟩:=by
 refine aA (c:=mkc K6) KS6 bD hm (bBM cs ns os fs ls ks ⟨rfl,λ_=>?_⟩)
 have hm:(aV fs).length=fs.length:=map_length _ fs;simp only[qc,Di,Es,Dk,qd,Dt,Ea,Eb,Dp,Ei,Eh,Ed,Ew,Df,Et,Dl,Dn,Eo,Dy,Dw,Dh,Dq,Ee,Fg,Dc,Dx,Dj,Dz,Ej,Du,Eu,Ez,En,Ef,Fe,Fj,Fh,Ep,Em,Ey,Fb];exact aKi hm (by decide) (by decide)
theorem bFt(cs:LC)(ns os:LB)(fs:List Off)(ls:List Line)(ks:List Cla): aB Tryz.prog G0 196 [.dat I 4,.dat I 40,.dat (.sl Ln) ls,.fn 195 [.ip N (cs,ns,os,fs,ls,ks)],.fn 197 [.ip N (cs,ns,os,fs,ls,ks)]] [] ⟨True,.dat (.sl Fa) (dS 4 40 (aW ls) (iH (cs,ns,os,fs,ls,ks))),[]⟩:=by
 refine aA (c:=mkc K6) KS6 bD hm (bBL cs ns os fs ls ks ⟨rfl,λ_=>?_⟩)
 have hm:(aW ls).length=ls.length:=map_length _ ls;simp only[qc,Di,Es,Dk,qd,Dt,Ea,Eb,Dp,Ei,Eh,Ed,Ew,Df,Et,Dl,Dn,Eo,Dy,Dw,Dh,Dq,Ee,Fg,Dc,Dx,Dj,Dz,Ej,Du,Eu,Ez,En,Ef,Fe,Fj,Fh,Ep,Em,Ey,Fb];exact aKi hm (by decide) (by decide)
theorem bFs(cs:LC)(ns os:LB)(fs:List Off)(ls:List Line)(ks:List Cla): aB Tryz.prog G0 200 [.dat I 5,.dat I 4,.dat (.sl Kl) ks,.fn 199 [.ip N (cs,ns,os,fs,ls,ks)],.fn 201 []] [] ⟨True,.dat (.sl Fa) (dS 5 4 (aX ks) (dO ks)),[]⟩:=by
 refine aA (c:=mkc K6) KS6 bD hm (bBK cs ns os fs ls ks ⟨rfl,λ_=>?_⟩)
 have hm:(aX ks).length=ks.length:=map_length _ ks;simp only[qc,Di,Es,Dk,qd,Dt,Ea,Eb,Dp,Ei,Eh,Ed,Ew,Df,Et,Dl,Dn,Eo,Dy,Dw,Dh,Dq,Ee,Fg,Dc,Dx,Dj,Dz,Ej,Du,Eu,Ez,En,Ef,Fe,Fj,Fh,Ep,Em,Ey,Fb];exact aKi hm (by decide) (by decide)
theorem KS7: aI Tryz.prog G0 K7:=
 aH (aC λ(k,m,xs,(cs,ns,os,fs,ls,ks),_,_)=>aB.of_pre λ(h:k=1/\m=6/\xs=cs)=>by obtain⟨rfl,rfl,rfl⟩:=h;exact((bFw xs ns os fs ls ks).weaken λ_=>trivial)) <|
 aH (aC λ(k,m,xs,(cs,ns,os,fs,ls,ks),_,_)=>aB.of_pre λ(h:k=2/\m=6/\xs=os)=>by obtain⟨rfl,rfl,rfl⟩:=h;exact((bFv cs ns xs fs ls ks).weaken λ_=>trivial)) <|
 aH (aC λ(k,m,xs,(cs,ns,os,fs,ls,ks),n2,_)=>aB.of_pre λ(h:k=3/\m=12/\xs=fs/\n2=(cs,ns,os,fs,ls,ks))=>by obtain⟨rfl,rfl,rfl,rfl⟩:=h;exact((bFu cs ns os xs ls ks).weaken λ_=>trivial)) <|
 aH (aC λ(k,m,xs,(cs,ns,os,fs,ls,ks),n2,_)=>aB.of_pre λ(h:k=4/\m=40/\xs=ls/\n2=(cs,ns,os,fs,ls,ks))=>by obtain⟨rfl,rfl,rfl,rfl⟩:=h;exact((bFt cs ns os fs xs ks).weaken λ_=>trivial)) <|
 aH (aC λ(k,m,xs,(cs,ns,os,fs,ls,ks),_,_)=>aB.of_pre λ(h:k=5/\m=4/\xs=ks)=>by obtain⟨rfl,rfl,rfl⟩:=h;exact((bFs cs ns os fs ls xs).weaken λ_=>trivial))<|KS6
theorem uN(kind lim:Int)(l:List ByteArray)(g:List Bool)(h:0<=lim): (dS kind lim l g).length<=lim.toNat+1:=by
 unfold dS aOe;have:=aDk kind l g (min l.length lim);rw[qF];split<;>simp only[vV,yO]<;>omega
theorem aHa(cs:LC)(ns os:LB)(fs:List Off)(ls:List Line)(ks:List Cla): lU (cs,ns,os,fs,ls,ks)=aLH (cs,ns,os,fs,ls,ks)++(dS 1 6 (aU cs ns) (dH cs)++(dS 2 6 os (fK os)++(dS 3 12 (aV fs) (iQ (cs,ns,os,fs,ls,ks))++(dS 4 40 (aW ls) (iH (cs,ns,os,fs,ls,ks))++dS 5 4 (aX ks) (dO ks))))):=by
 unfold lU sJ;rw[show(Int.toNat 6-1)=5 from rfl,show List.range 5=[0,1,2,3,4]from rfl]
 simp only[gI,qDc,wE];rfl
theorem aUo(cs:LC)(ns os:LB)(fs:List Off)(ls:List Line)(ks:List Cla): aB Tryz.prog G0 129 [net cs ns os fs ls ks] [] ⟨True,.buf 0 (Dj (lU (cs,ns,os,fs,ls,ks))),[(0,.buf 177 Fa (lU (cs,ns,os,fs,ls,ks)) [])]⟩:=by
 refine aA (c:=mkc K7) KS7 bD hm (aPt cs ns os fs ls ks ⟨rfl,λ_=>?_⟩)
 have h1:=uN 1 6 (aU cs ns) (dH cs) (by decide)
 have h2:=uN 2 6 os (fK os) (by decide)
 have h3:=uN 3 12 (aV fs) (iQ (cs,ns,os,fs,ls,ks)) (by decide)
 have h4:=uN 4 40 (aW ls) (iH (cs,ns,os,fs,ls,ks)) (by decide)
 have h5:=uN 5 4 (aX ks) (dO ks) (by decide)
 rw[aHa];simp only[qc,Di,Es,Dk,qd,Dt,Ea,Eb,Dp,Ei,Eh,Ed,Ew,Df,Et,Dl,Dn,Eo,Dy,Dw,Dh,Dq,Ee,Fg,Dc,Dx,Dj,Dz,Ej,Du,Eu,Ez,En,Ef,Fe,Fj,Fh,Ep,Em,Ey,Fb];refine⟨λhne=>?_,λhe=>?_⟩
 .rw[show aLH (cs,ns,os,fs,ls,ks)=[(1,-1,1)]from if_neg λe=>hne (zZ Int.ofNat e)]
  generalize dS 1 6 _ _=a1 at *;generalize dS 2 6 _ _=a2 at *;generalize dS 3 12 _ _=a3 at *;generalize dS 4 40 _ _=a4 at *;generalize dS 5 4 _ _=a5 at *;simp only[qF,vV,wG]
  and_intros<;>first | omega | rfl
 .rw[show aLH (cs,ns,os,fs,ls,ks)=[]from if_pos (Int.ofNat.inj he)]
  generalize dS 1 6 _ _=a1 at *;generalize dS 2 6 _ _=a2 at *;generalize dS 3 12 _ _=a3 at *;generalize dS 4 40 _ _=a4 at *;generalize dS 5 4 _ _=a5 at *;simp only[qF,xQ,wG]
  and_intros<;>first | omega | rfl
end Go.Eng.Sv
set_option maxRecDepth 100000
noncomputable section
namespace Go.Eng.Sv
open Go.Proofs
abbrev M: Ty:=.sl R
def upN(k n:Int): Prop:=0<=k/\k<=n
def cO(n:Net)(k i:Int): List ByteArray:=(bM n k).take i.toNat
def aNk(cs:List (Int×List Bool×List Int))(k:Int): Prop:=0<=k/\k<=cs.length/\(cs.take k.toNat).all (λc=>oN c.2.1 c.2.2)=true
def aMN(fs:List Off)(k:Int): Prop:=0<=k/\k<=fs.length/\(fs.take k.toNat).all (λo=>decide (o.2.2.2.2.2.2.length<=30))=true
def aBJ(l:List ByteArray): Bool:=l.all λs=>decide (s.size<=40)
def aH2(n:Net)(k:Int): Prop:=1<=k/\k<=6/\∀j:Int,1<=j->j<k->aBJ (bM n j)=true
def aVo(l:List ByteArray)(i:Int): Prop:=0<=i/\i<=l.length/\aBJ (l.take i.toNat)=true
def aO5(n:Net): Bool:=aBR n&&(n.1.all λc=>oN c.2.1 c.2.2)&&(n.2.2.2.1.all λo=>decide (o.2.2.2.2.2.2.length<=30))&&aBJ (bM n 1)&&aBJ (bM n 2)&&aBJ (bM n 3)&&aBJ (bM n 4)&&aBJ (bM n 5)
def aCu(a b:List (List Int)): Bool:=a==b
def aHD(a b:List (List Int))(k:Int): Prop:=0<=k/\k<=a.length/\a.length=b.length/\a.length<=1000000/\a.take k.toNat=b.take k.toNat
def aHF(a b:List (List Int))(i k:Int): Prop:=0<=k/\k<=(a.getD i.toNat []).length/\(a.getD i.toNat []).length=(b.getD i.toNat []).length/\(a.getD i.toNat []).length<=1000000/\(a.getD i.toNat []).take k.toNat=(b.getD i.toNat []).take k.toNat
def mild(a:List (List Int)): Prop:=a.length<=1000000/\∀r∈a,r.length<=1000000
def noF(n:Net): Bool:=(lU n).isEmpty
def K8: Kt:=kOr 129 (aRJ [.row N] (λ_=>True) (λ(n,_)=>.buf 0 (Dj (lU n))) λ(n,_)=>.buf 177 Fa (lU n) []) K7
def aQ5(n:Net)(k:Int)(loop slot:Nat)(st:St)(xs:List ByteArray): Option Spec:=some {α:=Int,inv:=λi=>upN i (Df (bM n k)),st:=λi=>pX (put st [(slot,.dat I i),(5,.buf 100 (Dj (cO n k i)))]) 100 (.buf 9 S (cO n k i) []),μ:=λi=>Dc (Dh (Df (bM n k)) i)}
def bC0(n:Net): Ann:=⟨λid st=>match id with
 | 5=>aQ5 n 1 5 6 st []
 | 12=>aQ5 n 2 12 7 st []
 | 17=>aQ5 n 3 17 8 st []
 | 22=>aQ5 n 4 22 9 st []
 | 27=>aQ5 n 5 27 10 st []
 | _=>none,λ_ _=>none,λ_ _=>none⟩
def bCv(a b:List (List Int)): Ann:=⟨λid st=>match id with
 | 4=>some {α:=Int,inv:=λk=>aHD a b k,st:=λk=>put st [(5,.dat I k)],μ:=λk=>Dc (Dh (Df a) k)}
 | 9=>match st.sig.T 5 with
  | .dat (.int .i64) i=>some {α:=Int,inv:=λk=>aHF a b i k,st:=λk=>put st [(6,.dat I k)],μ:=λk=>Dc (Dh (Df (Du a (Dc i) [])) k)}
  | _=>none
 | _=>none,λ_ _=>none,λ_ _=>none⟩
def bHu(n:Net): Ann:=⟨λid st=>match id with
 | 4=>some {α:=Int,inv:=λk=>aNk n.1 k,st:=λk=>put st [(3,.dat I k)],μ:=λk=>Dc (Dh (Df n.1) k)}
 | 9=>some {α:=Int,inv:=λk=>aMN n.2.2.2.1 k,st:=λk=>put st [(4,.dat I k)],μ:=λk=>Dc (Dh (Df n.2.2.2.1) k)}
 | 14=>some {α:=Int,inv:=λk=>aH2 n k,st:=λk=>put st [(5,.dat I k)],μ:=λk=>Dc (Dh 6 k)}
 | 18=>match st.sig.T 5 with
  | .dat (.int .i64) k=>some {α:=Int,inv:=λi=>aVo (bM n k) i,st:=λi=>put st [(7,.dat I i)],μ:=λi=>Dc (Dh (Df (bM n k)) i)}
  | _=>none
 | _=>none,λ_ _=>none,λ_ _=>none⟩
def K12: Kt:=K8
theorem KS8: aI Tryz.prog G0 K8:=aH (aRI λ((cs,ns,os,fs,ls,ks),_)=>aUo cs ns os fs ls ks) KS7
theorem aLi{n:Net}{k i:Int}(h0:0<=i)(h1:i<=(bM n k).length): (cO n k i).length=i.toNat:=by
 unfold cO;rw[qI];omega
theorem aJD{n:Net}{k i:Int}(h0:0<=i)(h1:i<(bM n k).length): cO n k (i+1)=cO n k i++[(bM n k).getD i.toNat ⟨#[]⟩]:=by
 unfold cO;rw[show(i+1).toNat=i.toNat+1 by omega,wV,qA,qB (show i.toNat<(bM n k).length by omega)]
 rfl
theorem aLj{n:Net}{k i:Int}(h1:i<=(bM n k).length)(h2:¬i<(bM n k).length): cO n k i=bM n k:=by
 unfold cO;exact qO (by omega)
theorem aJB{n:Net}{k:Int}{m:Nat}{el:Int->ByteArray}(hl:(bM n k).length=m)(hm:m<=100)(he:∀x,0<=x->x<(m:Int)->(bM n k).getD x.toNat ⟨#[]⟩=el x){R:List ByteArray}(hR:R=bM n k):
  (∃x,upN x (bM n k).length/\(cO n k x).length=0/\cO n k x=[]/\0=x/\cO n k x=[])/\
   ∀(x:Int),upN x (bM n k).length->
    (x<(m:Int)->0<=x/\x<(m:Int)/\((cO n k x).length+[el x].length)*16<=140737488355328/\(cO n k x).length+[el x].length<=9223372036854775807/\inR IntKind.i64 (x+1)/\
     ∃y,upN y (bM n k).length/\((cO n k x).length+[el x].length=(cO n k y).length/\x+1=y/\cO n k x++[el x]=cO n k y)/\(((bM n k).length:Int)-y).toNat<(((bM n k).length:Int)-x).toNat)/\
    (¬x<(m:Int)->cO n k x=R):=by
 refine⟨⟨0,⟨qL _,qR _⟩,rfl,rfl,rfl,rfl⟩,λx ⟨h0,h1⟩=>⟨λhlt=>?_,λhge=>by rw[hR];exact aLj h1 (by omega)⟩⟩
 have e1:=aLi h0 h1;have e2:=aJD h0 (show x<((bM n k).length:Int) by omega)
 rw[he x h0 hlt]at e2;refine⟨h0,hlt,by simp only[vV];omega,by simp only[vV];omega,⟨by omega,by omega⟩,x+1,⟨by omega,by omega⟩,⟨by rw[e2,qF],rfl,e2.symm⟩,by omega⟩
theorem aIf(cs:LC)(ns os:LB)(fs:List Off)(ls:List Line)(ks:List Cla)(hp:aBR (cs,ns,os,fs,ls,ks)=true): cs.length<=10/\ns.length<=10/\os.length<=10/\fs.length<=16/\ls.length<=50/\ks.length<=8:=wM hp
theorem getD_mem{α:Type}{l:List α}{i:Nat}{d:α}(h:i<l.length): l.getD i d∈l:=by
 rw[qA,qB h];exact wH h
theorem rW{α:Type}{a b:List α}{k:Nat}{d:α}(h:a.take k=b.take k)(ha:k<a.length)(hb:k<b.length)(he:a.getD k d=b.getD k d): a.take (k+1)=b.take (k+1):=by
 rw[qA,qA,qB ha,qB hb]at he;have he':a[k]=b[k]:=he;rw[wV,wV,qB ha,qB hb,h,he']
theorem aHC{a b:List (List Int)}(h:a≠b): false=aCu a b:=by unfold aCu;exact(qAd.2 h).symm
theorem aM8{n:Net}(h:aO5 n=true->False): false=aO5 n:=by
 cases e:aO5 n with
 | false=>rfl
 | true=>exact(h e).elim
theorem aCO{n:Net}: aO5 n=true↔aBR n=true/\(n.1.all λc=>oN c.2.1 c.2.2)=true/\(n.2.2.2.1.all λo=>decide (o.2.2.2.2.2.2.length<=30))=true/\∀j:Int,1<=j->j<6->aBJ (bM n j)=true:=by
 unfold aO5;simp only[qC,qDi];constructor
 .rintro⟨h1,h2,h3,h4,h5,h6,h7,h8⟩;refine⟨h1,h2,h3,λj j1 j2=>?_⟩
  have hc:j=1\/j=2\/j=3\/j=4\/j=5:=by omega
  rcases hc with rfl | rfl | rfl | rfl | rfl<;>assumption
 .rintro⟨h1,h2,h3,h4⟩;exact⟨h1,h2,h3,h4 1 (by decide) (by decide),h4 2 (by decide) (by decide),h4 3 (by decide) (by decide),h4 4 (by decide) (by decide),h4 5 (by decide) (by decide)⟩
theorem aJN(k:Int): 4<=sF k/\sF k<=40:=by unfold sF;split<;>(try split)<;>(try split)<;>omega
theorem aIg{n:Net}{k:Int}(h:1<=k): sJ n (k+1)=sJ n k++dS k (sF k) (bM n k) (aRE n k):=by
 unfold sJ;rw[show(k+1).toNat-1=(k.toNat-1)+1 by omega,zT,qAe,<- wG]
 congr 1
 simp only[gI,qDc,wE];rw[show((k.toNat-1:Nat):Int)+1=k by omega]
theorem aJ7(n:Net): ∀(j:Nat),(sJ n (j+1)).length<=1+41*j
 | 0=>by
  have e:sJ n ((0:Nat)+1)=aLH n:=by unfold sJ;simp
  rw[e];unfold aLH;split<;>simp
 | j+1=>by
  have ih:=aJ7 n j;have e:=aIg (n:=n) (k:=(j:Int)+1) (by omega)
  have h1:=(aJN ((j:Int)+1)).1;have h2:=(aJN ((j:Int)+1)).2;have:=uN ((j:Int)+1) (sF ((j:Int)+1)) (bM n ((j:Int)+1)) (aRE n ((j:Int)+1)) (by omega)
  rw[show(((j+1:Nat):Int)+1)=(j:Int)+1+1 by omega,e,qF]
  omega
theorem bG8: aI Tryz.prog G0 K12:=KS8
end Go.Eng.Sv
set_option maxRecDepth 100000
noncomputable section
namespace Go.Eng.Sv
open Go.Proofs
def bAI(a b:Int)(xs:List Int): Prop:=0<=a/\a<12/\0<=b/\b<12/\xs.length=144
def rX(xs:List Int)(a b len:Int): List Int:=lF xs a b len
def nZ(k:Int): List Int:=(List.range 144).map λi=>if i<k.toNat then(if i/12=i%12 then 0 else -1)else 0
def rD(ls:List Line)(k:Int): List Int:=(ls.take k.toNat).foldl (λxs l=>lF xs (fA l) (lTo l) (cZ l)) aLD
def fwD(ls:List Line)(o a b:Int): List Int:=fwN ls (o*144+a*12+b).toNat
def dY(ls:List Line): List Int:=aHM ls
def noP(n:Net): Prop:=noF n=true
def aGP(m:Nat)(ls:List Line)(b:Nat): Bool:=(List.range m).any λa=>decide (cell (aHM ls) a b=-1)
def dX(m:Int)(ls:List Line)(k:Int): List (Int×Int×Int):=(List.range k.toNat).filterMap λb:Nat=>if aGP m.toNat ls b then some (3,(b:Int),111)else none
def mD(n:Net): List (Int×Int×Int):=if noF n then dX n.2.2.2.1.length n.2.2.2.2.1 n.2.2.2.1.length else lU n
def aFp(m:Int)(ls:List Line)(b k:Int): Prop:=0<=k/\k<=m/\(List.range k.toNat).all (λa=>decide (cell (aHM ls) a b.toNat≠-1))=true
def bZ(n:Net): Bool:=(mD n).isEmpty
abbrev cx: List (Int×List Bool×List Int):=[(0,[true,true,true,true,true,false,false],[])]
abbrev nx: List ByteArray:=[⟨#[99]⟩]
abbrev ox: List ByteArray:=[⟨#[112]⟩,⟨#[113]⟩]
theorem aTj(a b len:Int)(xs:List Int)(hvc:
 let c1:=rX xs a b len;let c2:=Em (Em (0) (12) a) (1) b;let c3:=Du xs c2 0;let c4:=Ea c3 (-1);let c5:=Dk c4;let c6:=Ec c4 true (Dp len c3);true/\(bAI a b xs->Dj xs<=Dj c1/\Dj xs=144/\0<=a/\a<Dx (12)/\Em (0) (12) (Dx (12))<=(144)/\Dj xs=144/\0<=b/\b<Dx (12)/\Em (Em (0) (12) a) (1) (Dx (12))<=(144)/\Dj xs=144/\(c5->c5->c5)/\(c5->Dj xs=144)/\(c5->0<=a)/\(c5->a<Dx (12))/\(c5->Em (0) (12) (Dx (12))<=(144))/\(c5->c5->c5)/\(c5->c5->c5)/\(c5->Dj xs=144)/\(c5->0<=b)/\(c5->b<Dx (12))/\(c5->Em (Em (0) (12) a) (1) (Dx (12))<=(144))/\(c5->c5->c5)/\(c5->Dj xs=144)/\(c5->c5->c5)/\(c5->c5->c5)/\(Di true c5->c5)/\(c6->Dj xs=144/\0<=a/\a<Dx (12)/\Em (0) (12) (Dx (12))<=(144)/\Dj xs=144/\0<=b/\b<Dx (12)/\Em (Em (0) (12) a) (1) (Dx (12))<=(144)/\Dj xs=144/\En xs c2 len=c1/\Dj xs=Dj xs/\True)/\(c6=false->xs=c1/\Dj xs=Dj xs/\True))):
  evF (mkc K12) aQ 203 [.dat I a,.dat I b,.dat I len,.ptr 1 144 0 0] [(1,.buf 174 I xs [])] ⟨bAI a b xs,.tup [],[(1,.buf 174 I (rX xs a b len) [])]⟩:=@of_eq _ _ (by kernel_rfl) hvc
def aRo(args:List AV)(m:Mem): Option aAb:=match args,m with
 | [.dat (.int .i64) a,.dat (.int .i64) b,.dat (.int .i64) len,.ptr 1 g 0 0],[(1,.buf el (.int .i64) xs [])]=>if g=144/\el=174 then some ⟨bAI a b xs,.tup [],[(1,.buf 174 I (rX xs a b len) [])]⟩else none
 | _,_=>none
def K13: Kt:=kOr 203 aRo K12
def aU0(ls:List Line): Ann:=⟨λid s=>match id with
 | 3=>some {α:=Int,inv:=λk=>upN k 12,st:=λk=>pX (put s [(12,.dat I k)]) 1 (.buf 174 I (nZ (Ee 12 k)) []),μ:=λk=>Dc (Dh 12 k)}
 | 6=>match s.sig.T 12 with
  | .dat (.int .i64) a=>some {α:=Int,inv:=λk=>upN k 12,st:=λk=>pX (put s [(15,.dat I k)]) 1 (.buf 174 I (nZ (Dq (Ee 12 a) k)) []),μ:=λk=>Dc (Dh 12 k)}
  | _=>none
 | 14=>some {α:=Int,inv:=λk=>upN k (Df ls),st:=λk=>pX (put s [(31,.dat I k)]) 1 (.buf 174 I (rD ls k) []),μ:=λk=>Dc (Dh (Df ls) k)}
 | 19=>some {α:=Int,inv:=λk=>upN k 12,st:=λk=>pX (put s [(44,.dat I k)]) 1 (.buf 174 I (fwD ls k 0 0) []),μ:=λk=>Dc (Dh 12 k)}
 | 22=>match s.sig.T 44 with
  | .dat (.int .i64) o=>some {α:=Int,inv:=λk=>upN k 12,st:=λk=>pX (put s [(47,.dat I k)]) 1 (.buf 174 I (fwD ls o k 0) []),μ:=λk=>Dc (Dh 12 k)}
  | _=>none
 | 25=>match s.sig.T 44,s.sig.T 47 with
  | .dat (.int .i64) o,.dat (.int .i64) a=>some {α:=Int,inv:=λk=>upN k 12,st:=λk=>pX (put s [(50,.dat I k)]) 1 (.buf 174 I (fwD ls o a k) []),μ:=λk=>Dc (Dh 12 k)}
  | _,_=>none
 | _=>none,λ_ _=>none,λ_ _=>none⟩
theorem aNz(cs:LC)(ns os:LB)(fs:List Off)(ls:List Line)(ks:List Cla)(hvc:
 let c1:=(cs,ns,os,fs,ls,ks);let c2:=Fz (144) 0;let c3:=Df ls;true/\(noP c1->(∃x,upN x 12/\c1=c1/\144=144/\0=0/\0=0/\144=144/\0=0/\0=0/\0=x/\c2=c2/\c2=nZ (12*x)/\True)/\∀(x:Int),let c5:=Dp x 12;let c6:=12*x;let c7:=nZ c6;let c8:=x+1;upN x 12->(c5->(∃x_3,upN x_3 12/\c1=c1/\144=144/\0=0/\0=0/\144=144/\0=0/\0=0/\x=x/\x=x/\0=x_3/\c2=c2/\c7=nZ (c6+x_3)/\True)/\∀(x_3:Int),let c9:=Dp x_3 12;let c10:=x_3+1;upN x_3 12->(c9->(Eb x x_3->Dj (nZ (c6+x_3))=144/\0<=x/\x<Dx (12)/\Em (0) (12) (Dx (12))<=(144)/\Dj (nZ (c6+x_3))=144/\0<=x_3/\x_3<Dx (12)/\Em (Em (0) (12) x) (1) (Dx (12))<=(144)/\Dj (nZ (c6+x_3))=144/\inR IntKind.i64 c10/\∃y,upN y 12/\(c1=c1/\144=144/\0=0/\0=0/\144=144/\0=0/\0=0/\x=x/\x=x/\c10=y/\c2=c2/\En (nZ (c6+x_3)) (Em (Em (0) (12) x) (1) x_3) (-1)=nZ (c6+y)/\True)/\Dc (12-y)<Dc (12-x_3))/\(Eb x x_3=false->inR IntKind.i64 c10/\∃y,upN y 12/\(c1=c1/\144=144/\0=0/\0=0/\144=144/\0=0/\0=0/\x=x/\x=x/\c10=y/\c2=c2/\nZ (c6+x_3)=nZ (c6+y)/\True)/\Dc (12-y)<Dc (12-x_3)))/\(c9=false->inR IntKind.i64 c8/\∃y,upN y 12/\(c1=c1/\144=144/\0=0/\0=0/\144=144/\0=0/\0=0/\c8=y/\c2=c2/\nZ (c6+x_3)=nZ (12*y)/\True)/\Dc (12-y)<Dc (12-x)))/\(c5=false->(∃x,upN x c3/\144=144/\0=0/\0=0/\144=144/\0=0/\0=0/\144=144/\0=0/\0=0/\ls=ls/\c3=c3/\0=x/\c2=c2/\c7=rD ls x/\True)/\∀(x:Int),let c11:=(Du ls (Dc x) (ByteArray.mk #[],(0:Int),(0:Int),(0:Int),(0:Int),(0:Int))).2;let c15:=rX (rD ls x) c11.1 c11.2.1 c11.2.2.2.1;let c16:=x+1;
 upN x c3->(Dp x c3->0<=x/\x<c3/\1=1/\0=0/\1=1/\1=1/\0=0/\1=1/\1=1/\0=0/\1=1/\1=1/\0=0/\bAI c11.1 c11.2.1 (rD ls x)/\Dj (rD ls x)<=Dj c15/\inR IntKind.i64 c16/\∃y,upN y c3/\(144=144/\0=0/\0=0/\144=144/\0=0/\0=0/\144=144/\0=0/\0=0/\ls=ls/\c3=c3/\c16=y/\c2=c2/\c15=rD ls y/\True)/\Dc (c3-y)<Dc (c3-x))/\(Dp x c3=false->(∃x_4,upN x_4 12/\144=144/\0=0/\0=0/\144=144/\0=0/\0=0/\144=144/\0=0/\0=0/\0=x_4/\c2=c2/\rD ls x=fwD ls x_4 0 0/\True)/\∀(x:Int),let c17:=Dp x 12;let c18:=fwD ls x 0 0;let c19:=x+1;upN x 12->(c17->(∃x_6,upN x_6 12/\144=144/\0=0/\0=0/\144=144/\0=0/\0=0/\144=144/\0=0/\0=0/\x=x/\x=x/\0=x_6/\c2=c2/\c18=fwD ls x x_6 0/\True)/\∀(x_6:Int),let c20:=Dp x_6 12;let c21:=fwD ls x x_6 0;let c23:=x_6+1;upN x_6 12->(c20->(∃x_9,upN x_9 12/\144=144/\0=0/\0=0/\144=144/\0=0/\0=0/\144=144/\0=0/\0=0/\x=x/\x_6=x_6/\x=x/\x_6=x_6/\0=x_9/\c2=c2/\c21=fwD ls x x_6 x_9/\True)/\∀(x_9:Int),let c24:=Dp x_9 12;let c25:=fwD ls x x_6 x_9;let c26:=Dj c25;let c27:=Du c25 (Em (Em (0) (12) x_6) (1) x) 0;let c28:=Eb c27 (-1);let c29:=Du c25 (Em (Em (0) (12) x) (1) x_9) 0;let c30:=Ec c28 (Eb c29 (-1)) false;let c31:=c27+c29;let c32:=rX c25 x_6 x_9 c31;let c33:=x_9+1;
 upN x_9 12->(c24->c26=144/\0<=x_6/\x_6<Dx (12)/\Em (0) (12) (Dx (12))<=(144)/\c26=144/\0<=x/\x<Dx (12)/\Em (Em (0) (12) x_6) (1) (Dx (12))<=(144)/\c26=144/\(c28->c28->c28)/\(c28->c26=144)/\(c28->0<=x)/\(c28->x<Dx (12))/\(c28->Em (0) (12) (Dx (12))<=(144))/\(c28->c28->c28)/\(c28->c28->c28)/\(c28->c26=144)/\(c28->0<=x_9)/\(c28->x_9<Dx (12))/\(c28->Em (Em (0) (12) x) (1) (Dx (12))<=(144))/\(c28->c28->c28)/\(c28->c26=144)/\(c28->c28->c28)/\(Di true c28->c28)/\(c30->c26=144/\0<=x_6/\x_6<Dx (12)/\Em (0) (12) (Dx (12))<=(144)/\c26=144/\0<=x/\x<Dx (12)/\Em (Em (0) (12) x_6) (1) (Dx (12))<=(144)/\c26=144/\c26=144/\0<=x/\x<Dx (12)/\Em (0) (12) (Dx (12))<=(144)/\c26=144/\0<=x_9/\x_9<Dx (12)/\Em (Em (0) (12) x) (1) (Dx (12))<=(144)/\c26=144/\inR IntKind.i64 c31/\bAI x_6 x_9 c25/\c26<=Dj c32/\inR IntKind.i64 c33/\∃y,upN y 12/\(144=144/\0=0/\0=0/\144=144/\0=0/\0=0/\144=144/\0=0/\0=0/\x=x/\x_6=x_6/\x=x/\x_6=x_6/\c33=y/\c2=c2/\c32=fwD ls x x_6 y/\True)/\Dc (12-y)<Dc (12-x_9))/\(c30=false->inR IntKind.i64 c33/\∃y,upN y 12/\(144=144/\0=0/\0=0/\144=144/\0=0/\0=0/\144=144/\0=0/\0=0/\x=x/\x_6=x_6/\x=x/\x_6=x_6/\c33=y/\c2=c2/\c25=fwD ls x x_6 y/\True)/\Dc (12-y)<Dc (12-x_9)))/\(c24=false->inR IntKind.i64 c23/\∃y,upN y 12/\(144=144/\0=0/\0=0/\144=144/\0=0/\0=0/\144=144/\0=0/\0=0/\x=x/\x=x/\c23=y/\c2=c2/\c25=fwD ls x y 0/\True)/\Dc (12-y)<Dc (12-x_6)))/\(c20=false->inR IntKind.i64 c19/\∃y,upN y 12/\(144=144/\0=0/\0=0/\144=144/\0=0/\0=0/\144=144/\0=0/\0=0/\c19=y/\c2=c2/\c21=fwD ls y 0 0/\True)/\Dc (12-y)<Dc (12-x)))/\(c17=false->Dj c18=144/\0=0/\Dj c18=144/\Dj c2=144/\0=0/\Dj c2=144/\Dj c18=144/\Dj c18=144/\0=0/\Dj c18=144/\c18=dY ls/\True))))):
  evF (mkc K13) (lvA [(3,[1,2,3,4,5,6,8,9,10,11,12,15,29,30,31,44,47,50]),(6,[1,2,3,4,5,6,8,9,10,11,12,15,29,30,31,44,47,50]),(14,[2,3,6,8,9,10,11,29,30,31,44,47,50]),(19,[2,3,6,9,10,11,44,47,50]),(22,[2,3,6,9,10,11,44,47,50]),(25,[2,3,6,9,10,11,44,47,50])] (aU0 ls)) 130 [net cs ns os fs ls ks] [] ⟨noP (cs,ns,os,fs,ls,ks),.av I (dY ls),[]⟩:=@of_eq _ _ (by kernel_rfl) hvc
def K14: Kt:=kOr 130 (aP [.row N] (λ(n,_)=>noP n) λ(n,_)=>.av I (dY n.2.2.2.2.1)) K13
def bAf(fs:List Off)(ls:List Line): Ann:=⟨λid s=>match id with
 | 6=>some {α:=Int,inv:=λk=>upN k (Df fs),st:=λk=>pX (put s [(18,.dat I k),(3,.buf 0 (Dj (dX (Df fs) ls k)))]) 0 (.buf 177 Fa (dX (Df fs) ls k) []),μ:=λk=>Dc (Dh (Df fs) k)}
 | 9=>match s.sig.T 18 with
  | .dat (.int .i64) b=>some {α:=Int,inv:=λk=>aFp (Df fs) ls b k,st:=λk=>put s [(24,.dat I k),(3,.buf 0 (Dj (dX (Df fs) ls b)))],μ:=λk=>Dc (Dh (Df fs) k)}
  | _=>none
 | _=>none,λ_ _=>none,λ_ _=>none⟩
theorem aTP(cs:LC)(ns os:LB)(fs:List Off)(ls:List Line)(ks:List Cla)(hvc:
 let c1:=(cs,ns,os,fs,ls,ks);let c2:=lU c1;let c3:=Dj c2;let c4:=Ei (Int.ofNat c3) 0;let c5:=mD c1;let c6:=Df fs;true/\(True->True/\c3=c3/\(c4->c3=c3/\c2=c5/\True)/\(c4=false->noP c1/\Dj (Fz (144) 0)=144/\0=0/\Dj (Fz (144) 0)=144/\Dj (dY ls)=144/\(∃x,upN x c6/\c1=c1/\Value.slice none (0) (0)=Value.slice none (0) (0)/\c3=Dj (dX c6 ls x)/\144=144/\0=0/\0=0/\c6=c6/\0=x/\c2=dX c6 ls x/\dY ls=dY ls/\True)/\∀(x:Int),let c7:=Dj (dX c6 ls x);let c8:=[((3:Int),x,(111:Int))];let c9:=c7+Dj c8;let c10:=x+1;upN x c6->(Dp x c6->(∃x_3,aFp c6 ls x x_3/\c1=c1/\Value.slice none (0) (0)=Value.slice none (0) (0)/\c7=c7/\144=144/\0=0/\0=0/\x=x/\c6=c6/\x=x/\c6=c6/\0=x_3/\dX c6 ls x=dX c6 ls x/\dY ls=dY ls/\True)/\∀(x_3:Int),let c11:=Ea (Du (dY ls) (Em (Em (0) (12) x_3) (1) x) 0) (-1);let c12:=x_3+1;
 aFp c6 ls x x_3->(Dp x_3 c6->Dj (dY ls)=144/\0<=x_3/\x_3<Dx (12)/\Em (0) (12) (Dx (12))<=(144)/\Dj (dY ls)=144/\0<=x/\x<Dx (12)/\Em (Em (0) (12) x_3) (1) (Dx (12))<=(144)/\Dj (dY ls)=144/\(c11->c7=c7/\(c9*(24))<=(140737488355328)/\c9<=(9223372036854775807)/\inR IntKind.i64 c10/\∃y,upN y c6/\(c1=c1/\Value.slice none (0) (0)=Value.slice none (0) (0)/\c9=Dj (dX c6 ls y)/\144=144/\0=0/\0=0/\c6=c6/\c10=y/\Ef (dX c6 ls x) c8=dX c6 ls y/\dY ls=dY ls/\True)/\Dc (c6-y)<Dc (c6-x))/\(c11=false->inR IntKind.i64 c12/\∃y,aFp c6 ls x y/\(c1=c1/\Value.slice none (0) (0)=Value.slice none (0) (0)/\c7=c7/\144=144/\0=0/\0=0/\x=x/\c6=c6/\x=x/\c6=c6/\c12=y/\dX c6 ls x=dX c6 ls x/\dY ls=dY ls/\True)/\Dc (c6-y)<Dc (c6-x_3)))/\(Dp x_3 c6=false->inR IntKind.i64 c10/\∃y,upN y c6/\(c1=c1/\Value.slice none (0) (0)=Value.slice none (0) (0)/\c7=Dj (dX c6 ls y)/\144=144/\0=0/\0=0/\c6=c6/\c10=y/\dX c6 ls x=dX c6 ls y/\dY ls=dY ls/\True)/\Dc (c6-y)<Dc (c6-x)))/\(Dp x c6=false->c7=c7/\dX c6 ls x=c5/\True)))):
  evF (mkc K14) (lvA [(6,[1,2,3,4,5,6,17,18,23,24]),(9,[1,2,3,4,5,6,17,18,23,24])] (bAf fs ls)) 64 [net cs ns os fs ls ks] [] ⟨True,.dat (.sl Fa) (mD (cs,ns,os,fs,ls,ks)),[]⟩:=@of_eq _ _ (by kernel_rfl) hvc
def K15: Kt:=kOr 64 (aP [.row N] (λ_=>True) λ(n,_)=>.dat (.sl Fa) (mD n)) K14
def K16: Kt:=K15
theorem aFl{n:Net}: noF n=true↔lU n=[]:=by unfold noF;rw[wQ]
theorem aFz{kind lim:Int}{l:List ByteArray}{g:List Bool}(h0:0<=lim)(h:dS kind lim l g=[]): (l.length:Int)<=lim/\∀i:Int,0<=i->i<l.length->aM9 l g i=0:=by
 unfold dS at h;obtain⟨h1,h2⟩:=qBt.1 h;have hl:(l.length:Int)<=lim:=by
  unfold aOe at h2;split at h2
  .cases h2
  .omega
 refine⟨hl,λi i0 i1=>?_⟩
 unfold bQ at h1;rw[qCw]at h1;have:=h1 i.toNat (vN.2 (by omega))
 rw[vC i0]at this;split at this
 .assumption
 .cases this
theorem aCP{l:List ByteArray}{g:List Bool}{i:Int}(h:aM9 l g i=0): dV l i=0/\rule2 l i=0/\fF g i=0:=by
 unfold aM9 at h;by_cases h1:dV l i=0
 .rw[if_neg (by simp[h1])]at h
  by_cases h2:rule2 l i=0
  .rw[if_neg (by simp[h2])]at h;exact⟨h1,h2,h⟩
  .rw[if_pos h2]at h;exact(h2 h).elim
 .rw[if_pos h1]at h;exact(h1 h).elim
theorem aGK{g:List Bool}{i:Int}(h:fF g i=0): g.getD i.toNat false=true:=by
 unfold fF at h;cases hg:g.getD i.toNat false with
 | true=>rfl
 | false=>rw[hg]at h;cases h
theorem rZ(cs:LC)(ns os:LB)(fs:List Off)(ls:List Line)(ks:List Cla)(h:noF (cs,ns,os,fs,ls,ks)=true): ns.length=cs.length/\dS 1 6 (aU cs ns) (dH cs)=[]/\dS 2 6 os (fK os)=[]/\dS 3 12 (aV fs) (iQ (cs,ns,os,fs,ls,ks))=[]/\dS 4 40 (aW ls) (iH (cs,ns,os,fs,ls,ks))=[]/\dS 5 4 (aX ks) (dO ks)=[]:=by
 have:=aFl.1 h;rw[aHa]at this;simp only[qBt]at this;obtain⟨h0,h1,h2,h3,h4,h5⟩:=this;refine⟨?_,h1,h2,h3,h4,h5⟩;unfold aLH at h0;split at h0
 .assumption
 .cases h0
theorem sH{n:Net}{l:Line}(h:jA n l=true): 0<=fA l/\fA l<n.2.2.2.1.length/\0<=lTo l/\lTo l<n.2.2.2.1.length/\fA l≠lTo l/\(0<=lAt l/\lAt l<=1439)/\1<=cZ l/\cZ l<=5000:=by
 unfold jA jT jU at h;simp only[qC,qE]at h;obtain⟨⟨⟨⟨⟨h1,h2⟩,h3⟩,h4⟩,h5⟩,h6⟩:=h;exact⟨h1.1,h1.2,h2.1,h2.2,h3,h4,h5.1,h5.2⟩
theorem aCG(cs:LC)(ns os:LB)(fs:List Off)(ls:List Line)(ks:List Cla)(h:noF (cs,ns,os,fs,ls,ks)=true): iE fs.length ls/\ls.length<=40:=by
 obtain⟨_,_,_,h3,h4,_⟩:=rZ cs ns os fs ls ks h;obtain⟨l3,e3⟩:=aFz (by decide) h3
 obtain⟨l4,e4⟩:=aFz (by decide) h4
 have n3:(aV fs).length=fs.length:=map_length _ fs;have n4:(aW ls).length=ls.length:=map_length _ ls;refine⟨⟨by omega,λl hl=>?_⟩,by omega⟩
 obtain⟨i,hi⟩:=kH.1 hl;have hlt:i<ls.length:=(qG.1 hi).1;have:=aGK (aCP (e4 i (by omega) (by omega))).2.2
 rw[show(iH (cs,ns,os,fs,ls,ks))=ls.map (jA (cs,ns,os,fs,ls,ks))from rfl,aBt (jA (cs,ns,os,fs,ls,ks)) ls (i:Int).toNat l false (by omega),qA,show(i:Int).toNat=i by omega,hi]at this
 obtain⟨g1,g2,g3,g4,g5,_,g6,g7⟩:=sH this;exact⟨g1,g2,g3,g4,g5,g6,g7⟩
theorem aAh(xs:List Int)(a b len:Int): (rX xs a b len).length=xs.length:=oZ xs a b len
theorem aN7{xs:List Int}{a b len:Int}(h:xs.getD (a.toNat*12+b.toNat) 0=-1\/len<xs.getD (a.toNat*12+b.toNat) 0): xs.set (a.toNat*12+b.toNat) len=rX xs a b len:=by
 unfold rX lF cell;rw[show(decide (xs.getD (a.toNat*12+b.toNat) 0=-1)||decide (len<xs.getD (a.toNat*12+b.toNat) 0))=true by simpa using h];rfl
theorem aN8{xs:List Int}{a b len:Int}(h1:xs.getD (a.toNat*12+b.toNat) 0≠-1)(h2:¬len<xs.getD (a.toNat*12+b.toNat) 0): xs=rX xs a b len:=by
 unfold rX lF cell;rw[show(decide (xs.getD (a.toNat*12+b.toNat) 0=-1)||decide (len<xs.getD (a.toNat*12+b.toNat) 0))=false by rw[qAz];exact⟨vG h1,vG h2⟩];rfl
theorem aYA(a b len:Int)(xs:List Int): aB Tryz.prog G0 203 [.dat I a,.dat I b,.dat I len,.ptr 1 144 0 0] [(1,.buf 174 I xs [])] ⟨bAI a b xs,.tup [],[(1,.buf 174 I (rX xs a b len) [])]⟩:=by
 refine aA (c:=mkc K12) bG8 bD hm (aTj a b len xs ⟨rfl,λ⟨a0,a1,b0,b1,hl⟩=>?_⟩)
 have e:=aAh xs a b len;simp only[qc,Di,Es,Dk,qd,Dt,Ea,Eb,Dp,Ei,Eh,Ed,Ew,Df,Et,Dl,Dn,Eo,Dy,Dw,Dh,Dq,Ee,Fg,Dc,Dx,Dj,Dz,Ej,Du,Eu,Ez,En,Ef,Fe,Fj,Fh,Ep,Em,Ey,Fb]
 and_intros
 all_goals try (intros;omega)
 .intro h
  and_intros
  all_goals try omega
  exact aN7 h
 .rintro⟨h1,h2⟩;exact aN8 h1 h2
theorem aRn: ∀args m c,aRo args m=some c->aB Tryz.prog G0 203 args m c:=by
 intro args m c h;unfold aRo at h;split at h
 .split at h
  .rename_i e;obtain⟨rfl,rfl⟩:=e;cases h;exact aYA _ _ _ _
  .cases h
 .cases h
theorem bG7: aI Tryz.prog G0 K13:=aH aRn bG8
theorem aDU(k:Int): (nZ k).length=144:=by unfold nZ;rw[vF,vK]
theorem aOx: List.replicate 144 0=nZ 0:=by
 unfold nZ;apply xO;intro i;rw[wS,qP];by_cases h:i<144
 .rw[if_pos h,vX h];simp
 .rw[if_neg h,zD (by rw[vK];omega)];rfl
theorem aRu{x y:Int}(hx:0<=x)(hx1:x<12)(hy:0<=y)(hy1:y<12)(hne:x≠y): (nZ (12*x+y)).set (x.toNat*12+y.toNat) (-1)=nZ (12*x+(y+1)):=by
 apply xO;intro i;rw[yZ,aDU];unfold nZ;rw[qP,qP];by_cases h:i<144
 .rw[vX h];simp only[zK];by_cases e:x.toNat*12+y.toNat=i
  .subst e;rw[if_pos rfl,if_pos h,if_pos (by omega),if_neg (by omega)]
  .rw[if_neg e]
   congr 1
   by_cases g:i<(12*x+y).toNat
   .have g':i<(12*x+(y+1)).toNat:=by omega
    rw[if_pos g,if_pos g']
   .have g':¬i<(12*x+(y+1)).toNat:=by omega
    rw[if_neg g,if_neg g']
 .rw[if_neg (by omega),zD (by rw[vK];omega)];rfl
theorem aOy{x:Int}(hx:0<=x)(hx1:x<12): nZ (12*x+x)=nZ (12*x+(x+1)):=by
 unfold nZ;apply yE;intro i hi;have:=vN.1 hi;by_cases g:i<(12*x+x).toNat
 .have g':i<(12*x+(x+1)).toNat:=by omega
  rw[if_pos g,if_pos g']
 .rw[if_neg g];split
  .rw[if_pos (by omega)]
  .rfl
theorem aRv(ls:List Line): nZ (12*12)=rD ls 0:=by
 unfold rD nZ aLD;rw[show(Int.toNat 0)=0 from rfl,qCe,List.foldl_nil]
 apply yE;intro i hi;rw[if_pos (by have:=vN.1 hi;omega)]
theorem aHY(ls:List Line)(k:Int): (rD ls k).length=144:=aCH _
theorem aLw{ls:List Line}{k:Int}(h0:0<=k)(h1:k<ls.length)(d:Line): rX (rD ls k) (ls.getD k.toNat d).2.1 (ls.getD k.toNat d).2.2.1 (ls.getD k.toNat d).2.2.2.2.1=rD ls (k+1):=by
 unfold rD;rw[show(k+1).toNat=k.toNat+1 by omega,wV,qA,qB (show k.toNat<ls.length by omega),qBk]
 rfl
theorem aOm(ls:List Line){k:Int}(h:¬k<ls.length): rD ls k=fwD ls 0 0 0:=by
 unfold rD;rw[qO (by omega)];rfl
theorem aG8(ls:List Line)(o a b:Int): (fwD ls o a b).length=144:=aDo ls _
theorem aZX{ls:List Line}{o a:Int}: fwD ls o a 12=fwD ls o (a+1) 0:=by
 unfold fwD;congr 2;omega
theorem aZY{ls:List Line}{o:Int}: fwD ls o 12 0=fwD ls (o+1) 0 0:=by
 unfold fwD;congr 2;omega
theorem aM1{ls:List Line}{o a b:Int}(o0:0<=o)(o1:o<12)(a0:0<=a)(a1:a<12)(b0:0<=b)(b1:b<12): fwD ls o a (b+1)=aHv (fwD ls o a b) (o.toNat*144+a.toNat*12+b.toNat):=by
 unfold fwD;rw[show(o*144+a*12+(b+1)).toNat=(o.toNat*144+a.toNat*12+b.toNat)+1 by omega,show(o*144+a*12+b).toNat=o.toNat*144+a.toNat*12+b.toNat by omega,aH8]
theorem aZW{ls:List Line}{o a b:Int}(o0:0<=o)(o1:o<12)(a0:0<=a)(a1:a<12)(b0:0<=b)(b1:b<12)
  (h1:(fwD ls o a b).getD (a.toNat*12+o.toNat) 0≠-1) (h2:(fwD ls o a b).getD (o.toNat*12+b.toNat) 0≠-1):
  rX (fwD ls o a b) a b ((fwD ls o a b).getD (a.toNat*12+o.toNat) 0+(fwD ls o a b).getD (o.toNat*12+b.toNat) 0)=fwD ls o a (b+1):=by
 rw[aM1 o0 o1 a0 a1 b0 b1];unfold aHv;rw[show(o.toNat*144+a.toNat*12+b.toNat)/12%12=a.toNat by omega,show(o.toNat*144+a.toNat*12+b.toNat)/144=o.toNat by omega,show(o.toNat*144+a.toNat*12+b.toNat)%12=b.toNat by omega]
 unfold cell;rw[show((fwD ls o a b).getD (a.toNat*12+o.toNat) 0 != -1&&(fwD ls o a b).getD (o.toNat*12+b.toNat) 0 != -1)=true by simp only[qC,qCv];exact⟨h1,h2⟩,qCj]
 unfold rX;rw[vC a0,vC b0]
theorem bDb{ls:List Line}{o a b:Int}(o0:0<=o)(o1:o<12)(a0:0<=a)(a1:a<12)(b0:0<=b)(b1:b<12)
  (h:(fwD ls o a b).getD (a.toNat*12+o.toNat) 0≠-1->(fwD ls o a b).getD (o.toNat*12+b.toNat) 0=-1):fwD ls o a b=fwD ls o a (b+1):=by
 rw[aM1 o0 o1 a0 a1 b0 b1];unfold aHv;rw[show(o.toNat*144+a.toNat*12+b.toNat)/12%12=a.toNat by omega,show(o.toNat*144+a.toNat*12+b.toNat)/144=o.toNat by omega,show(o.toNat*144+a.toNat*12+b.toNat)%12=b.toNat by omega]
 unfold cell;rw[show((fwD ls o a b).getD (a.toNat*12+o.toNat) 0 != -1&&(fwD ls o a b).getD (o.toNat*12+b.toNat) 0 != -1)=false by
  rw[Bool.and_eq_false_imp];intro g;rw[qCv]at g;rw[h g];rfl,qBy]
theorem aPW(cs:LC)(ns os:LB)(fs:List Off)(ls:List Line)(ks:List Cla): aB Tryz.prog G0 130 [net cs ns os fs ls ks] [] ⟨noP (cs,ns,os,fs,ls,ks),.av I (dY ls),[]⟩:=by
 refine aA (c:=mkc K13) bG7 bD hm (aNz cs ns os fs ls ks ⟨rfl,λhp=>?_⟩)
 obtain⟨ok,hls⟩:=aCG cs ns os fs ls ks hp;simp only[qc,Di,Es,Dk,qd,Dt,Ea,Eb,Dp,Ei,Eh,Ed,Ew,Df,Et,Dl,Dn,Eo,Dy,Dw,Dh,Dq,Ee,Fg,Dc,Dx,Dj,Dz,Ej,Du,Eu,Ez,En,Ef,Fe,Fj,Fh,Ep,Em,Ey,Fb];have z12:upN 0 12:=⟨by decide,by decide⟩
 refine⟨⟨0,z12,rfl,aOx⟩,λx ⟨x0,x1⟩=>⟨λhx=>⟨⟨0,z12,rfl,by rw[Int.add_zero]⟩,λy ⟨y0,y1⟩=>⟨λhy=>⟨λhne=>?_,λhe=>?_⟩,λhy=>?_⟩⟩,λhx=>?_⟩⟩
 .have:=aDU (12*x+y)
  and_intros
  all_goals try omega
  exact⟨y+1,⟨by omega,by omega⟩,⟨rfl,aRu x0 hx y0 hy hne⟩,by omega⟩
 .subst he;exact⟨⟨by omega,by omega⟩,x+1,⟨by omega,by omega⟩,⟨rfl,aOy x0 hx⟩,by omega⟩
 .have:y=12:=by omega
  subst this;exact⟨⟨by omega,by omega⟩,x+1,⟨by omega,by omega⟩,⟨rfl,by congr 1;omega⟩,by omega⟩
 have ex:x=12:=by omega
 subst ex;refine⟨⟨0,⟨qL _,qR _⟩,rfl,aRv ls⟩,λk ⟨k0,k1⟩=>⟨λhk=>?_,λhk=>?_⟩⟩
 .have ho:=ok.at_ _ (getD_mem (l:=ls) (i:=k.toNat) (d:=(⟨#[]⟩,0,0,0,0,0)) (by omega))
  have hn:=ok.n12;unfold fA lTo at ho;have e1:=aHY ls k;refine⟨k0,hk,⟨by omega,by omega,by omega,by omega,e1⟩,by rw[aAh]<;>exact qK _,⟨by omega,by omega⟩,k+1,⟨by omega,by omega⟩,⟨rfl,aLw k0 hk _⟩,by omega⟩
 refine⟨⟨0,z12,rfl,aOm ls hk⟩,λo ⟨o0,o1⟩=>⟨λho=>⟨⟨0,z12,rfl,rfl⟩,λa ⟨a0,a1⟩=>⟨λha=>⟨⟨0,z12,rfl,rfl⟩,λb ⟨b0,b1⟩=>⟨λhb=>?_,λhb=>?_⟩⟩,λha=>?_⟩⟩,λho=>?_⟩⟩
 .have e1:=aG8 ls o a b;have bd1:=aJ2 ok (k:=(o*144+a*12+b).toNat) (by omega) (a:=a.toNat) (b:=o.toNat) (by omega) (by omega)
  have bd2:=aJ2 ok (k:=(o*144+a*12+b).toNat) (by omega) (a:=o.toNat) (b:=b.toNat) (by omega) (by omega)
  have bd1:-1<=(fwD ls o a b).getD (a.toNat*12+o.toNat) 0/\(fwD ls o a b).getD (a.toNat*12+o.toNat) 0<=20480000:=bd1;have bd2:-1<=(fwD ls o a b).getD (o.toNat*12+b.toNat) 0/\(fwD ls o a b).getD (o.toNat*12+b.toNat) 0<=20480000:=bd2
  and_intros
  all_goals try (intros;omega)
  .rintro⟨h1,h2⟩;have e2:=aAh (fwD ls o a b) a b ((fwD ls o a b).getD (a.toNat*12+o.toNat) 0+(fwD ls o a b).getD (o.toNat*12+b.toNat) 0);have e3:=aZW o0 ho a0 ha b0 hb h1 h2
   and_intros
   all_goals try omega
   exact⟨b+1,⟨by omega,by omega⟩,⟨rfl,e3⟩,by omega⟩
  .intro h;exact⟨⟨by omega,by omega⟩,b+1,⟨by omega,by omega⟩,⟨rfl,bDb o0 ho a0 ha b0 hb h⟩,by omega⟩
 .have:b=12:=by omega
  subst this;exact⟨⟨by omega,by omega⟩,a+1,⟨by omega,by omega⟩,⟨rfl,aZX⟩,by omega⟩
 .have:a=12:=by omega
  subst this;exact⟨⟨by omega,by omega⟩,o+1,⟨by omega,by omega⟩,⟨rfl,aZY⟩,by omega⟩
 .have:o=12:=by omega
  subst this;have e1:=aG8 ls 12 0 0;have e2:(Fz 144 (0:Int)).length=144:=wJ
  and_intros
  all_goals try omega
  rfl
theorem bG6: aI Tryz.prog G0 K14:=aH (aC λ((cs,ns,os,fs,ls,ks),_)=>aPW cs ns os fs ls ks) bG7
end Go.Eng.Sv
