/- ClKp -/
import Derived.Test.YtecnnbcfgijddaaGreatDoorETPrmZD
set_option linter.unusedSimpArgs false
set_option linter.unusedVariables false
set_option maxRecDepth 100000
noncomputable section
namespace Go.Eng.Sv
open Go.Proofs
def zQ9:Plan:=(0,5,zNx,zDy)
def zM9(xs:Li):Mem:=[(2,.var (wHd zN zQ9 (.buf 3 xs.length))),(3,.buf 3 I xs [])]
def mI9(m:Mem)(f:Li):Bool:=match m with
 |[(2,.var h),(3,.buf 3 (.int .i64) xs [])]=>(match aEl h with|some (n,p,.buf 3 j)=>Ty.eqb N n zN&&Ty.eqb Pl p zQ9&&j==f.length|_=>false)&&decide ((xs:Li)=f)
 |_=>false
theorem YW{m:Mem}{u:Li}(h:mI9 m u=true):m=zM9 u:=by
 unfold mI9 at h;split at h;rw[qC]at h;obtain⟨f,y⟩:=h;split at f;rename_i n p j e;simp only[qC,yJ]at f;obtain⟨⟨G,A⟩,z⟩:=f;rw[Uw e,(Ty.eqb_iff N n zN).1 G,(Ty.eqb_iff Pl p zQ9).1 A,z,vJ y];rfl;cases f;cases h
abbrev KQ9:=Int×Int×Li×Li
def aQ9(q:KQ9):List AV:=[.dat I (0:Int),.dat I q.1,.dat I q.2.1]
def aI9(l:List AV)(q:KQ9):Bool:=match l with|.ptr 2 1 0 0::r=>AV.sameL r (aQ9 q)|_=>false
def uM9(q:KQ9):Mem:=if q.2.2.1=q.2.2.2 then[]else zM9 q.2.2.2
def kpS(q:KQ9):Prop:=aj Tryz.prog G0 192 (.ptr 2 1 0 0::aQ9 q) (zM9 q.2.2.1) ⟨True,.tup [],uM9 q⟩
def kpK(L:List KQ9)(K:Kt):Kt:=λf l m=>match L.find? (λq=>f==192&&aI9 l q&&mI9 m q.2.2.1)with|some q=>some ⟨True,.tup [],uM9 q⟩|none=>K f l m
theorem aCV{L:List KQ9}{K:Kt}(h:∀q∈L,kpS q)(y:ay Tryz.prog G0 K):ay Tryz.prog G0 (kpK L K):=by
 intro f l m r e;unfold kpK at e;split at e;rename_i q u;cases e;have g:=qAz u;simp only[qC,yJ]at g;obtain⟨⟨A,j⟩,z⟩:=g;unfold aI9 at j;split at j;rw[A,AV.sameL_eq j,YW z];exact h q (List.mem_of_find?_eq_some u);cases j;exact y f l m r e
def kpA(q:KQ9):Bool:=match Kc (cB l0) cnZ aD9 20 192 (.ptr 2 1 0 0::aQ9 q) (zM9 q.2.2.1)with|some r=>r.pre.b&&AV.same r.ret (.tup [])&&(if q.2.2.1=q.2.2.2 then r.upd.isEmpty else mI9 r.upd q.2.2.2)|none=>false
theorem LJ{q:KQ9}(h:kpA q=true):kpS q:=by
 unfold kpA at h;split at h;rename_i r e;simp only[qC]at h;obtain⟨⟨z,y⟩,f⟩:=h;have g:=Yn (c:=cB l0) (cn:=cnZ) (how:=aD9) (LK Oz aBt) UK hm (λ_ _ _ _ h=>by cases h) 20 192 _ _ r e;obtain⟨p,v,u⟩:=r;obtain rfl:=AV.same_eq y;have j:u=uM9 q:=by
  unfold uM9;split;rename_i k;rw[if_pos k]at f;exact wX.1 f;rename_i k;rw[if_neg k]at f;exact YW f
 subst j;exact λ_=>g (p.h z);cases h
def xa9:Li:=zC.take 12
def xb9:Li:=zC.take 17
theorem kp1:kpS (0,0,xa9,xa9):=LJ (by kernel_rfl)
theorem kp2:kpS (0,1,xa9,xb9):=LJ (by kernel_rfl)
theorem kp3:kpS (1,0,xb9,zC):=LJ (by kernel_rfl)
theorem kp4:kpS (1,1,zC,zC):=LJ (by kernel_rfl)
end Go.Eng.Sv
