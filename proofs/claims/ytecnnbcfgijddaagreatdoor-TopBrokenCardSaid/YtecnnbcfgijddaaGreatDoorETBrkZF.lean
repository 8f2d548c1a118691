/- ClKp -/
import Derived.Test.YtecnnbcfgijddaaGreatDoorETBrkZD
set_option linter.unusedSimpArgs false
set_option linter.unusedVariables false
set_option maxRecDepth 100000
noncomputable section
namespace Go.Eng.Sv
open Go.Proofs
def zq9:Plan:=(0,5,zNx,zDy)
def zm9(xs:Li):Mem:=[(2,.var (wHd zN zq9 (.buf 3 xs.length))),(3,.buf 3 I xs [])]
def mi9(m:Mem)(ys:Li):Bool:=match m with
 |[(2,.var cs),(3,.buf 3 (.int .i64) xs [])]=>(match aFA cs with|some (n,p,.buf 3 j)=>Ty.eqb N n zN&&Ty.eqb Pl p zq9&&j==ys.length|_=>false)&&decide ((xs:Li)=ys)
 |_=>false
theorem me9{m:Mem}{ys:Li}(h:mi9 m ys=true):m=zm9 ys:=by
 unfold mi9 at h;split at h
 ·rw[Bool.and_eq_true]at h;obtain⟨h1,h2⟩:=h;split at h1
  ·rename_i n p j e;simp only[Bool.and_eq_true,beq_iff_eq]at h1;obtain⟨⟨g1,g2⟩,g3⟩:=h1;rw[aAW e,(Ty.eqb_iff N n zN).1 g1,(Ty.eqb_iff Pl p zq9).1 g2,g3,of_decide_eq_true h2];rfl
  ·cases h1
 ·cases h
abbrev kq9:=Int×Int×Li×Li
def aq9(q:kq9):List AV:=[.dat I (0:Int),.dat I q.1,.dat I q.2.1]
def ai9(l:List AV)(q:kq9):Bool:=match l with|.ptr 2 1 0 0::r=>AV.sameL r (aq9 q)|_=>false
def um9(q:kq9):Mem:=if q.2.2.1=q.2.2.2 then[]else zm9 q.2.2.2
def ks9(q:kq9):Prop:=aj Tryz.prog G0 192 (.ptr 2 1 0 0::aq9 q) (zm9 q.2.2.1) ⟨True,.tup [],um9 q⟩
def kk9(L:List kq9)(K:Kt):Kt:=λf l m=>match L.find? (λq=>f==192&&ai9 l q&&mi9 m q.2.2.1)with|some q=>some ⟨True,.tup [],um9 q⟩|none=>K f l m
theorem ko9{L:List kq9}{K:Kt}(h:∀q∈L,ks9 q)(u:ay Tryz.prog G0 K):ay Tryz.prog G0 (kk9 L K):=by
 intro f l m r e;unfold kk9 at e;split at e
 ·rename_i q hq;cases e;have g:=List.find?_some hq;simp only[Bool.and_eq_true,beq_iff_eq]at g;obtain⟨⟨g1,g2⟩,g3⟩:=g;unfold ai9 at g2;split at g2
  ·rw[g1,AV.sameL_eq g2,me9 g3];exact h q (List.mem_of_find?_eq_some hq)
  ·cases g2
 ·exact u f l m r e
def ka9(q:kq9):Bool:=match Kc (cB l0) cnZ aGw 20 192 (.ptr 2 1 0 0::aq9 q) (zm9 q.2.2.1)with
 |some r=>r.pre.b&&AV.same r.ret (.tup [])&&(if q.2.2.1=q.2.2.2 then r.upd.isEmpty else mi9 r.upd q.2.2.2)|none=>false
theorem kr9{q:kq9}(h:ka9 q=true):ks9 q:=by
 unfold ka9 at h;split at h
 ·rename_i r e;simp only[Bool.and_eq_true]at h;obtain⟨⟨h1,h2⟩,h3⟩:=h;have g:=aA5 (c:=cB l0) (cn:=cnZ) (how:=aGw) (YJ RX aFQ) aDs hm (λ_ _ _ _ h=>by cases h) 20 192 _ _ r e;obtain⟨p,v,u⟩:=r;obtain rfl:=AV.same_eq h2;have hu:u=um9 q:=by
   unfold um9;split
   ·rename_i k;rw[if_pos k]at h3;exact List.isEmpty_iff.1 h3
   ·rename_i k;rw[if_neg k]at h3;exact me9 h3
  subst hu;exact λ_=>g (p.h h1)
 ·cases h
def xa9:Li:=zC.take 12
def xb9:Li:=zC.take 17
theorem k19:ks9 (0,0,xa9,xa9):=kr9 (by kernel_rfl)
theorem k29:ks9 (0,1,xa9,xb9):=kr9 (by kernel_rfl)
theorem k39:ks9 (1,0,xb9,zC):=kr9 (by kernel_rfl)
theorem k49:ks9 (1,1,zC,zC):=kr9 (by kernel_rfl)
end Go.Eng.Sv
