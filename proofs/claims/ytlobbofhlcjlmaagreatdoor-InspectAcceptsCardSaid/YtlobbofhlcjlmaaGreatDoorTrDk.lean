/- PeTr5k, PeTrDk -/
import Derived.Test.YtlobbofhlcjlmaaGreatDoorH22
import Derived.Test.YtlobbofhlcjlmaaGreatDoorTr4k
set_option linter.unusedSimpArgs false
set_option linter.unusedVariables false
set_option maxRecDepth 100000
namespace Go.Eng.Sv
open Go.Proofs
noncomputable def aRj (args:List AV) (m:Mem):Option pF:=match args,m with
 | [.ifc t (.dat (.int .i64) e)],[]=>if t=39 then some ⟨True,.dat I e,[]⟩ else none
 | _,_=>none
end Go.Eng.Sv

set_option maxRecDepth 100000
namespace Go.Eng.Sv
open Go.Proofs
noncomputable def aTK (w:List Bool) (h:List Int):Nat→Int→Option Int
 | 0,d=>some d
 | n + 1,d=>(rY w h (d + 1)).bind (aTK w h n)
noncomputable def jL (n:Net) (k:Int):Cla:=n.2.2.2.2.2.getD k.toNat (⟨#[]⟩,0,0)
noncomputable def aJj (n:Net) (k:Int):Prop:=0≤k∧k < n.2.2.2.2.2.length
theorem aHn (cs:LC) (ns os:LB) (fs:List Off) (ls:List Line) (ks:List Cla) (h:noF (cs,ns,os,fs,ls,ks)=true):∀ x ∈ ks,lM x=true :=
 ((qB (by decide) (fun l:Cla=>l.1) lM ks).1 (pX cs ns os fs ls ks h).2.2.2.2.2).2.2.2
theorem aB1 (cs:LC) (ns os:LB) (fs:List Off) (ls:List Line) (ks:List Cla) {k:Int} (h:noF (cs,ns,os,fs,ls,ks)=true) (hk:aJj (cs,ns,os,fs,ls,ks) k):(0≤(jL (cs,ns,os,fs,ls,ks) k).2.1∧(jL (cs,ns,os,fs,ls,ks) k).2.1≤1439)∧0≤(jL (cs,ns,os,fs,ls,ks) k).2.2∧(jL (cs,ns,os,fs,ls,ks) k).2.2≤1439:=by
 obtain ⟨k0,k1⟩:=hk
 have k1:k < (ks.length:Int):=k1
 have hm:jL (cs,ns,os,fs,ls,ks) k ∈ ks:=by
  show ks.getD k.toNat _ ∈ ks
  rw [List.getD_eq_getElem?_getD,List.getElem?_eq_getElem (by omega),Option.getD_some]
  exact List.getElem_mem _
 have:=aHn cs ns os fs ls ks h _ hm
 unfold lM iW at this
 simp only [Bool.and_eq_true,decide_eq_true_eq] at this
 omega
theorem aLE {w:List Bool} {h:List Int}:∀ (k:Nat) {d e:Int},aTK w h k d=some e→d≤e∧e≤d + 61 * k
 | 0,d,e,g=>by cases g;omega
 | k + 1,d,e,g=>by
  unfold aTK at g
  obtain ⟨y,h1,h2⟩:=Option.bind_eq_some_iff.1 g
  have hm:y ∈ jF w h (d + 1) 60:=List.mem_of_mem_head? (by unfold rY at h1;rw [h1];rfl)
  have:=aBz hm
  have:=aLE k h2
  omega
end Go.Eng.Sv
