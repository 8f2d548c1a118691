/- PeSv3k -/
import Derived.Test.YtlobbofhlcjlmaaGreatDoorH22
import Derived.Test.YtlobbofhlcjlmaaGreatDoorSvDist
import Derived.Test.YtlobbofhlcjlmaaGreatDoorSv2k
set_option linter.unusedSimpArgs false
set_option linter.unusedVariables false
set_option maxRecDepth 100000
noncomputable section
namespace Go.Eng.Sv
open Go.Proofs
abbrev M:Ty:=.sl R
def upN (k n:Int):Prop:=0≤k∧k≤n
def noF (n:Net):Bool:=(jU n).isEmpty
def K8:Kt:=kOr 81 (aK1 [.row N] (fun _=>True) (fun (n,_)=>.buf 0 (D.len (jU n))) fun (n,_)=>.buf 118 Fa (jU n) []) K7
def K12:Kt:=K8
theorem KS8:aQ Tryz.prog G0 K8:=aJ (aKZ fun ((cs,ns,os,fs,ls,ks),_)=>aMU cs ns os fs ls ks) KS7
theorem getD_mem {α:Type} {l:List α} {i:Nat} {d:α} (h:i < l.length):l.getD i d ∈ l:=by
 rw [List.getD_eq_getElem?_getD,List.getElem?_eq_getElem h]
 exact List.getElem_mem h
theorem aEY (k:Int):4≤nJ k∧nJ k≤40:=by unfold nJ;split <;> (try split) <;> (try split) <;> omega
theorem aDJ {n:Net} {k:Int} (h:1≤k):nN n (k + 1)=nN n k ++ dH k (nJ k) (aKC n k) (aKV n k):=by
 unfold nN
 rw [show (k + 1).toNat - 1=(k.toNat - 1) + 1 by omega,List.range_succ,List.flatMap_append,← List.append_assoc]
 congr 1
 simp only [List.flatMap_cons,List.flatMap_nil,List.append_nil]
 rw [show ((k.toNat - 1:Nat):Int) + 1=k by omega]
theorem aFh (n:Net):∀ (j:Nat),(nN n (j + 1)).length≤1 + 41 * j
 | 0=>by
  have e:nN n ((0:Nat) + 1)=aGy n:=by unfold nN;simp
  rw [e];unfold aGy;split <;> simp
 | j + 1=>by
  have ih:=aFh n j
  have e:=aDJ (n:=n) (k:=(j:Int) + 1) (by omega)
  have h1:=(aEY ((j:Int) + 1)).1
  have h2:=(aEY ((j:Int) + 1)).2
  have:=oI ((j:Int) + 1) (nJ ((j:Int) + 1)) (aKC n ((j:Int) + 1)) (aKV n ((j:Int) + 1)) (by omega)
  rw [show (((j + 1:Nat):Int) + 1)=(j:Int) + 1 + 1 by omega,e,List.length_append]
  omega
theorem aV4:aQ Tryz.prog G0 K12:=KS8
end Go.Eng.Sv
