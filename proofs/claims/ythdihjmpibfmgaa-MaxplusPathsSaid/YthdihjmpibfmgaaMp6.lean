/- PeMp6 -/
import Derived.Test.YthdihjmpibfmgaaEng18
import Derived.Test.YthdihjmpibfmgaaMp5
namespace Go.Eng.Mp
open Go.Proofs

noncomputable def K9 : Kt := fun f args => match f, args with
  | 16, [.dat (.sl (.sl (.int .i64))) a, .dat (.sl (.sl (.int .i64))) b] => some ⟨lensOk a, .dat .bool (sameF a b)⟩
  | 18, [.dat (.sl (.sl (.int .i64))) m] => some ⟨True, .dat .bool (validF m)⟩
  | 17, [.dat (.sl (.sl (.int .i64))) m] => some ⟨True, .dat .bool (validF m)⟩
  | 27, [.dat (.sl (.sl (.int .i64))) m] => some ⟨cleanP m, .dat M (cleanF m)⟩
  | 28, [.dat (.sl (.sl (.int .i64))) a, .dat (.sl (.sl (.int .i64))) b] => some ⟨lensOk a, .dat .bool (belowF a b)⟩
  | _, _ => K8 f args
noncomputable def c9 : Cfg := ⟨Try.prog, K9, fun _ => false⟩

theorem vc_fine (m : List (List Int)) (h :
     true = true ∧ true = true ∧ (True → fewP (10 : Int) ∧ (fewF m (10 : Int) = true → fewF m (10 : Int) = true → fewF m (10 : Int) = true) ∧ (fewF m (10 :
    Int) = true → True) ∧ (D.and true (fewF m (10 : Int)) = true → fewF m (10 : Int) = true) ∧ D.cnd (fewF m (10 : Int)) (validF m) false = fineF m ∧ True)) :
    evF c9 noAnn 26 [.dat M m] ⟨True, .dat .bool (fineF m)⟩ := of_eq (by kernel_rfl) h

end Go.Eng.Mp
