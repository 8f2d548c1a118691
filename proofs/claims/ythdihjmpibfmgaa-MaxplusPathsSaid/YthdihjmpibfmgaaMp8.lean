/- PeMp8 -/
import Derived.Test.YthdihjmpibfmgaaEng18
import Derived.Test.YthdihjmpibfmgaaMp7
namespace Go.Eng.Mp
open Go.Proofs
noncomputable def K11 : Kt := fun f args => match f, args with
  | 13, [.dat (.int .i64) n] => some ⟨small n, .dat M (oneF n)⟩
  | 29, [.dat (.sl (.sl (.int .i64))) m] => some ⟨cleanP m, .dat .bool (mildF m)⟩
  | _, _ => K10 f args
noncomputable def c11 : Cfg := ⟨Try.prog, K11, fun _ => false⟩
noncomputable def colA (v : List Int) : Ann := ⟨fun id s => match id with
  | 10 => some { α := Int, inv := fun k => kTo k (D.ilen v), st := fun k => put s [(11, .dat I k)], μ := fun k => D.nat (D.sub (D.ilen v) k) }
  | _ => none, fun _ _ => none, fun _ _ => none⟩
theorem vc_Products (a b c : List (List Int)) (h :
     true = true ∧ true = true ∧ (True → True ∧ True ∧ (D.not (D.not (fineF a)) = true → D.not (D.not (fineF a)) = true → D.not (D.not (fineF a)) = true)
    ∧ (D.not (D.not (fineF a)) = true → True) ∧ (D.not (D.not (fineF a)) = true → D.not (D.not (fineF a)) = true → D.not (D.not (fineF a)) = true) ∧ (D.and true
    (D.not (D.not (fineF a))) = true → D.not (D.not (fineF a)) = true) ∧ (D.not (D.cnd (D.not (fineF a)) true (D.not (fineF b))) = true → D.not (D.cnd (D.not (fineF
    a)) true (D.not (fineF b))) = true → D.not (D.cnd (D.not (fineF a)) true (D.not (fineF b))) = true) ∧ (D.not (D.cnd (D.not (fineF a)) true (D.not (fineF b))) =
    true → True) ∧ (D.not (D.cnd (D.not (fineF a)) true (D.not (fineF b))) = true → D.not (D.cnd (D.not (fineF a)) true (D.not (fineF b))) = true → D.not (D.cnd
    (D.not (fineF a)) true (D.not (fineF b))) = true) ∧ (D.and true (D.not (D.cnd (D.not (fineF a)) true (D.not (fineF b)))) = true → D.not (D.cnd (D.not (fineF a))
    true (D.not (fineF b))) = true) ∧ (D.not (D.cnd (D.cnd (D.not (fineF a)) true (D.not (fineF b))) true (D.not (fineF c))) = true → D.not (D.cnd (D.cnd (D.not
    (fineF a)) true (D.not (fineF b))) true (D.not (fineF c))) = true → D.not (D.cnd (D.cnd (D.not (fineF a)) true (D.not (fineF b))) true (D.not (fineF c))) =
    true) ∧ (D.not (D.cnd (D.cnd (D.not (fineF a)) true (D.not (fineF b))) true (D.not (fineF c))) = true → D.not (D.cnd (D.cnd (D.not (fineF a)) true (D.not (fineF
    b))) true (D.not (fineF c))) = true → D.not (D.cnd (D.cnd (D.not (fineF a)) true (D.not (fineF b))) true (D.not (fineF c))) = true) ∧ (D.not (D.cnd (D.cnd
    (D.not (fineF a)) true (D.not (fineF b))) true (D.not (fineF c))) = true → D.not (D.cnd (D.cnd (D.not (fineF a)) true (D.not (fineF b))) true (D.not (fineF c)))
    = true → D.not (D.cnd (D.cnd (D.not (fineF a)) true (D.not (fineF b))) true (D.not (fineF c))) = true) ∧ (D.not (D.cnd (D.cnd (D.not (fineF a)) true (D.not
    (fineF b))) true (D.not (fineF c))) = true → D.not (D.cnd (D.cnd (D.not (fineF a)) true (D.not (fineF b))) true (D.not (fineF c))) = true → D.not (D.cnd (D.cnd
    (D.not (fineF a)) true (D.not (fineF b))) true (D.not (fineF c))) = true) ∧ (D.and true (D.not (D.cnd (D.cnd (D.not (fineF a)) true (D.not (fineF b))) true
    (D.not (fineF c)))) = true → D.not (D.cnd (D.cnd (D.not (fineF a)) true (D.not (fineF b))) true (D.not (fineF c))) = true) ∧ (D.not (D.cnd (D.cnd (D.cnd (D.not
    (fineF a)) true (D.not (fineF b))) true (D.not (fineF c))) true (D.ne (D.ilen a) (D.ilen b))) = true → D.not (D.cnd (D.cnd (D.cnd (D.not (fineF a)) true (D.not
    (fineF b))) true (D.not (fineF c))) true (D.ne (D.ilen a) (D.ilen b))) = true → D.not (D.cnd (D.cnd (D.cnd (D.not (fineF a)) true (D.not (fineF b))) true (D.not
    (fineF c))) true (D.ne (D.ilen a) (D.ilen b))) = true) ∧ (D.not (D.cnd (D.cnd (D.cnd (D.not (fineF a)) true (D.not (fineF b))) true (D.not (fineF c))) true
    (D.ne (D.ilen a) (D.ilen b))) = true → D.not (D.cnd (D.cnd (D.cnd (D.not (fineF a)) true (D.not (fineF b))) true (D.not (fineF c))) true (D.ne (D.ilen a)
    (D.ilen b))) = true → D.not (D.cnd (D.cnd (D.cnd (D.not (fineF a)) true (D.not (fineF b))) true (D.not (fineF c))) true (D.ne (D.ilen a) (D.ilen b))) = true) ∧
    (D.not (D.cnd (D.cnd (D.cnd (D.not (fineF a)) true (D.not (fineF b))) true (D.not (fineF c))) true (D.ne (D.ilen a) (D.ilen b))) = true → D.not (D.cnd (D.cnd
    (D.cnd (D.not (fineF a)) true (D.not (fineF b))) true (D.not (fineF c))) true (D.ne (D.ilen a) (D.ilen b))) = true → D.not (D.cnd (D.cnd (D.cnd (D.not (fineF
    a)) true (D.not (fineF b))) true (D.not (fineF c))) true (D.ne (D.ilen a) (D.ilen b))) = true) ∧ (D.not (D.cnd (D.cnd (D.cnd (D.not (fineF a)) true (D.not
    (fineF b))) true (D.not (fineF c))) true (D.ne (D.ilen a) (D.ilen b))) = true → D.not (D.cnd (D.cnd (D.cnd (D.not (fineF a)) true (D.not (fineF b))) true (D.not
    (fineF c))) true (D.ne (D.ilen a) (D.ilen b))) = true → D.not (D.cnd (D.cnd (D.cnd (D.not (fineF a)) true (D.not (fineF b))) true (D.not (fineF c))) true (D.ne
    (D.ilen a) (D.ilen b))) = true) ∧ (D.and true (D.not (D.cnd (D.cnd (D.cnd (D.not (fineF a)) true (D.not (fineF b))) true (D.not (fineF c))) true (D.ne (D.ilen
    a) (D.ilen b)))) = true → D.not (D.cnd (D.cnd (D.cnd (D.not (fineF a)) true (D.not (fineF b))) true (D.not (fineF c))) true (D.ne (D.ilen a) (D.ilen b))) =
    true) ∧ (D.not (D.cnd (D.cnd (D.cnd (D.cnd (D.not (fineF a)) true (D.not (fineF b))) true (D.not (fineF c))) true (D.ne (D.ilen a) (D.ilen b))) true (D.ne
    (D.ilen b) (D.ilen c))) = true → D.not (D.cnd (D.cnd (D.cnd (D.cnd (D.not (fineF a)) true (D.not (fineF b))) true (D.not (fineF c))) true (D.ne (D.ilen a)
    (D.ilen b))) true (D.ne (D.ilen b) (D.ilen c))) = true → D.not (D.cnd (D.cnd (D.cnd (D.cnd (D.not (fineF a)) true (D.not (fineF b))) true (D.not (fineF c)))
    true (D.ne (D.ilen a) (D.ilen b))) true (D.ne (D.ilen b) (D.ilen c))) = true) ∧ (D.not (D.cnd (D.cnd (D.cnd (D.cnd (D.not (fineF a)) true (D.not (fineF b)))
    true (D.not (fineF c))) true (D.ne (D.ilen a) (D.ilen b))) true (D.ne (D.ilen b) (D.ilen c))) = true → cleanP a) ∧ (D.not (D.cnd (D.cnd (D.cnd (D.cnd (D.not
    (fineF a)) true (D.not (fineF b))) true (D.not (fineF c))) true (D.ne (D.ilen a) (D.ilen b))) true (D.ne (D.ilen b) (D.ilen c))) = true → D.not (D.cnd (D.cnd
    (D.cnd (D.cnd (D.not (fineF a)) true (D.not (fineF b))) true (D.not (fineF c))) true (D.ne (D.ilen a) (D.ilen b))) true (D.ne (D.ilen b) (D.ilen c))) = true →
    D.not (D.cnd (D.cnd (D.cnd (D.cnd (D.not (fineF a)) true (D.not (fineF b))) true (D.not (fineF c))) true (D.ne (D.ilen a) (D.ilen b))) true (D.ne (D.ilen b)
    (D.ilen c))) = true) ∧ (D.and true (D.not (D.cnd (D.cnd (D.cnd (D.cnd (D.not (fineF a)) true (D.not (fineF b))) true (D.not (fineF c))) true (D.ne (D.ilen a)
    (D.ilen b))) true (D.ne (D.ilen b) (D.ilen c)))) = true → D.not (D.cnd (D.cnd (D.cnd (D.cnd (D.not (fineF a)) true (D.not (fineF b))) true (D.not (fineF c)))
    true (D.ne (D.ilen a) (D.ilen b))) true (D.ne (D.ilen b) (D.ilen c))) = true) ∧ (D.not (D.cnd (D.cnd (D.cnd (D.cnd (D.cnd (D.not (fineF a)) true (D.not (fineF
    b))) true (D.not (fineF c))) true (D.ne (D.ilen a) (D.ilen b))) true (D.ne (D.ilen b) (D.ilen c))) true (D.not (mildF a))) = true → D.not (D.cnd (D.cnd (D.cnd
    (D.cnd (D.cnd (D.not (fineF a)) true (D.not (fineF b))) true (D.not (fineF c))) true (D.ne (D.ilen a) (D.ilen b))) true (D.ne (D.ilen b) (D.ilen c))) true
    (D.not (mildF a))) = true → D.not (D.cnd (D.cnd (D.cnd (D.cnd (D.cnd (D.not (fineF a)) true (D.not (fineF b))) true (D.not (fineF c))) true (D.ne (D.ilen a)
    (D.ilen b))) true (D.ne (D.ilen b) (D.ilen c))) true (D.not (mildF a))) = true) ∧ (D.not (D.cnd (D.cnd (D.cnd (D.cnd (D.cnd (D.not (fineF a)) true (D.not (fineF
    b))) true (D.not (fineF c))) true (D.ne (D.ilen a) (D.ilen b))) true (D.ne (D.ilen b) (D.ilen c))) true (D.not (mildF a))) = true → cleanP b) ∧ (D.not (D.cnd
    (D.cnd (D.cnd (D.cnd (D.cnd (D.not (fineF a)) true (D.not (fineF b))) true (D.not (fineF c))) true (D.ne (D.ilen a) (D.ilen b))) true (D.ne (D.ilen b) (D.ilen
    c))) true (D.not (mildF a))) = true → D.not (D.cnd (D.cnd (D.cnd (D.cnd (D.cnd (D.not (fineF a)) true (D.not (fineF b))) true (D.not (fineF c))) true (D.ne
    (D.ilen a) (D.ilen b))) true (D.ne (D.ilen b) (D.ilen c))) true (D.not (mildF a))) = true → D.not (D.cnd (D.cnd (D.cnd (D.cnd (D.cnd (D.not (fineF a)) true
    (D.not (fineF b))) true (D.not (fineF c))) true (D.ne (D.ilen a) (D.ilen b))) true (D.ne (D.ilen b) (D.ilen c))) true (D.not (mildF a))) = true) ∧ (D.and true
    (D.not (D.cnd (D.cnd (D.cnd (D.cnd (D.cnd (D.not (fineF a)) true (D.not (fineF b))) true (D.not (fineF c))) true (D.ne (D.ilen a) (D.ilen b))) true (D.ne
    (D.ilen b) (D.ilen c))) true (D.not (mildF a)))) = true → D.not (D.cnd (D.cnd (D.cnd (D.cnd (D.cnd (D.not (fineF a)) true (D.not (fineF b))) true (D.not (fineF
    c))) true (D.ne (D.ilen a) (D.ilen b))) true (D.ne (D.ilen b) (D.ilen c))) true (D.not (mildF a))) = true) ∧ (D.not (D.cnd (D.cnd (D.cnd (D.cnd (D.cnd (D.cnd
    (D.not (fineF a)) true (D.not (fineF b))) true (D.not (fineF c))) true (D.ne (D.ilen a) (D.ilen b))) true (D.ne (D.ilen b) (D.ilen c))) true (D.not (mildF a)))
    true (D.not (mildF b))) = true → D.not (D.cnd (D.cnd (D.cnd (D.cnd (D.cnd (D.cnd (D.not (fineF a)) true (D.not (fineF b))) true (D.not (fineF c))) true (D.ne
    (D.ilen a) (D.ilen b))) true (D.ne (D.ilen b) (D.ilen c))) true (D.not (mildF a))) true (D.not (mildF b))) = true → D.not (D.cnd (D.cnd (D.cnd (D.cnd (D.cnd
    (D.cnd (D.not (fineF a)) true (D.not (fineF b))) true (D.not (fineF c))) true (D.ne (D.ilen a) (D.ilen b))) true (D.ne (D.ilen b) (D.ilen c))) true (D.not
    (mildF a))) true (D.not (mildF b))) = true) ∧ (D.not (D.cnd (D.cnd (D.cnd (D.cnd (D.cnd (D.cnd (D.not (fineF a)) true (D.not (fineF b))) true (D.not (fineF c)))
    true (D.ne (D.ilen a) (D.ilen b))) true (D.ne (D.ilen b) (D.ilen c))) true (D.not (mildF a))) true (D.not (mildF b))) = true → cleanP c) ∧ (D.not (D.cnd (D.cnd
    (D.cnd (D.cnd (D.cnd (D.cnd (D.not (fineF a)) true (D.not (fineF b))) true (D.not (fineF c))) true (D.ne (D.ilen a) (D.ilen b))) true (D.ne (D.ilen b) (D.ilen
    c))) true (D.not (mildF a))) true (D.not (mildF b))) = true → D.not (D.cnd (D.cnd (D.cnd (D.cnd (D.cnd (D.cnd (D.not (fineF a)) true (D.not (fineF b))) true
    (D.not (fineF c))) true (D.ne (D.ilen a) (D.ilen b))) true (D.ne (D.ilen b) (D.ilen c))) true (D.not (mildF a))) true (D.not (mildF b))) = true → D.not (D.cnd
    (D.cnd (D.cnd (D.cnd (D.cnd (D.cnd (D.not (fineF a)) true (D.not (fineF b))) true (D.not (fineF c))) true (D.ne (D.ilen a) (D.ilen b))) true (D.ne (D.ilen b)
    (D.ilen c))) true (D.not (mildF a))) true (D.not (mildF b))) = true) ∧ (D.and true (D.not (D.cnd (D.cnd (D.cnd (D.cnd (D.cnd (D.cnd (D.not (fineF a)) true
    (D.not (fineF b))) true (D.not (fineF c))) true (D.ne (D.ilen a) (D.ilen b))) true (D.ne (D.ilen b) (D.ilen c))) true (D.not (mildF a))) true (D.not (mildF
    b)))) = true → D.not (D.cnd (D.cnd (D.cnd (D.cnd (D.cnd (D.cnd (D.not (fineF a)) true (D.not (fineF b))) true (D.not (fineF c))) true (D.ne (D.ilen a) (D.ilen
    b))) true (D.ne (D.ilen b) (D.ilen c))) true (D.not (mildF a))) true (D.not (mildF b))) = true) ∧ (D.cnd (D.cnd (D.cnd (D.cnd (D.cnd (D.cnd (D.cnd (D.not (fineF
    a)) true (D.not (fineF b))) true (D.not (fineF c))) true (D.ne (D.ilen a) (D.ilen b))) true (D.ne (D.ilen b) (D.ilen c))) true (D.not (mildF a))) true (D.not
    (mildF b))) true (D.not (mildF c)) = true → true = true ∧ True) ∧ (D.cnd (D.cnd (D.cnd (D.cnd (D.cnd (D.cnd (D.cnd (D.not (fineF a)) true (D.not (fineF b)))
    true (D.not (fineF c))) true (D.ne (D.ilen a) (D.ilen b))) true (D.ne (D.ilen b) (D.ilen c))) true (D.not (mildF a))) true (D.not (mildF b))) true (D.not (mildF
    c)) = false → True ∧ True ∧ True ∧ True ∧ True ∧ lensOk (prodF (prodF a b) c) ∧ (sameF (prodF (prodF a b) c) (prodF a (prodF b c)) = true → sameF (prodF (prodF
    a b) c) (prodF a (prodF b c)) = true → sameF (prodF (prodF a b) c) (prodF a (prodF b c)) = true) ∧ (sameF (prodF (prodF a b) c) (prodF a (prodF b c)) = true →
    sameF (prodF (prodF a b) c) (prodF a (prodF b c)) = true → sameF (prodF (prodF a b) c) (prodF a (prodF b c)) = true) ∧ (sameF (prodF (prodF a b) c) (prodF a
    (prodF b c)) = true → True) ∧ (sameF (prodF (prodF a b) c) (prodF a (prodF b c)) = true → sameF (prodF (prodF a b) c) (prodF a (prodF b c)) = true → sameF
    (prodF (prodF a b) c) (prodF a (prodF b c)) = true) ∧ (sameF (prodF (prodF a b) c) (prodF a (prodF b c)) = true → sameF (prodF (prodF a b) c) (prodF a (prodF b
    c)) = true → sameF (prodF (prodF a b) c) (prodF a (prodF b c)) = true) ∧ (sameF (prodF (prodF a b) c) (prodF a (prodF b c)) = true → True) ∧ (sameF (prodF
    (prodF a b) c) (prodF a (prodF b c)) = true → sameF (prodF (prodF a b) c) (prodF a (prodF b c)) = true → sameF (prodF (prodF a b) c) (prodF a (prodF b c)) =
    true) ∧ (sameF (prodF (prodF a b) c) (prodF a (prodF b c)) = true → sameF (prodF (prodF a b) c) (prodF a (prodF b c)) = true → sameF (prodF (prodF a b) c)
    (prodF a (prodF b c)) = true) ∧ (sameF (prodF (prodF a b) c) (prodF a (prodF b c)) = true → True) ∧ (sameF (prodF (prodF a b) c) (prodF a (prodF b c)) = true →
    sameF (prodF (prodF a b) c) (prodF a (prodF b c)) = true → sameF (prodF (prodF a b) c) (prodF a (prodF b c)) = true) ∧ (sameF (prodF (prodF a b) c) (prodF a
    (prodF b c)) = true → sameF (prodF (prodF a b) c) (prodF a (prodF b c)) = true → sameF (prodF (prodF a b) c) (prodF a (prodF b c)) = true) ∧ (sameF (prodF
    (prodF a b) c) (prodF a (prodF b c)) = true → lensOk (prodF a (sumF b c))) ∧ (D.and true (sameF (prodF (prodF a b) c) (prodF a (prodF b c))) = true → sameF
    (prodF (prodF a b) c) (prodF a (prodF b c)) = true) ∧ (D.cnd (sameF (prodF (prodF a b) c) (prodF a (prodF b c))) (sameF (prodF a (sumF b c)) (sumF (prodF a b)
    (prodF a c))) false = true → D.cnd (sameF (prodF (prodF a b) c) (prodF a (prodF b c))) (sameF (prodF a (sumF b c)) (sumF (prodF a b) (prodF a c))) false = true
    → D.cnd (sameF (prodF (prodF a b) c) (prodF a (prodF b c))) (sameF (prodF a (sumF b c)) (sumF (prodF a b) (prodF a c))) false = true) ∧ (D.cnd (sameF (prodF
    (prodF a b) c) (prodF a (prodF b c))) (sameF (prodF a (sumF b c)) (sumF (prodF a b) (prodF a c))) false = true → D.cnd (sameF (prodF (prodF a b) c) (prodF a
    (prodF b c))) (sameF (prodF a (sumF b c)) (sumF (prodF a b) (prodF a c))) false = true → D.cnd (sameF (prodF (prodF a b) c) (prodF a (prodF b c))) (sameF (prodF
    a (sumF b c)) (sumF (prodF a b) (prodF a c))) false = true) ∧ (D.cnd (sameF (prodF (prodF a b) c) (prodF a (prodF b c))) (sameF (prodF a (sumF b c)) (sumF
    (prodF a b) (prodF a c))) false = true → True) ∧ (D.cnd (sameF (prodF (prodF a b) c) (prodF a (prodF b c))) (sameF (prodF a (sumF b c)) (sumF (prodF a b) (prodF
    a c))) false = true → D.cnd (sameF (prodF (prodF a b) c) (prodF a (prodF b c))) (sameF (prodF a (sumF b c)) (sumF (prodF a b) (prodF a c))) false = true → D.cnd
    (sameF (prodF (prodF a b) c) (prodF a (prodF b c))) (sameF (prodF a (sumF b c)) (sumF (prodF a b) (prodF a c))) false = true) ∧ (D.cnd (sameF (prodF (prodF a b)
    c) (prodF a (prodF b c))) (sameF (prodF a (sumF b c)) (sumF (prodF a b) (prodF a c))) false = true → D.cnd (sameF (prodF (prodF a b) c) (prodF a (prodF b c)))
    (sameF (prodF a (sumF b c)) (sumF (prodF a b) (prodF a c))) false = true → D.cnd (sameF (prodF (prodF a b) c) (prodF a (prodF b c))) (sameF (prodF a (sumF b c))
    (sumF (prodF a b) (prodF a c))) false = true) ∧ (D.cnd (sameF (prodF (prodF a b) c) (prodF a (prodF b c))) (sameF (prodF a (sumF b c)) (sumF (prodF a b) (prodF
    a c))) false = true → True) ∧ (D.cnd (sameF (prodF (prodF a b) c) (prodF a (prodF b c))) (sameF (prodF a (sumF b c)) (sumF (prodF a b) (prodF a c))) false =
    true → D.cnd (sameF (prodF (prodF a b) c) (prodF a (prodF b c))) (sameF (prodF a (sumF b c)) (sumF (prodF a b) (prodF a c))) false = true → D.cnd (sameF (prodF
    (prodF a b) c) (prodF a (prodF b c))) (sameF (prodF a (sumF b c)) (sumF (prodF a b) (prodF a c))) false = true) ∧ (D.cnd (sameF (prodF (prodF a b) c) (prodF a
    (prodF b c))) (sameF (prodF a (sumF b c)) (sumF (prodF a b) (prodF a c))) false = true → D.cnd (sameF (prodF (prodF a b) c) (prodF a (prodF b c))) (sameF (prodF
    a (sumF b c)) (sumF (prodF a b) (prodF a c))) false = true → D.cnd (sameF (prodF (prodF a b) c) (prodF a (prodF b c))) (sameF (prodF a (sumF b c)) (sumF (prodF
    a b) (prodF a c))) false = true) ∧ (D.cnd (sameF (prodF (prodF a b) c) (prodF a (prodF b c))) (sameF (prodF a (sumF b c)) (sumF (prodF a b) (prodF a c))) false
    = true → True) ∧ (D.cnd (sameF (prodF (prodF a b) c) (prodF a (prodF b c))) (sameF (prodF a (sumF b c)) (sumF (prodF a b) (prodF a c))) false = true → D.cnd
    (sameF (prodF (prodF a b) c) (prodF a (prodF b c))) (sameF (prodF a (sumF b c)) (sumF (prodF a b) (prodF a c))) false = true → D.cnd (sameF (prodF (prodF a b)
    c) (prodF a (prodF b c))) (sameF (prodF a (sumF b c)) (sumF (prodF a b) (prodF a c))) false = true) ∧ (D.cnd (sameF (prodF (prodF a b) c) (prodF a (prodF b c)))
    (sameF (prodF a (sumF b c)) (sumF (prodF a b) (prodF a c))) false = true → D.cnd (sameF (prodF (prodF a b) c) (prodF a (prodF b c))) (sameF (prodF a (sumF b c))
    (sumF (prodF a b) (prodF a c))) false = true → D.cnd (sameF (prodF (prodF a b) c) (prodF a (prodF b c))) (sameF (prodF a (sumF b c)) (sumF (prodF a b) (prodF a
    c))) false = true) ∧ (D.cnd (sameF (prodF (prodF a b) c) (prodF a (prodF b c))) (sameF (prodF a (sumF b c)) (sumF (prodF a b) (prodF a c))) false = true →
    lensOk (prodF (sumF a b) c)) ∧ (D.and true (D.cnd (sameF (prodF (prodF a b) c) (prodF a (prodF b c))) (sameF (prodF a (sumF b c)) (sumF (prodF a b) (prodF a
    c))) false) = true → D.cnd (sameF (prodF (prodF a b) c) (prodF a (prodF b c))) (sameF (prodF a (sumF b c)) (sumF (prodF a b) (prodF a c))) false = true) ∧ small
    (D.ilen a) ∧ (D.and true true = true → true = true) ∧ (D.cnd true (D.cnd (D.cnd (sameF (prodF (prodF a b) c) (prodF a (prodF b c))) (sameF (prodF a (sumF b c))
    (sumF (prodF a b) (prodF a c))) false) (sameF (prodF (sumF a b) c) (sumF (prodF a c) (prodF b c))) false) false = true → D.cnd true (D.cnd (D.cnd (sameF (prodF
    (prodF a b) c) (prodF a (prodF b c))) (sameF (prodF a (sumF b c)) (sumF (prodF a b) (prodF a c))) false) (sameF (prodF (sumF a b) c) (sumF (prodF a c) (prodF b
    c))) false) false = true → D.cnd true (D.cnd (D.cnd (sameF (prodF (prodF a b) c) (prodF a (prodF b c))) (sameF (prodF a (sumF b c)) (sumF (prodF a b) (prodF a
    c))) false) (sameF (prodF (sumF a b) c) (sumF (prodF a c) (prodF b c))) false) false = true) ∧ (D.cnd true (D.cnd (D.cnd (sameF (prodF (prodF a b) c) (prodF a
    (prodF b c))) (sameF (prodF a (sumF b c)) (sumF (prodF a b) (prodF a c))) false) (sameF (prodF (sumF a b) c) (sumF (prodF a c) (prodF b c))) false) false = true
    → D.cnd true (D.cnd (D.cnd (sameF (prodF (prodF a b) c) (prodF a (prodF b c))) (sameF (prodF a (sumF b c)) (sumF (prodF a b) (prodF a c))) false) (sameF (prodF
    (sumF a b) c) (sumF (prodF a c) (prodF b c))) false) false = true → D.cnd true (D.cnd (D.cnd (sameF (prodF (prodF a b) c) (prodF a (prodF b c))) (sameF (prodF a
    (sumF b c)) (sumF (prodF a b) (prodF a c))) false) (sameF (prodF (sumF a b) c) (sumF (prodF a c) (prodF b c))) false) false = true) ∧ (D.cnd true (D.cnd (D.cnd
    (sameF (prodF (prodF a b) c) (prodF a (prodF b c))) (sameF (prodF a (sumF b c)) (sumF (prodF a b) (prodF a c))) false) (sameF (prodF (sumF a b) c) (sumF (prodF
    a c) (prodF b c))) false) false = true → True) ∧ (D.cnd true (D.cnd (D.cnd (sameF (prodF (prodF a b) c) (prodF a (prodF b c))) (sameF (prodF a (sumF b c)) (sumF
    (prodF a b) (prodF a c))) false) (sameF (prodF (sumF a b) c) (sumF (prodF a c) (prodF b c))) false) false = true → D.cnd true (D.cnd (D.cnd (sameF (prodF (prodF
    a b) c) (prodF a (prodF b c))) (sameF (prodF a (sumF b c)) (sumF (prodF a b) (prodF a c))) false) (sameF (prodF (sumF a b) c) (sumF (prodF a c) (prodF b c)))
    false) false = true → D.cnd true (D.cnd (D.cnd (sameF (prodF (prodF a b) c) (prodF a (prodF b c))) (sameF (prodF a (sumF b c)) (sumF (prodF a b) (prodF a c)))
    false) (sameF (prodF (sumF a b) c) (sumF (prodF a c) (prodF b c))) false) false = true) ∧ (D.cnd true (D.cnd (D.cnd (sameF (prodF (prodF a b) c) (prodF a (prodF
    b c))) (sameF (prodF a (sumF b c)) (sumF (prodF a b) (prodF a c))) false) (sameF (prodF (sumF a b) c) (sumF (prodF a c) (prodF b c))) false) false = true →
    cleanP a) ∧ (D.cnd true (D.cnd (D.cnd (sameF (prodF (prodF a b) c) (prodF a (prodF b c))) (sameF (prodF a (sumF b c)) (sumF (prodF a b) (prodF a c))) false)
    (sameF (prodF (sumF a b) c) (sumF (prodF a c) (prodF b c))) false) false = true → D.cnd true (D.cnd (D.cnd (sameF (prodF (prodF a b) c) (prodF a (prodF b c)))
    (sameF (prodF a (sumF b c)) (sumF (prodF a b) (prodF a c))) false) (sameF (prodF (sumF a b) c) (sumF (prodF a c) (prodF b c))) false) false = true → D.cnd true
    (D.cnd (D.cnd (sameF (prodF (prodF a b) c) (prodF a (prodF b c))) (sameF (prodF a (sumF b c)) (sumF (prodF a b) (prodF a c))) false) (sameF (prodF (sumF a b) c)
    (sumF (prodF a c) (prodF b c))) false) false = true) ∧ (D.cnd true (D.cnd (D.cnd (sameF (prodF (prodF a b) c) (prodF a (prodF b c))) (sameF (prodF a (sumF b c))
    (sumF (prodF a b) (prodF a c))) false) (sameF (prodF (sumF a b) c) (sumF (prodF a c) (prodF b c))) false) false = true → D.cnd true (D.cnd (D.cnd (sameF (prodF
    (prodF a b) c) (prodF a (prodF b c))) (sameF (prodF a (sumF b c)) (sumF (prodF a b) (prodF a c))) false) (sameF (prodF (sumF a b) c) (sumF (prodF a c) (prodF b
    c))) false) false = true → D.cnd true (D.cnd (D.cnd (sameF (prodF (prodF a b) c) (prodF a (prodF b c))) (sameF (prodF a (sumF b c)) (sumF (prodF a b) (prodF a
    c))) false) (sameF (prodF (sumF a b) c) (sumF (prodF a c) (prodF b c))) false) false = true) ∧ (D.cnd true (D.cnd (D.cnd (sameF (prodF (prodF a b) c) (prodF a
    (prodF b c))) (sameF (prodF a (sumF b c)) (sumF (prodF a b) (prodF a c))) false) (sameF (prodF (sumF a b) c) (sumF (prodF a c) (prodF b c))) false) false = true
    → lensOk (prodF a (oneF (D.ilen a)))) ∧ (D.and true (D.cnd true (D.cnd (D.cnd (sameF (prodF (prodF a b) c) (prodF a (prodF b c))) (sameF (prodF a (sumF b c))
    (sumF (prodF a b) (prodF a c))) false) (sameF (prodF (sumF a b) c) (sumF (prodF a c) (prodF b c))) false) false) = true → D.cnd true (D.cnd (D.cnd (sameF (prodF
    (prodF a b) c) (prodF a (prodF b c))) (sameF (prodF a (sumF b c)) (sumF (prodF a b) (prodF a c))) false) (sameF (prodF (sumF a b) c) (sumF (prodF a c) (prodF b
    c))) false) false = true) ∧ (D.cnd (D.cnd true (D.cnd (D.cnd (sameF (prodF (prodF a b) c) (prodF a (prodF b c))) (sameF (prodF a (sumF b c)) (sumF (prodF a b)
    (prodF a c))) false) (sameF (prodF (sumF a b) c) (sumF (prodF a c) (prodF b c))) false) false) (sameF (prodF a (oneF (D.ilen a))) (cleanF a)) false = true →
    D.cnd (D.cnd true (D.cnd (D.cnd (sameF (prodF (prodF a b) c) (prodF a (prodF b c))) (sameF (prodF a (sumF b c)) (sumF (prodF a b) (prodF a c))) false) (sameF
    (prodF (sumF a b) c) (sumF (prodF a c) (prodF b c))) false) false) (sameF (prodF a (oneF (D.ilen a))) (cleanF a)) false = true → D.cnd (D.cnd true (D.cnd (D.cnd
    (sameF (prodF (prodF a b) c) (prodF a (prodF b c))) (sameF (prodF a (sumF b c)) (sumF (prodF a b) (prodF a c))) false) (sameF (prodF (sumF a b) c) (sumF (prodF
    a c) (prodF b c))) false) false) (sameF (prodF a (oneF (D.ilen a))) (cleanF a)) false = true) ∧ (D.cnd (D.cnd true (D.cnd (D.cnd (sameF (prodF (prodF a b) c)
    (prodF a (prodF b c))) (sameF (prodF a (sumF b c)) (sumF (prodF a b) (prodF a c))) false) (sameF (prodF (sumF a b) c) (sumF (prodF a c) (prodF b c))) false)
    false) (sameF (prodF a (oneF (D.ilen a))) (cleanF a)) false = true → D.cnd (D.cnd true (D.cnd (D.cnd (sameF (prodF (prodF a b) c) (prodF a (prodF b c))) (sameF
    (prodF a (sumF b c)) (sumF (prodF a b) (prodF a c))) false) (sameF (prodF (sumF a b) c) (sumF (prodF a c) (prodF b c))) false) false) (sameF (prodF a (oneF
    (D.ilen a))) (cleanF a)) false = true → D.cnd (D.cnd true (D.cnd (D.cnd (sameF (prodF (prodF a b) c) (prodF a (prodF b c))) (sameF (prodF a (sumF b c)) (sumF
    (prodF a b) (prodF a c))) false) (sameF (prodF (sumF a b) c) (sumF (prodF a c) (prodF b c))) false) false) (sameF (prodF a (oneF (D.ilen a))) (cleanF a)) false
    = true) ∧ (D.cnd (D.cnd true (D.cnd (D.cnd (sameF (prodF (prodF a b) c) (prodF a (prodF b c))) (sameF (prodF a (sumF b c)) (sumF (prodF a b) (prodF a c)))
    false) (sameF (prodF (sumF a b) c) (sumF (prodF a c) (prodF b c))) false) false) (sameF (prodF a (oneF (D.ilen a))) (cleanF a)) false = true → True) ∧ (D.cnd
    (D.cnd true (D.cnd (D.cnd (sameF (prodF (prodF a b) c) (prodF a (prodF b c))) (sameF (prodF a (sumF b c)) (sumF (prodF a b) (prodF a c))) false) (sameF (prodF
    (sumF a b) c) (sumF (prodF a c) (prodF b c))) false) false) (sameF (prodF a (oneF (D.ilen a))) (cleanF a)) false = true → D.cnd (D.cnd true (D.cnd (D.cnd (sameF
    (prodF (prodF a b) c) (prodF a (prodF b c))) (sameF (prodF a (sumF b c)) (sumF (prodF a b) (prodF a c))) false) (sameF (prodF (sumF a b) c) (sumF (prodF a c)
    (prodF b c))) false) false) (sameF (prodF a (oneF (D.ilen a))) (cleanF a)) false = true → D.cnd (D.cnd true (D.cnd (D.cnd (sameF (prodF (prodF a b) c) (prodF a
    (prodF b c))) (sameF (prodF a (sumF b c)) (sumF (prodF a b) (prodF a c))) false) (sameF (prodF (sumF a b) c) (sumF (prodF a c) (prodF b c))) false) false)
    (sameF (prodF a (oneF (D.ilen a))) (cleanF a)) false = true) ∧ (D.cnd (D.cnd true (D.cnd (D.cnd (sameF (prodF (prodF a b) c) (prodF a (prodF b c))) (sameF
    (prodF a (sumF b c)) (sumF (prodF a b) (prodF a c))) false) (sameF (prodF (sumF a b) c) (sumF (prodF a c) (prodF b c))) false) false) (sameF (prodF a (oneF
    (D.ilen a))) (cleanF a)) false = true → cleanP a) ∧ (D.cnd (D.cnd true (D.cnd (D.cnd (sameF (prodF (prodF a b) c) (prodF a (prodF b c))) (sameF (prodF a (sumF b
    c)) (sumF (prodF a b) (prodF a c))) false) (sameF (prodF (sumF a b) c) (sumF (prodF a c) (prodF b c))) false) false) (sameF (prodF a (oneF (D.ilen a))) (cleanF
    a)) false = true → D.cnd (D.cnd true (D.cnd (D.cnd (sameF (prodF (prodF a b) c) (prodF a (prodF b c))) (sameF (prodF a (sumF b c)) (sumF (prodF a b) (prodF a
    c))) false) (sameF (prodF (sumF a b) c) (sumF (prodF a c) (prodF b c))) false) false) (sameF (prodF a (oneF (D.ilen a))) (cleanF a)) false = true → D.cnd (D.cnd
    true (D.cnd (D.cnd (sameF (prodF (prodF a b) c) (prodF a (prodF b c))) (sameF (prodF a (sumF b c)) (sumF (prodF a b) (prodF a c))) false) (sameF (prodF (sumF a
    b) c) (sumF (prodF a c) (prodF b c))) false) false) (sameF (prodF a (oneF (D.ilen a))) (cleanF a)) false = true) ∧ (D.cnd (D.cnd true (D.cnd (D.cnd (sameF
    (prodF (prodF a b) c) (prodF a (prodF b c))) (sameF (prodF a (sumF b c)) (sumF (prodF a b) (prodF a c))) false) (sameF (prodF (sumF a b) c) (sumF (prodF a c)
    (prodF b c))) false) false) (sameF (prodF a (oneF (D.ilen a))) (cleanF a)) false = true → D.cnd (D.cnd true (D.cnd (D.cnd (sameF (prodF (prodF a b) c) (prodF a
    (prodF b c))) (sameF (prodF a (sumF b c)) (sumF (prodF a b) (prodF a c))) false) (sameF (prodF (sumF a b) c) (sumF (prodF a c) (prodF b c))) false) false)
    (sameF (prodF a (oneF (D.ilen a))) (cleanF a)) false = true → D.cnd (D.cnd true (D.cnd (D.cnd (sameF (prodF (prodF a b) c) (prodF a (prodF b c))) (sameF (prodF
    a (sumF b c)) (sumF (prodF a b) (prodF a c))) false) (sameF (prodF (sumF a b) c) (sumF (prodF a c) (prodF b c))) false) false) (sameF (prodF a (oneF (D.ilen
    a))) (cleanF a)) false = true) ∧ (D.cnd (D.cnd true (D.cnd (D.cnd (sameF (prodF (prodF a b) c) (prodF a (prodF b c))) (sameF (prodF a (sumF b c)) (sumF (prodF a
    b) (prodF a c))) false) (sameF (prodF (sumF a b) c) (sumF (prodF a c) (prodF b c))) false) false) (sameF (prodF a (oneF (D.ilen a))) (cleanF a)) false = true →
    lensOk (prodF (oneF (D.ilen a)) a)) ∧ (D.and true (D.cnd (D.cnd true (D.cnd (D.cnd (sameF (prodF (prodF a b) c) (prodF a (prodF b c))) (sameF (prodF a (sumF b
    c)) (sumF (prodF a b) (prodF a c))) false) (sameF (prodF (sumF a b) c) (sumF (prodF a c) (prodF b c))) false) false) (sameF (prodF a (oneF (D.ilen a))) (cleanF
    a)) false) = true → D.cnd (D.cnd true (D.cnd (D.cnd (sameF (prodF (prodF a b) c) (prodF a (prodF b c))) (sameF (prodF a (sumF b c)) (sumF (prodF a b) (prodF a
    c))) false) (sameF (prodF (sumF a b) c) (sumF (prodF a c) (prodF b c))) false) false) (sameF (prodF a (oneF (D.ilen a))) (cleanF a)) false = true) ∧ D.cnd
    (D.cnd (D.cnd true (D.cnd (D.cnd (sameF (prodF (prodF a b) c) (prodF a (prodF b c))) (sameF (prodF a (sumF b c)) (sumF (prodF a b) (prodF a c))) false) (sameF
    (prodF (sumF a b) c) (sumF (prodF a c) (prodF b c))) false) false) (sameF (prodF a (oneF (D.ilen a))) (cleanF a)) false) (sameF (prodF (oneF (D.ilen a)) a)
    (cleanF a)) false = true ∧ True))) :
    evF c11 noAnn 5 [.dat M a, .dat M b, .dat M c] ⟨True, .dat .bool true⟩ := of_eq (by kernel_rfl) h

theorem vc_Columns (a b : List (List Int)) (v : List Int) (h :
     true = true ∧ true = true ∧ (True → True ∧ True ∧ (D.not (D.not (fineF a)) = true → D.not (D.not (fineF a)) = true → D.not (D.not (fineF a)) = true)
    ∧ (D.not (D.not (fineF a)) = true → True) ∧ (D.not (D.not (fineF a)) = true → D.not (D.not (fineF a)) = true → D.not (D.not (fineF a)) = true) ∧ (D.and true
    (D.not (D.not (fineF a))) = true → D.not (D.not (fineF a)) = true) ∧ (D.not (D.cnd (D.not (fineF a)) true (D.not (fineF b))) = true → D.not (D.cnd (D.not (fineF
    a)) true (D.not (fineF b))) = true → D.not (D.cnd (D.not (fineF a)) true (D.not (fineF b))) = true) ∧ (D.not (D.cnd (D.not (fineF a)) true (D.not (fineF b))) =
    true → D.not (D.cnd (D.not (fineF a)) true (D.not (fineF b))) = true → D.not (D.cnd (D.not (fineF a)) true (D.not (fineF b))) = true) ∧ (D.not (D.cnd (D.not
    (fineF a)) true (D.not (fineF b))) = true → D.not (D.cnd (D.not (fineF a)) true (D.not (fineF b))) = true → D.not (D.cnd (D.not (fineF a)) true (D.not (fineF
    b))) = true) ∧ (D.not (D.cnd (D.not (fineF a)) true (D.not (fineF b))) = true → D.not (D.cnd (D.not (fineF a)) true (D.not (fineF b))) = true → D.not (D.cnd
    (D.not (fineF a)) true (D.not (fineF b))) = true) ∧ (D.and true (D.not (D.cnd (D.not (fineF a)) true (D.not (fineF b)))) = true → D.not (D.cnd (D.not (fineF a))
    true (D.not (fineF b))) = true) ∧ (D.not (D.cnd (D.cnd (D.not (fineF a)) true (D.not (fineF b))) true (D.ne (D.ilen a) (D.ilen b))) = true → D.not (D.cnd (D.cnd
    (D.not (fineF a)) true (D.not (fineF b))) true (D.ne (D.ilen a) (D.ilen b))) = true → D.not (D.cnd (D.cnd (D.not (fineF a)) true (D.not (fineF b))) true (D.ne
    (D.ilen a) (D.ilen b))) = true) ∧ (D.not (D.cnd (D.cnd (D.not (fineF a)) true (D.not (fineF b))) true (D.ne (D.ilen a) (D.ilen b))) = true → D.not (D.cnd (D.cnd
    (D.not (fineF a)) true (D.not (fineF b))) true (D.ne (D.ilen a) (D.ilen b))) = true → D.not (D.cnd (D.cnd (D.not (fineF a)) true (D.not (fineF b))) true (D.ne
    (D.ilen a) (D.ilen b))) = true) ∧ (D.not (D.cnd (D.cnd (D.not (fineF a)) true (D.not (fineF b))) true (D.ne (D.ilen a) (D.ilen b))) = true → D.not (D.cnd (D.cnd
    (D.not (fineF a)) true (D.not (fineF b))) true (D.ne (D.ilen a) (D.ilen b))) = true → D.not (D.cnd (D.cnd (D.not (fineF a)) true (D.not (fineF b))) true (D.ne
    (D.ilen a) (D.ilen b))) = true) ∧ (D.not (D.cnd (D.cnd (D.not (fineF a)) true (D.not (fineF b))) true (D.ne (D.ilen a) (D.ilen b))) = true → D.not (D.cnd (D.cnd
    (D.not (fineF a)) true (D.not (fineF b))) true (D.ne (D.ilen a) (D.ilen b))) = true → D.not (D.cnd (D.cnd (D.not (fineF a)) true (D.not (fineF b))) true (D.ne
    (D.ilen a) (D.ilen b))) = true) ∧ (D.and true (D.not (D.cnd (D.cnd (D.not (fineF a)) true (D.not (fineF b))) true (D.ne (D.ilen a) (D.ilen b)))) = true → D.not
    (D.cnd (D.cnd (D.not (fineF a)) true (D.not (fineF b))) true (D.ne (D.ilen a) (D.ilen b))) = true) ∧ (D.not (D.cnd (D.cnd (D.cnd (D.not (fineF a)) true (D.not
    (fineF b))) true (D.ne (D.ilen a) (D.ilen b))) true (D.ne (D.ilen v) (D.ilen a))) = true → D.not (D.cnd (D.cnd (D.cnd (D.not (fineF a)) true (D.not (fineF b)))
    true (D.ne (D.ilen a) (D.ilen b))) true (D.ne (D.ilen v) (D.ilen a))) = true → D.not (D.cnd (D.cnd (D.cnd (D.not (fineF a)) true (D.not (fineF b))) true (D.ne
    (D.ilen a) (D.ilen b))) true (D.ne (D.ilen v) (D.ilen a))) = true) ∧ (D.not (D.cnd (D.cnd (D.cnd (D.not (fineF a)) true (D.not (fineF b))) true (D.ne (D.ilen a)
    (D.ilen b))) true (D.ne (D.ilen v) (D.ilen a))) = true → cleanP a) ∧ (D.not (D.cnd (D.cnd (D.cnd (D.not (fineF a)) true (D.not (fineF b))) true (D.ne (D.ilen a)
    (D.ilen b))) true (D.ne (D.ilen v) (D.ilen a))) = true → D.not (D.cnd (D.cnd (D.cnd (D.not (fineF a)) true (D.not (fineF b))) true (D.ne (D.ilen a) (D.ilen b)))
    true (D.ne (D.ilen v) (D.ilen a))) = true → D.not (D.cnd (D.cnd (D.cnd (D.not (fineF a)) true (D.not (fineF b))) true (D.ne (D.ilen a) (D.ilen b))) true (D.ne
    (D.ilen v) (D.ilen a))) = true) ∧ (D.and true (D.not (D.cnd (D.cnd (D.cnd (D.not (fineF a)) true (D.not (fineF b))) true (D.ne (D.ilen a) (D.ilen b))) true
    (D.ne (D.ilen v) (D.ilen a)))) = true → D.not (D.cnd (D.cnd (D.cnd (D.not (fineF a)) true (D.not (fineF b))) true (D.ne (D.ilen a) (D.ilen b))) true (D.ne
    (D.ilen v) (D.ilen a))) = true) ∧ (D.not (D.cnd (D.cnd (D.cnd (D.cnd (D.not (fineF a)) true (D.not (fineF b))) true (D.ne (D.ilen a) (D.ilen b))) true (D.ne
    (D.ilen v) (D.ilen a))) true (D.not (mildF a))) = true → D.not (D.cnd (D.cnd (D.cnd (D.cnd (D.not (fineF a)) true (D.not (fineF b))) true (D.ne (D.ilen a)
    (D.ilen b))) true (D.ne (D.ilen v) (D.ilen a))) true (D.not (mildF a))) = true → D.not (D.cnd (D.cnd (D.cnd (D.cnd (D.not (fineF a)) true (D.not (fineF b)))
    true (D.ne (D.ilen a) (D.ilen b))) true (D.ne (D.ilen v) (D.ilen a))) true (D.not (mildF a))) = true) ∧ (D.not (D.cnd (D.cnd (D.cnd (D.cnd (D.not (fineF a))
    true (D.not (fineF b))) true (D.ne (D.ilen a) (D.ilen b))) true (D.ne (D.ilen v) (D.ilen a))) true (D.not (mildF a))) = true → cleanP b) ∧ (D.not (D.cnd (D.cnd
    (D.cnd (D.cnd (D.not (fineF a)) true (D.not (fineF b))) true (D.ne (D.ilen a) (D.ilen b))) true (D.ne (D.ilen v) (D.ilen a))) true (D.not (mildF a))) = true →
    D.not (D.cnd (D.cnd (D.cnd (D.cnd (D.not (fineF a)) true (D.not (fineF b))) true (D.ne (D.ilen a) (D.ilen b))) true (D.ne (D.ilen v) (D.ilen a))) true (D.not
    (mildF a))) = true → D.not (D.cnd (D.cnd (D.cnd (D.cnd (D.not (fineF a)) true (D.not (fineF b))) true (D.ne (D.ilen a) (D.ilen b))) true (D.ne (D.ilen v)
    (D.ilen a))) true (D.not (mildF a))) = true) ∧ (D.and true (D.not (D.cnd (D.cnd (D.cnd (D.cnd (D.not (fineF a)) true (D.not (fineF b))) true (D.ne (D.ilen a)
    (D.ilen b))) true (D.ne (D.ilen v) (D.ilen a))) true (D.not (mildF a)))) = true → D.not (D.cnd (D.cnd (D.cnd (D.cnd (D.not (fineF a)) true (D.not (fineF b)))
    true (D.ne (D.ilen a) (D.ilen b))) true (D.ne (D.ilen v) (D.ilen a))) true (D.not (mildF a))) = true) ∧ (D.not (D.cnd (D.cnd (D.cnd (D.cnd (D.cnd (D.not (fineF
    a)) true (D.not (fineF b))) true (D.ne (D.ilen a) (D.ilen b))) true (D.ne (D.ilen v) (D.ilen a))) true (D.not (mildF a))) true (D.not (mildF b))) = true → D.not
    (D.cnd (D.cnd (D.cnd (D.cnd (D.cnd (D.not (fineF a)) true (D.not (fineF b))) true (D.ne (D.ilen a) (D.ilen b))) true (D.ne (D.ilen v) (D.ilen a))) true (D.not
    (mildF a))) true (D.not (mildF b))) = true → D.not (D.cnd (D.cnd (D.cnd (D.cnd (D.cnd (D.not (fineF a)) true (D.not (fineF b))) true (D.ne (D.ilen a) (D.ilen
    b))) true (D.ne (D.ilen v) (D.ilen a))) true (D.not (mildF a))) true (D.not (mildF b))) = true) ∧ (D.not (D.cnd (D.cnd (D.cnd (D.cnd (D.cnd (D.not (fineF a))
    true (D.not (fineF b))) true (D.ne (D.ilen a) (D.ilen b))) true (D.ne (D.ilen v) (D.ilen a))) true (D.not (mildF a))) true (D.not (mildF b))) = true → D.not
    (D.cnd (D.cnd (D.cnd (D.cnd (D.cnd (D.not (fineF a)) true (D.not (fineF b))) true (D.ne (D.ilen a) (D.ilen b))) true (D.ne (D.ilen v) (D.ilen a))) true (D.not
    (mildF a))) true (D.not (mildF b))) = true → D.not (D.cnd (D.cnd (D.cnd (D.cnd (D.cnd (D.not (fineF a)) true (D.not (fineF b))) true (D.ne (D.ilen a) (D.ilen
    b))) true (D.ne (D.ilen v) (D.ilen a))) true (D.not (mildF a))) true (D.not (mildF b))) = true) ∧ (D.not (D.cnd (D.cnd (D.cnd (D.cnd (D.cnd (D.not (fineF a))
    true (D.not (fineF b))) true (D.ne (D.ilen a) (D.ilen b))) true (D.ne (D.ilen v) (D.ilen a))) true (D.not (mildF a))) true (D.not (mildF b))) = true → cleanP
    [v]) ∧ (D.not (D.cnd (D.cnd (D.cnd (D.cnd (D.cnd (D.not (fineF a)) true (D.not (fineF b))) true (D.ne (D.ilen a) (D.ilen b))) true (D.ne (D.ilen v) (D.ilen a)))
    true (D.not (mildF a))) true (D.not (mildF b))) = true → D.not (D.cnd (D.cnd (D.cnd (D.cnd (D.cnd (D.not (fineF a)) true (D.not (fineF b))) true (D.ne (D.ilen
    a) (D.ilen b))) true (D.ne (D.ilen v) (D.ilen a))) true (D.not (mildF a))) true (D.not (mildF b))) = true → D.not (D.cnd (D.cnd (D.cnd (D.cnd (D.cnd (D.not
    (fineF a)) true (D.not (fineF b))) true (D.ne (D.ilen a) (D.ilen b))) true (D.ne (D.ilen v) (D.ilen a))) true (D.not (mildF a))) true (D.not (mildF b))) = true)
    ∧ (D.and true (D.not (D.cnd (D.cnd (D.cnd (D.cnd (D.cnd (D.not (fineF a)) true (D.not (fineF b))) true (D.ne (D.ilen a) (D.ilen b))) true (D.ne (D.ilen v)
    (D.ilen a))) true (D.not (mildF a))) true (D.not (mildF b)))) = true → D.not (D.cnd (D.cnd (D.cnd (D.cnd (D.cnd (D.not (fineF a)) true (D.not (fineF b))) true
    (D.ne (D.ilen a) (D.ilen b))) true (D.ne (D.ilen v) (D.ilen a))) true (D.not (mildF a))) true (D.not (mildF b))) = true) ∧ (D.cnd (D.cnd (D.cnd (D.cnd (D.cnd
    (D.cnd (D.not (fineF a)) true (D.not (fineF b))) true (D.ne (D.ilen a) (D.ilen b))) true (D.ne (D.ilen v) (D.ilen a))) true (D.not (mildF a))) true (D.not
    (mildF b))) true (D.not (mildF [v])) = true → true = true ∧ True) ∧ (D.cnd (D.cnd (D.cnd (D.cnd (D.cnd (D.cnd (D.not (fineF a)) true (D.not (fineF b))) true
    (D.ne (D.ilen a) (D.ilen b))) true (D.ne (D.ilen v) (D.ilen a))) true (D.not (mildF a))) true (D.not (mildF b))) true (D.not (mildF [v])) = false → True ∧ True
    ∧ True ∧ True ∧ (D.not (D.ne (D.ilen (applyF a v)) (D.ilen v)) = true → D.not (D.ne (D.ilen (applyF a v)) (D.ilen v)) = true → D.not (D.ne (D.ilen (applyF a v))
    (D.ilen v)) = true) ∧ (D.not (D.ne (D.ilen (applyF a v)) (D.ilen v)) = true → D.not (D.ne (D.ilen (applyF a v)) (D.ilen v)) = true → D.not (D.ne (D.ilen (applyF
    a v)) (D.ilen v)) = true) ∧ (D.not (D.ne (D.ilen (applyF a v)) (D.ilen v)) = true → D.not (D.ne (D.ilen (applyF a v)) (D.ilen v)) = true → D.not (D.ne (D.ilen
    (applyF a v)) (D.ilen v)) = true) ∧ (D.not (D.ne (D.ilen (applyF a v)) (D.ilen v)) = true → D.not (D.ne (D.ilen (applyF a v)) (D.ilen v)) = true → D.not (D.ne
    (D.ilen (applyF a v)) (D.ilen v)) = true) ∧ (D.and true (D.not (D.ne (D.ilen (applyF a v)) (D.ilen v))) = true → D.not (D.ne (D.ilen (applyF a v)) (D.ilen v)) =
    true) ∧ (D.not (D.cnd (D.ne (D.ilen (applyF a v)) (D.ilen v)) true (D.ne (D.ilen (applyF b v)) (D.ilen v))) = true → D.not (D.cnd (D.ne (D.ilen (applyF a v))
    (D.ilen v)) true (D.ne (D.ilen (applyF b v)) (D.ilen v))) = true → D.not (D.cnd (D.ne (D.ilen (applyF a v)) (D.ilen v)) true (D.ne (D.ilen (applyF b v)) (D.ilen
    v))) = true) ∧ (D.not (D.cnd (D.ne (D.ilen (applyF a v)) (D.ilen v)) true (D.ne (D.ilen (applyF b v)) (D.ilen v))) = true → D.not (D.cnd (D.ne (D.ilen (applyF a
    v)) (D.ilen v)) true (D.ne (D.ilen (applyF b v)) (D.ilen v))) = true → D.not (D.cnd (D.ne (D.ilen (applyF a v)) (D.ilen v)) true (D.ne (D.ilen (applyF b v))
    (D.ilen v))) = true) ∧ (D.not (D.cnd (D.ne (D.ilen (applyF a v)) (D.ilen v)) true (D.ne (D.ilen (applyF b v)) (D.ilen v))) = true → D.not (D.cnd (D.ne (D.ilen
    (applyF a v)) (D.ilen v)) true (D.ne (D.ilen (applyF b v)) (D.ilen v))) = true → D.not (D.cnd (D.ne (D.ilen (applyF a v)) (D.ilen v)) true (D.ne (D.ilen (applyF
    b v)) (D.ilen v))) = true) ∧ (D.not (D.cnd (D.ne (D.ilen (applyF a v)) (D.ilen v)) true (D.ne (D.ilen (applyF b v)) (D.ilen v))) = true → D.not (D.cnd (D.ne
    (D.ilen (applyF a v)) (D.ilen v)) true (D.ne (D.ilen (applyF b v)) (D.ilen v))) = true → D.not (D.cnd (D.ne (D.ilen (applyF a v)) (D.ilen v)) true (D.ne (D.ilen
    (applyF b v)) (D.ilen v))) = true) ∧ (D.and true (D.not (D.cnd (D.ne (D.ilen (applyF a v)) (D.ilen v)) true (D.ne (D.ilen (applyF b v)) (D.ilen v)))) = true →
    D.not (D.cnd (D.ne (D.ilen (applyF a v)) (D.ilen v)) true (D.ne (D.ilen (applyF b v)) (D.ilen v))) = true) ∧ (D.cnd (D.cnd (D.ne (D.ilen (applyF a v)) (D.ilen
    v)) true (D.ne (D.ilen (applyF b v)) (D.ilen v))) true (D.ne (D.ilen (applyF (sumF a b) v)) (D.ilen v)) = true → false = true ∧ True) ∧ (D.cnd (D.cnd (D.ne
    (D.ilen (applyF a v)) (D.ilen v)) true (D.ne (D.ilen (applyF b v)) (D.ilen v))) true (D.ne (D.ilen (applyF (sumF a b) v)) (D.ilen v)) = false → (∃ x, kTo x
    (D.ilen v) ∧ a = a ∧ b = b ∧ v = v ∧ true = true ∧ applyF a v = applyF a v ∧ applyF b v = applyF b v ∧ applyF (sumF a b) v = applyF (sumF a b) v ∧ (0 : Int) = x
    ∧ true = true ∧ a = a ∧ fineF a = fineF a ∧ D.not (fineF a) = D.not (fineF a) ∧ D.not (fineF a) = D.not (fineF a) ∧ D.cnd (D.not (fineF a)) true (D.not (fineF
    b)) = D.cnd (D.not (fineF a)) true (D.not (fineF b)) ∧ D.cnd (D.not (fineF a)) true (D.not (fineF b)) = D.cnd (D.not (fineF a)) true (D.not (fineF b)) ∧ D.cnd
    (D.cnd (D.not (fineF a)) true (D.not (fineF b))) true (D.ne (D.ilen a) (D.ilen b)) = D.cnd (D.cnd (D.not (fineF a)) true (D.not (fineF b))) true (D.ne (D.ilen
    a) (D.ilen b)) ∧ D.cnd (D.cnd (D.not (fineF a)) true (D.not (fineF b))) true (D.ne (D.ilen a) (D.ilen b)) = D.cnd (D.cnd (D.not (fineF a)) true (D.not (fineF
    b))) true (D.ne (D.ilen a) (D.ilen b)) ∧ D.cnd (D.cnd (D.cnd (D.not (fineF a)) true (D.not (fineF b))) true (D.ne (D.ilen a) (D.ilen b))) true (D.ne (D.ilen v)
    (D.ilen a)) = D.cnd (D.cnd (D.cnd (D.not (fineF a)) true (D.not (fineF b))) true (D.ne (D.ilen a) (D.ilen b))) true (D.ne (D.ilen v) (D.ilen a)) ∧ D.cnd (D.cnd
    (D.cnd (D.not (fineF a)) true (D.not (fineF b))) true (D.ne (D.ilen a) (D.ilen b))) true (D.ne (D.ilen v) (D.ilen a)) = D.cnd (D.cnd (D.cnd (D.not (fineF a))
    true (D.not (fineF b))) true (D.ne (D.ilen a) (D.ilen b))) true (D.ne (D.ilen v) (D.ilen a)) ∧ D.cnd (D.cnd (D.cnd (D.cnd (D.not (fineF a)) true (D.not (fineF
    b))) true (D.ne (D.ilen a) (D.ilen b))) true (D.ne (D.ilen v) (D.ilen a))) true (D.not (mildF a)) = D.cnd (D.cnd (D.cnd (D.cnd (D.not (fineF a)) true (D.not
    (fineF b))) true (D.ne (D.ilen a) (D.ilen b))) true (D.ne (D.ilen v) (D.ilen a))) true (D.not (mildF a)) ∧ D.cnd (D.cnd (D.cnd (D.cnd (D.not (fineF a)) true
    (D.not (fineF b))) true (D.ne (D.ilen a) (D.ilen b))) true (D.ne (D.ilen v) (D.ilen a))) true (D.not (mildF a)) = D.cnd (D.cnd (D.cnd (D.cnd (D.not (fineF a))
    true (D.not (fineF b))) true (D.ne (D.ilen a) (D.ilen b))) true (D.ne (D.ilen v) (D.ilen a))) true (D.not (mildF a)) ∧ D.cnd (D.cnd (D.cnd (D.cnd (D.cnd (D.not
    (fineF a)) true (D.not (fineF b))) true (D.ne (D.ilen a) (D.ilen b))) true (D.ne (D.ilen v) (D.ilen a))) true (D.not (mildF a))) true (D.not (mildF b)) = D.cnd
    (D.cnd (D.cnd (D.cnd (D.cnd (D.not (fineF a)) true (D.not (fineF b))) true (D.ne (D.ilen a) (D.ilen b))) true (D.ne (D.ilen v) (D.ilen a))) true (D.not (mildF
    a))) true (D.not (mildF b)) ∧ D.cnd (D.cnd (D.cnd (D.cnd (D.cnd (D.not (fineF a)) true (D.not (fineF b))) true (D.ne (D.ilen a) (D.ilen b))) true (D.ne (D.ilen
    v) (D.ilen a))) true (D.not (mildF a))) true (D.not (mildF b)) = D.cnd (D.cnd (D.cnd (D.cnd (D.cnd (D.not (fineF a)) true (D.not (fineF b))) true (D.ne (D.ilen
    a) (D.ilen b))) true (D.ne (D.ilen v) (D.ilen a))) true (D.not (mildF a))) true (D.not (mildF b)) ∧ D.cnd (D.cnd (D.cnd (D.cnd (D.cnd (D.cnd (D.not (fineF a))
    true (D.not (fineF b))) true (D.ne (D.ilen a) (D.ilen b))) true (D.ne (D.ilen v) (D.ilen a))) true (D.not (mildF a))) true (D.not (mildF b))) true (D.not (mildF
    [v])) = D.cnd (D.cnd (D.cnd (D.cnd (D.cnd (D.cnd (D.not (fineF a)) true (D.not (fineF b))) true (D.ne (D.ilen a) (D.ilen b))) true (D.ne (D.ilen v) (D.ilen a)))
    true (D.not (mildF a))) true (D.not (mildF b))) true (D.not (mildF [v])) ∧ a = a ∧ v = v ∧ applyF a v = applyF a v ∧ b = b ∧ v = v ∧ applyF b v = applyF b v ∧ a
    = a ∧ b = b ∧ sumF a b = sumF a b ∧ v = v ∧ applyF (sumF a b) v = applyF (sumF a b) v ∧ applyF a v = applyF a v ∧ D.ilen (applyF a v) = D.ilen (applyF a v) ∧ v
    = v ∧ D.ilen v = D.ilen v ∧ D.ne (D.ilen (applyF a v)) (D.ilen v) = D.ne (D.ilen (applyF a v)) (D.ilen v) ∧ D.ne (D.ilen (applyF a v)) (D.ilen v) = D.ne (D.ilen
    (applyF a v)) (D.ilen v) ∧ D.cnd (D.ne (D.ilen (applyF a v)) (D.ilen v)) true (D.ne (D.ilen (applyF b v)) (D.ilen v)) = D.cnd (D.ne (D.ilen (applyF a v))
    (D.ilen v)) true (D.ne (D.ilen (applyF b v)) (D.ilen v)) ∧ D.cnd (D.ne (D.ilen (applyF a v)) (D.ilen v)) true (D.ne (D.ilen (applyF b v)) (D.ilen v)) = D.cnd
    (D.ne (D.ilen (applyF a v)) (D.ilen v)) true (D.ne (D.ilen (applyF b v)) (D.ilen v)) ∧ D.cnd (D.cnd (D.ne (D.ilen (applyF a v)) (D.ilen v)) true (D.ne (D.ilen
    (applyF b v)) (D.ilen v))) true (D.ne (D.ilen (applyF (sumF a b) v)) (D.ilen v)) = D.cnd (D.cnd (D.ne (D.ilen (applyF a v)) (D.ilen v)) true (D.ne (D.ilen
    (applyF b v)) (D.ilen v))) true (D.ne (D.ilen (applyF (sumF a b) v)) (D.ilen v)) ∧ True) ∧ ∀ (x : Int), kTo x (D.ilen v) → (D.lt x (D.ilen v) = true → D.ile (0
    : Int) x ∧ D.ilt x (D.ilen (applyF (sumF a b) v)) ∧ D.ile (0 : Int) x ∧ D.ilt x (D.ilen (applyF a v)) ∧ D.ile (0 : Int) x ∧ D.ilt x (D.ilen (applyF b v)) ∧
    (D.ne (D.get (applyF (sumF a b) v) (D.nat x) (0 : Int)) (D.mx (D.get (applyF a v) (D.nat x) (0 : Int)) (D.get (applyF b v) (D.nat x) (0 : Int))) = true → false
    = true ∧ True) ∧ (D.ne (D.get (applyF (sumF a b) v) (D.nat x) (0 : Int)) (D.mx (D.get (applyF a v) (D.nat x) (0 : Int)) (D.get (applyF b v) (D.nat x) (0 :
    Int))) = false → inR IntKind.i64 (D.add x (1 : Int)) ∧ ∃ y, kTo y (D.ilen v) ∧ (a = a ∧ b = b ∧ v = v ∧ true = true ∧ applyF a v = applyF a v ∧ applyF b v =
    applyF b v ∧ applyF (sumF a b) v = applyF (sumF a b) v ∧ D.add x (1 : Int) = y ∧ true = true ∧ a = a ∧ fineF a = fineF a ∧ D.not (fineF a) = D.not (fineF a) ∧
    D.not (fineF a) = D.not (fineF a) ∧ D.cnd (D.not (fineF a)) true (D.not (fineF b)) = D.cnd (D.not (fineF a)) true (D.not (fineF b)) ∧ D.cnd (D.not (fineF a))
    true (D.not (fineF b)) = D.cnd (D.not (fineF a)) true (D.not (fineF b)) ∧ D.cnd (D.cnd (D.not (fineF a)) true (D.not (fineF b))) true (D.ne (D.ilen a) (D.ilen
    b)) = D.cnd (D.cnd (D.not (fineF a)) true (D.not (fineF b))) true (D.ne (D.ilen a) (D.ilen b)) ∧ D.cnd (D.cnd (D.not (fineF a)) true (D.not (fineF b))) true
    (D.ne (D.ilen a) (D.ilen b)) = D.cnd (D.cnd (D.not (fineF a)) true (D.not (fineF b))) true (D.ne (D.ilen a) (D.ilen b)) ∧ D.cnd (D.cnd (D.cnd (D.not (fineF a))
    true (D.not (fineF b))) true (D.ne (D.ilen a) (D.ilen b))) true (D.ne (D.ilen v) (D.ilen a)) = D.cnd (D.cnd (D.cnd (D.not (fineF a)) true (D.not (fineF b)))
    true (D.ne (D.ilen a) (D.ilen b))) true (D.ne (D.ilen v) (D.ilen a)) ∧ D.cnd (D.cnd (D.cnd (D.not (fineF a)) true (D.not (fineF b))) true (D.ne (D.ilen a)
    (D.ilen b))) true (D.ne (D.ilen v) (D.ilen a)) = D.cnd (D.cnd (D.cnd (D.not (fineF a)) true (D.not (fineF b))) true (D.ne (D.ilen a) (D.ilen b))) true (D.ne
    (D.ilen v) (D.ilen a)) ∧ D.cnd (D.cnd (D.cnd (D.cnd (D.not (fineF a)) true (D.not (fineF b))) true (D.ne (D.ilen a) (D.ilen b))) true (D.ne (D.ilen v) (D.ilen
    a))) true (D.not (mildF a)) = D.cnd (D.cnd (D.cnd (D.cnd (D.not (fineF a)) true (D.not (fineF b))) true (D.ne (D.ilen a) (D.ilen b))) true (D.ne (D.ilen v)
    (D.ilen a))) true (D.not (mildF a)) ∧ D.cnd (D.cnd (D.cnd (D.cnd (D.not (fineF a)) true (D.not (fineF b))) true (D.ne (D.ilen a) (D.ilen b))) true (D.ne (D.ilen
    v) (D.ilen a))) true (D.not (mildF a)) = D.cnd (D.cnd (D.cnd (D.cnd (D.not (fineF a)) true (D.not (fineF b))) true (D.ne (D.ilen a) (D.ilen b))) true (D.ne
    (D.ilen v) (D.ilen a))) true (D.not (mildF a)) ∧ D.cnd (D.cnd (D.cnd (D.cnd (D.cnd (D.not (fineF a)) true (D.not (fineF b))) true (D.ne (D.ilen a) (D.ilen b)))
    true (D.ne (D.ilen v) (D.ilen a))) true (D.not (mildF a))) true (D.not (mildF b)) = D.cnd (D.cnd (D.cnd (D.cnd (D.cnd (D.not (fineF a)) true (D.not (fineF b)))
    true (D.ne (D.ilen a) (D.ilen b))) true (D.ne (D.ilen v) (D.ilen a))) true (D.not (mildF a))) true (D.not (mildF b)) ∧ D.cnd (D.cnd (D.cnd (D.cnd (D.cnd (D.not
    (fineF a)) true (D.not (fineF b))) true (D.ne (D.ilen a) (D.ilen b))) true (D.ne (D.ilen v) (D.ilen a))) true (D.not (mildF a))) true (D.not (mildF b)) = D.cnd
    (D.cnd (D.cnd (D.cnd (D.cnd (D.not (fineF a)) true (D.not (fineF b))) true (D.ne (D.ilen a) (D.ilen b))) true (D.ne (D.ilen v) (D.ilen a))) true (D.not (mildF
    a))) true (D.not (mildF b)) ∧ D.cnd (D.cnd (D.cnd (D.cnd (D.cnd (D.cnd (D.not (fineF a)) true (D.not (fineF b))) true (D.ne (D.ilen a) (D.ilen b))) true (D.ne
    (D.ilen v) (D.ilen a))) true (D.not (mildF a))) true (D.not (mildF b))) true (D.not (mildF [v])) = D.cnd (D.cnd (D.cnd (D.cnd (D.cnd (D.cnd (D.not (fineF a))
    true (D.not (fineF b))) true (D.ne (D.ilen a) (D.ilen b))) true (D.ne (D.ilen v) (D.ilen a))) true (D.not (mildF a))) true (D.not (mildF b))) true (D.not (mildF
    [v])) ∧ a = a ∧ v = v ∧ applyF a v = applyF a v ∧ b = b ∧ v = v ∧ applyF b v = applyF b v ∧ a = a ∧ b = b ∧ sumF a b = sumF a b ∧ v = v ∧ applyF (sumF a b) v =
    applyF (sumF a b) v ∧ applyF a v = applyF a v ∧ D.ilen (applyF a v) = D.ilen (applyF a v) ∧ v = v ∧ D.ilen v = D.ilen v ∧ D.ne (D.ilen (applyF a v)) (D.ilen v)
    = D.ne (D.ilen (applyF a v)) (D.ilen v) ∧ D.ne (D.ilen (applyF a v)) (D.ilen v) = D.ne (D.ilen (applyF a v)) (D.ilen v) ∧ D.cnd (D.ne (D.ilen (applyF a v))
    (D.ilen v)) true (D.ne (D.ilen (applyF b v)) (D.ilen v)) = D.cnd (D.ne (D.ilen (applyF a v)) (D.ilen v)) true (D.ne (D.ilen (applyF b v)) (D.ilen v)) ∧ D.cnd
    (D.ne (D.ilen (applyF a v)) (D.ilen v)) true (D.ne (D.ilen (applyF b v)) (D.ilen v)) = D.cnd (D.ne (D.ilen (applyF a v)) (D.ilen v)) true (D.ne (D.ilen (applyF
    b v)) (D.ilen v)) ∧ D.cnd (D.cnd (D.ne (D.ilen (applyF a v)) (D.ilen v)) true (D.ne (D.ilen (applyF b v)) (D.ilen v))) true (D.ne (D.ilen (applyF (sumF a b) v))
    (D.ilen v)) = D.cnd (D.cnd (D.ne (D.ilen (applyF a v)) (D.ilen v)) true (D.ne (D.ilen (applyF b v)) (D.ilen v))) true (D.ne (D.ilen (applyF (sumF a b) v))
    (D.ilen v)) ∧ True) ∧ D.nlt (D.nat (D.sub (D.ilen v) y)) (D.nat (D.sub (D.ilen v) x)))) ∧ (D.lt x (D.ilen v) = false → (true = true → true = true → true = true)
    ∧ (true = true → true = true → true = true) ∧ (true = true → True) ∧ (true = true → true = true → true = true) ∧ (true = true → true = true → true = true) ∧
    (true = true → True) ∧ (true = true → true = true → true = true) ∧ (true = true → true = true → true = true) ∧ (true = true → True) ∧ (true = true → true = true
    → true = true) ∧ (true = true → true = true → true = true) ∧ (true = true → lenOk (applyF (prodF a b) v)) ∧ (D.and true true = true → true = true) ∧ (D.cnd true
    (intsF (applyF (prodF a b) v) (applyF a (applyF b v))) false = true → D.cnd true (intsF (applyF (prodF a b) v) (applyF a (applyF b v))) false = true → D.cnd
    true (intsF (applyF (prodF a b) v) (applyF a (applyF b v))) false = true) ∧ (D.cnd true (intsF (applyF (prodF a b) v) (applyF a (applyF b v))) false = true →
    D.cnd true (intsF (applyF (prodF a b) v) (applyF a (applyF b v))) false = true → D.cnd true (intsF (applyF (prodF a b) v) (applyF a (applyF b v))) false = true)
    ∧ (D.cnd true (intsF (applyF (prodF a b) v) (applyF a (applyF b v))) false = true → small (D.ilen v)) ∧ (D.cnd true (intsF (applyF (prodF a b) v) (applyF a
    (applyF b v))) false = true → D.cnd true (intsF (applyF (prodF a b) v) (applyF a (applyF b v))) false = true → D.cnd true (intsF (applyF (prodF a b) v) (applyF
    a (applyF b v))) false = true) ∧ (D.cnd true (intsF (applyF (prodF a b) v) (applyF a (applyF b v))) false = true → D.cnd true (intsF (applyF (prodF a b) v)
    (applyF a (applyF b v))) false = true → D.cnd true (intsF (applyF (prodF a b) v) (applyF a (applyF b v))) false = true) ∧ (D.cnd true (intsF (applyF (prodF a b)
    v) (applyF a (applyF b v))) false = true → True) ∧ (D.cnd true (intsF (applyF (prodF a b) v) (applyF a (applyF b v))) false = true → D.cnd true (intsF (applyF
    (prodF a b) v) (applyF a (applyF b v))) false = true → D.cnd true (intsF (applyF (prodF a b) v) (applyF a (applyF b v))) false = true) ∧ (D.cnd true (intsF
    (applyF (prodF a b) v) (applyF a (applyF b v))) false = true → D.cnd true (intsF (applyF (prodF a b) v) (applyF a (applyF b v))) false = true → D.cnd true
    (intsF (applyF (prodF a b) v) (applyF a (applyF b v))) false = true) ∧ (D.cnd true (intsF (applyF (prodF a b) v) (applyF a (applyF b v))) false = true → D.cnd
    true (intsF (applyF (prodF a b) v) (applyF a (applyF b v))) false = true → D.cnd true (intsF (applyF (prodF a b) v) (applyF a (applyF b v))) false = true) ∧
    (D.cnd true (intsF (applyF (prodF a b) v) (applyF a (applyF b v))) false = true → cleanP [v]) ∧ (D.cnd true (intsF (applyF (prodF a b) v) (applyF a (applyF b
    v))) false = true → D.cnd true (intsF (applyF (prodF a b) v) (applyF a (applyF b v))) false = true → D.cnd true (intsF (applyF (prodF a b) v) (applyF a (applyF
    b v))) false = true) ∧ (D.cnd true (intsF (applyF (prodF a b) v) (applyF a (applyF b v))) false = true → D.cnd true (intsF (applyF (prodF a b) v) (applyF a
    (applyF b v))) false = true → D.cnd true (intsF (applyF (prodF a b) v) (applyF a (applyF b v))) false = true) ∧ (D.cnd true (intsF (applyF (prodF a b) v)
    (applyF a (applyF b v))) false = true → lensOk [applyF (oneF (D.ilen v)) v]) ∧ (D.and true (D.cnd true (intsF (applyF (prodF a b) v) (applyF a (applyF b v)))
    false) = true → D.cnd true (intsF (applyF (prodF a b) v) (applyF a (applyF b v))) false = true) ∧ D.cnd (D.cnd true (intsF (applyF (prodF a b) v) (applyF a
    (applyF b v))) false) (sameF [applyF (oneF (D.ilen v)) v] (cleanF [v])) false = true ∧ True))))) :
    evF c11 (colA v) 6 [.dat M a, .dat M b, .dat R v] ⟨True, .dat .bool true⟩ := of_eq (by kernel_rfl) h

theorem vc_Stars (m : List (List Int)) (h :
     true = true ∧ true = true ∧ (True → True ∧ True ∧ (D.not (D.not (fineF m)) = true → D.not (D.not (fineF m)) = true → D.not (D.not (fineF m)) = true) ∧
    (D.not (D.not (fineF m)) = true → cleanP m) ∧ (D.not (D.not (fineF m)) = true → D.not (D.not (fineF m)) = true → D.not (D.not (fineF m)) = true) ∧ (D.and true
    (D.not (D.not (fineF m))) = true → D.not (D.not (fineF m)) = true) ∧ (D.cnd (D.not (fineF m)) true (D.not (mildF m)) = true → true = true ∧ True) ∧ (D.cnd
    (D.not (fineF m)) true (D.not (mildF m)) = false → starP m ∧ (D.ne (starE m) (0 : Int) = true → (true = true → true = true → true = true) ∧ (D.and true true =
    true → true = true) ∧ (D.cnd true (D.eq (starE m) (120 : Int)) false = true → D.cnd true (D.eq (starE m) (120 : Int)) false = true → D.cnd true (D.eq (starE m)
    (120 : Int)) false = true) ∧ (D.cnd true (D.eq (starE m) (120 : Int)) false = true → D.cnd true (D.eq (starE m) (120 : Int)) false = true → D.cnd true (D.eq
    (starE m) (120 : Int)) false = true) ∧ (D.and true (D.cnd true (D.eq (starE m) (120 : Int)) false) = true → D.cnd true (D.eq (starE m) (120 : Int)) false =
    true) ∧ D.cnd (D.cnd true (D.eq (starE m) (120 : Int)) false) (D.eq (D.ilen (starS m)) (0 : Int)) false = true ∧ True) ∧ (D.ne (starE m) (0 : Int) = false →
    small (D.ilen m) ∧ starP (starS m) ∧ (true = true → true = true → true = true) ∧ (true = true → true = true → true = true) ∧ (true = true → true = true → true =
    true) ∧ (true = true → true = true → true = true) ∧ (D.and true true = true → true = true) ∧ (D.cnd true (D.eq (D.ilen (starS m)) (D.ilen m)) false = true →
    D.cnd true (D.eq (D.ilen (starS m)) (D.ilen m)) false = true → D.cnd true (D.eq (D.ilen (starS m)) (D.ilen m)) false = true) ∧ (D.cnd true (D.eq (D.ilen (starS
    m)) (D.ilen m)) false = true → D.cnd true (D.eq (D.ilen (starS m)) (D.ilen m)) false = true → D.cnd true (D.eq (D.ilen (starS m)) (D.ilen m)) false = true) ∧
    (D.cnd true (D.eq (D.ilen (starS m)) (D.ilen m)) false = true → True) ∧ (D.cnd true (D.eq (D.ilen (starS m)) (D.ilen m)) false = true → D.cnd true (D.eq (D.ilen
    (starS m)) (D.ilen m)) false = true → D.cnd true (D.eq (D.ilen (starS m)) (D.ilen m)) false = true) ∧ (D.cnd true (D.eq (D.ilen (starS m)) (D.ilen m)) false =
    true → D.cnd true (D.eq (D.ilen (starS m)) (D.ilen m)) false = true → D.cnd true (D.eq (D.ilen (starS m)) (D.ilen m)) false = true) ∧ (D.cnd true (D.eq (D.ilen
    (starS m)) (D.ilen m)) false = true → True) ∧ (D.cnd true (D.eq (D.ilen (starS m)) (D.ilen m)) false = true → D.cnd true (D.eq (D.ilen (starS m)) (D.ilen m))
    false = true → D.cnd true (D.eq (D.ilen (starS m)) (D.ilen m)) false = true) ∧ (D.cnd true (D.eq (D.ilen (starS m)) (D.ilen m)) false = true → D.cnd true (D.eq
    (D.ilen (starS m)) (D.ilen m)) false = true → D.cnd true (D.eq (D.ilen (starS m)) (D.ilen m)) false = true) ∧ (D.cnd true (D.eq (D.ilen (starS m)) (D.ilen m))
    false = true → lensOk (starS m)) ∧ (D.and true (D.cnd true (D.eq (D.ilen (starS m)) (D.ilen m)) false) = true → D.cnd true (D.eq (D.ilen (starS m)) (D.ilen m))
    false = true) ∧ (D.cnd (D.cnd true (D.eq (D.ilen (starS m)) (D.ilen m)) false) (sameF (starS m) (sumF (oneF (D.ilen m)) (prodF m (starS m)))) false = true →
    D.cnd (D.cnd true (D.eq (D.ilen (starS m)) (D.ilen m)) false) (sameF (starS m) (sumF (oneF (D.ilen m)) (prodF m (starS m)))) false = true → D.cnd (D.cnd true
    (D.eq (D.ilen (starS m)) (D.ilen m)) false) (sameF (starS m) (sumF (oneF (D.ilen m)) (prodF m (starS m)))) false = true) ∧ (D.cnd (D.cnd true (D.eq (D.ilen
    (starS m)) (D.ilen m)) false) (sameF (starS m) (sumF (oneF (D.ilen m)) (prodF m (starS m)))) false = true → D.cnd (D.cnd true (D.eq (D.ilen (starS m)) (D.ilen
    m)) false) (sameF (starS m) (sumF (oneF (D.ilen m)) (prodF m (starS m)))) false = true → D.cnd (D.cnd true (D.eq (D.ilen (starS m)) (D.ilen m)) false) (sameF
    (starS m) (sumF (oneF (D.ilen m)) (prodF m (starS m)))) false = true) ∧ (D.cnd (D.cnd true (D.eq (D.ilen (starS m)) (D.ilen m)) false) (sameF (starS m) (sumF
    (oneF (D.ilen m)) (prodF m (starS m)))) false = true → True) ∧ (D.cnd (D.cnd true (D.eq (D.ilen (starS m)) (D.ilen m)) false) (sameF (starS m) (sumF (oneF
    (D.ilen m)) (prodF m (starS m)))) false = true → D.cnd (D.cnd true (D.eq (D.ilen (starS m)) (D.ilen m)) false) (sameF (starS m) (sumF (oneF (D.ilen m)) (prodF m
    (starS m)))) false = true → D.cnd (D.cnd true (D.eq (D.ilen (starS m)) (D.ilen m)) false) (sameF (starS m) (sumF (oneF (D.ilen m)) (prodF m (starS m)))) false =
    true) ∧ (D.cnd (D.cnd true (D.eq (D.ilen (starS m)) (D.ilen m)) false) (sameF (starS m) (sumF (oneF (D.ilen m)) (prodF m (starS m)))) false = true → D.cnd
    (D.cnd true (D.eq (D.ilen (starS m)) (D.ilen m)) false) (sameF (starS m) (sumF (oneF (D.ilen m)) (prodF m (starS m)))) false = true → D.cnd (D.cnd true (D.eq
    (D.ilen (starS m)) (D.ilen m)) false) (sameF (starS m) (sumF (oneF (D.ilen m)) (prodF m (starS m)))) false = true) ∧ (D.cnd (D.cnd true (D.eq (D.ilen (starS m))
    (D.ilen m)) false) (sameF (starS m) (sumF (oneF (D.ilen m)) (prodF m (starS m)))) false = true → True) ∧ (D.cnd (D.cnd true (D.eq (D.ilen (starS m)) (D.ilen m))
    false) (sameF (starS m) (sumF (oneF (D.ilen m)) (prodF m (starS m)))) false = true → D.cnd (D.cnd true (D.eq (D.ilen (starS m)) (D.ilen m)) false) (sameF (starS
    m) (sumF (oneF (D.ilen m)) (prodF m (starS m)))) false = true → D.cnd (D.cnd true (D.eq (D.ilen (starS m)) (D.ilen m)) false) (sameF (starS m) (sumF (oneF
    (D.ilen m)) (prodF m (starS m)))) false = true) ∧ (D.cnd (D.cnd true (D.eq (D.ilen (starS m)) (D.ilen m)) false) (sameF (starS m) (sumF (oneF (D.ilen m)) (prodF
    m (starS m)))) false = true → D.cnd (D.cnd true (D.eq (D.ilen (starS m)) (D.ilen m)) false) (sameF (starS m) (sumF (oneF (D.ilen m)) (prodF m (starS m)))) false
    = true → D.cnd (D.cnd true (D.eq (D.ilen (starS m)) (D.ilen m)) false) (sameF (starS m) (sumF (oneF (D.ilen m)) (prodF m (starS m)))) false = true) ∧ (D.cnd
    (D.cnd true (D.eq (D.ilen (starS m)) (D.ilen m)) false) (sameF (starS m) (sumF (oneF (D.ilen m)) (prodF m (starS m)))) false = true → lensOk (starS m)) ∧ (D.and
    true (D.cnd (D.cnd true (D.eq (D.ilen (starS m)) (D.ilen m)) false) (sameF (starS m) (sumF (oneF (D.ilen m)) (prodF m (starS m)))) false) = true → D.cnd (D.cnd
    true (D.eq (D.ilen (starS m)) (D.ilen m)) false) (sameF (starS m) (sumF (oneF (D.ilen m)) (prodF m (starS m)))) false = true) ∧ (D.cnd (D.cnd (D.cnd true (D.eq
    (D.ilen (starS m)) (D.ilen m)) false) (sameF (starS m) (sumF (oneF (D.ilen m)) (prodF m (starS m)))) false) (sameF (starS m) (sumF (oneF (D.ilen m)) (prodF
    (starS m) m))) false = true → D.cnd (D.cnd (D.cnd true (D.eq (D.ilen (starS m)) (D.ilen m)) false) (sameF (starS m) (sumF (oneF (D.ilen m)) (prodF m (starS
    m)))) false) (sameF (starS m) (sumF (oneF (D.ilen m)) (prodF (starS m) m))) false = true → D.cnd (D.cnd (D.cnd true (D.eq (D.ilen (starS m)) (D.ilen m)) false)
    (sameF (starS m) (sumF (oneF (D.ilen m)) (prodF m (starS m)))) false) (sameF (starS m) (sumF (oneF (D.ilen m)) (prodF (starS m) m))) false = true) ∧ (D.cnd
    (D.cnd (D.cnd true (D.eq (D.ilen (starS m)) (D.ilen m)) false) (sameF (starS m) (sumF (oneF (D.ilen m)) (prodF m (starS m)))) false) (sameF (starS m) (sumF
    (oneF (D.ilen m)) (prodF (starS m) m))) false = true → D.cnd (D.cnd (D.cnd true (D.eq (D.ilen (starS m)) (D.ilen m)) false) (sameF (starS m) (sumF (oneF (D.ilen
    m)) (prodF m (starS m)))) false) (sameF (starS m) (sumF (oneF (D.ilen m)) (prodF (starS m) m))) false = true → D.cnd (D.cnd (D.cnd true (D.eq (D.ilen (starS m))
    (D.ilen m)) false) (sameF (starS m) (sumF (oneF (D.ilen m)) (prodF m (starS m)))) false) (sameF (starS m) (sumF (oneF (D.ilen m)) (prodF (starS m) m))) false =
    true) ∧ (D.cnd (D.cnd (D.cnd true (D.eq (D.ilen (starS m)) (D.ilen m)) false) (sameF (starS m) (sumF (oneF (D.ilen m)) (prodF m (starS m)))) false) (sameF
    (starS m) (sumF (oneF (D.ilen m)) (prodF (starS m) m))) false = true → True) ∧ (D.cnd (D.cnd (D.cnd true (D.eq (D.ilen (starS m)) (D.ilen m)) false) (sameF
    (starS m) (sumF (oneF (D.ilen m)) (prodF m (starS m)))) false) (sameF (starS m) (sumF (oneF (D.ilen m)) (prodF (starS m) m))) false = true → D.cnd (D.cnd (D.cnd
    true (D.eq (D.ilen (starS m)) (D.ilen m)) false) (sameF (starS m) (sumF (oneF (D.ilen m)) (prodF m (starS m)))) false) (sameF (starS m) (sumF (oneF (D.ilen m))
    (prodF (starS m) m))) false = true → D.cnd (D.cnd (D.cnd true (D.eq (D.ilen (starS m)) (D.ilen m)) false) (sameF (starS m) (sumF (oneF (D.ilen m)) (prodF m
    (starS m)))) false) (sameF (starS m) (sumF (oneF (D.ilen m)) (prodF (starS m) m))) false = true) ∧ (D.cnd (D.cnd (D.cnd true (D.eq (D.ilen (starS m)) (D.ilen
    m)) false) (sameF (starS m) (sumF (oneF (D.ilen m)) (prodF m (starS m)))) false) (sameF (starS m) (sumF (oneF (D.ilen m)) (prodF (starS m) m))) false = true →
    D.cnd (D.cnd (D.cnd true (D.eq (D.ilen (starS m)) (D.ilen m)) false) (sameF (starS m) (sumF (oneF (D.ilen m)) (prodF m (starS m)))) false) (sameF (starS m)
    (sumF (oneF (D.ilen m)) (prodF (starS m) m))) false = true → D.cnd (D.cnd (D.cnd true (D.eq (D.ilen (starS m)) (D.ilen m)) false) (sameF (starS m) (sumF (oneF
    (D.ilen m)) (prodF m (starS m)))) false) (sameF (starS m) (sumF (oneF (D.ilen m)) (prodF (starS m) m))) false = true) ∧ (D.cnd (D.cnd (D.cnd true (D.eq (D.ilen
    (starS m)) (D.ilen m)) false) (sameF (starS m) (sumF (oneF (D.ilen m)) (prodF m (starS m)))) false) (sameF (starS m) (sumF (oneF (D.ilen m)) (prodF (starS m)
    m))) false = true → lensOk (starS m)) ∧ (D.and true (D.cnd (D.cnd (D.cnd true (D.eq (D.ilen (starS m)) (D.ilen m)) false) (sameF (starS m) (sumF (oneF (D.ilen
    m)) (prodF m (starS m)))) false) (sameF (starS m) (sumF (oneF (D.ilen m)) (prodF (starS m) m))) false) = true → D.cnd (D.cnd (D.cnd true (D.eq (D.ilen (starS
    m)) (D.ilen m)) false) (sameF (starS m) (sumF (oneF (D.ilen m)) (prodF m (starS m)))) false) (sameF (starS m) (sumF (oneF (D.ilen m)) (prodF (starS m) m)))
    false = true) ∧ (D.cnd (D.cnd (D.cnd (D.cnd true (D.eq (D.ilen (starS m)) (D.ilen m)) false) (sameF (starS m) (sumF (oneF (D.ilen m)) (prodF m (starS m))))
    false) (sameF (starS m) (sumF (oneF (D.ilen m)) (prodF (starS m) m))) false) (sameF (starS m) (prodF (starS m) (starS m))) false = true → D.cnd (D.cnd (D.cnd
    (D.cnd true (D.eq (D.ilen (starS m)) (D.ilen m)) false) (sameF (starS m) (sumF (oneF (D.ilen m)) (prodF m (starS m)))) false) (sameF (starS m) (sumF (oneF
    (D.ilen m)) (prodF (starS m) m))) false) (sameF (starS m) (prodF (starS m) (starS m))) false = true → D.cnd (D.cnd (D.cnd (D.cnd true (D.eq (D.ilen (starS m))
    (D.ilen m)) false) (sameF (starS m) (sumF (oneF (D.ilen m)) (prodF m (starS m)))) false) (sameF (starS m) (sumF (oneF (D.ilen m)) (prodF (starS m) m))) false)
    (sameF (starS m) (prodF (starS m) (starS m))) false = true) ∧ (D.and true (D.cnd (D.cnd (D.cnd (D.cnd true (D.eq (D.ilen (starS m)) (D.ilen m)) false) (sameF
    (starS m) (sumF (oneF (D.ilen m)) (prodF m (starS m)))) false) (sameF (starS m) (sumF (oneF (D.ilen m)) (prodF (starS m) m))) false) (sameF (starS m) (prodF
    (starS m) (starS m))) false) = true → D.cnd (D.cnd (D.cnd (D.cnd true (D.eq (D.ilen (starS m)) (D.ilen m)) false) (sameF (starS m) (sumF (oneF (D.ilen m))
    (prodF m (starS m)))) false) (sameF (starS m) (sumF (oneF (D.ilen m)) (prodF (starS m) m))) false) (sameF (starS m) (prodF (starS m) (starS m))) false = true) ∧
    (D.cnd (D.cnd (D.cnd (D.cnd (D.cnd true (D.eq (D.ilen (starS m)) (D.ilen m)) false) (sameF (starS m) (sumF (oneF (D.ilen m)) (prodF m (starS m)))) false) (sameF
    (starS m) (sumF (oneF (D.ilen m)) (prodF (starS m) m))) false) (sameF (starS m) (prodF (starS m) (starS m))) false) (D.eq (starE (starS m)) (0 : Int)) false =
    true → D.cnd (D.cnd (D.cnd (D.cnd (D.cnd true (D.eq (D.ilen (starS m)) (D.ilen m)) false) (sameF (starS m) (sumF (oneF (D.ilen m)) (prodF m (starS m)))) false)
    (sameF (starS m) (sumF (oneF (D.ilen m)) (prodF (starS m) m))) false) (sameF (starS m) (prodF (starS m) (starS m))) false) (D.eq (starE (starS m)) (0 : Int))
    false = true → D.cnd (D.cnd (D.cnd (D.cnd (D.cnd true (D.eq (D.ilen (starS m)) (D.ilen m)) false) (sameF (starS m) (sumF (oneF (D.ilen m)) (prodF m (starS m))))
    false) (sameF (starS m) (sumF (oneF (D.ilen m)) (prodF (starS m) m))) false) (sameF (starS m) (prodF (starS m) (starS m))) false) (D.eq (starE (starS m)) (0 :
    Int)) false = true) ∧ (D.cnd (D.cnd (D.cnd (D.cnd (D.cnd true (D.eq (D.ilen (starS m)) (D.ilen m)) false) (sameF (starS m) (sumF (oneF (D.ilen m)) (prodF m
    (starS m)))) false) (sameF (starS m) (sumF (oneF (D.ilen m)) (prodF (starS m) m))) false) (sameF (starS m) (prodF (starS m) (starS m))) false) (D.eq (starE
    (starS m)) (0 : Int)) false = true → D.cnd (D.cnd (D.cnd (D.cnd (D.cnd true (D.eq (D.ilen (starS m)) (D.ilen m)) false) (sameF (starS m) (sumF (oneF (D.ilen m))
    (prodF m (starS m)))) false) (sameF (starS m) (sumF (oneF (D.ilen m)) (prodF (starS m) m))) false) (sameF (starS m) (prodF (starS m) (starS m))) false) (D.eq
    (starE (starS m)) (0 : Int)) false = true → D.cnd (D.cnd (D.cnd (D.cnd (D.cnd true (D.eq (D.ilen (starS m)) (D.ilen m)) false) (sameF (starS m) (sumF (oneF
    (D.ilen m)) (prodF m (starS m)))) false) (sameF (starS m) (sumF (oneF (D.ilen m)) (prodF (starS m) m))) false) (sameF (starS m) (prodF (starS m) (starS m)))
    false) (D.eq (starE (starS m)) (0 : Int)) false = true) ∧ (D.cnd (D.cnd (D.cnd (D.cnd (D.cnd true (D.eq (D.ilen (starS m)) (D.ilen m)) false) (sameF (starS m)
    (sumF (oneF (D.ilen m)) (prodF m (starS m)))) false) (sameF (starS m) (sumF (oneF (D.ilen m)) (prodF (starS m) m))) false) (sameF (starS m) (prodF (starS m)
    (starS m))) false) (D.eq (starE (starS m)) (0 : Int)) false = true → lensOk (starS (starS m))) ∧ (D.and true (D.cnd (D.cnd (D.cnd (D.cnd (D.cnd true (D.eq
    (D.ilen (starS m)) (D.ilen m)) false) (sameF (starS m) (sumF (oneF (D.ilen m)) (prodF m (starS m)))) false) (sameF (starS m) (sumF (oneF (D.ilen m)) (prodF
    (starS m) m))) false) (sameF (starS m) (prodF (starS m) (starS m))) false) (D.eq (starE (starS m)) (0 : Int)) false) = true → D.cnd (D.cnd (D.cnd (D.cnd (D.cnd
    true (D.eq (D.ilen (starS m)) (D.ilen m)) false) (sameF (starS m) (sumF (oneF (D.ilen m)) (prodF m (starS m)))) false) (sameF (starS m) (sumF (oneF (D.ilen m))
    (prodF (starS m) m))) false) (sameF (starS m) (prodF (starS m) (starS m))) false) (D.eq (starE (starS m)) (0 : Int)) false = true) ∧ D.cnd (D.cnd (D.cnd (D.cnd
    (D.cnd (D.cnd true (D.eq (D.ilen (starS m)) (D.ilen m)) false) (sameF (starS m) (sumF (oneF (D.ilen m)) (prodF m (starS m)))) false) (sameF (starS m) (sumF
    (oneF (D.ilen m)) (prodF (starS m) m))) false) (sameF (starS m) (prodF (starS m) (starS m))) false) (D.eq (starE (starS m)) (0 : Int)) false) (sameF (starS
    (starS m)) (starS m)) false = true ∧ True)))) :
    evF c11 noAnn 7 [.dat M m] ⟨True, .dat .bool true⟩ := of_eq (by kernel_rfl) h

theorem vc_Least (m x : List (List Int)) (h :
     true = true ∧ true = true ∧ (True → True ∧ True ∧ (D.not (D.not (fineF m)) = true → D.not (D.not (fineF m)) = true → D.not (D.not (fineF m)) = true) ∧
    (D.not (D.not (fineF m)) = true → True) ∧ (D.not (D.not (fineF m)) = true → D.not (D.not (fineF m)) = true → D.not (D.not (fineF m)) = true) ∧ (D.and true
    (D.not (D.not (fineF m))) = true → D.not (D.not (fineF m)) = true) ∧ (D.not (D.cnd (D.not (fineF m)) true (D.not (fineF x))) = true → D.not (D.cnd (D.not (fineF
    m)) true (D.not (fineF x))) = true → D.not (D.cnd (D.not (fineF m)) true (D.not (fineF x))) = true) ∧ (D.not (D.cnd (D.not (fineF m)) true (D.not (fineF x))) =
    true → D.not (D.cnd (D.not (fineF m)) true (D.not (fineF x))) = true → D.not (D.cnd (D.not (fineF m)) true (D.not (fineF x))) = true) ∧ (D.not (D.cnd (D.not
    (fineF m)) true (D.not (fineF x))) = true → D.not (D.cnd (D.not (fineF m)) true (D.not (fineF x))) = true → D.not (D.cnd (D.not (fineF m)) true (D.not (fineF
    x))) = true) ∧ (D.not (D.cnd (D.not (fineF m)) true (D.not (fineF x))) = true → D.not (D.cnd (D.not (fineF m)) true (D.not (fineF x))) = true → D.not (D.cnd
    (D.not (fineF m)) true (D.not (fineF x))) = true) ∧ (D.and true (D.not (D.cnd (D.not (fineF m)) true (D.not (fineF x)))) = true → D.not (D.cnd (D.not (fineF m))
    true (D.not (fineF x))) = true) ∧ (D.not (D.cnd (D.cnd (D.not (fineF m)) true (D.not (fineF x))) true (D.ne (D.ilen m) (D.ilen x))) = true → D.not (D.cnd (D.cnd
    (D.not (fineF m)) true (D.not (fineF x))) true (D.ne (D.ilen m) (D.ilen x))) = true → D.not (D.cnd (D.cnd (D.not (fineF m)) true (D.not (fineF x))) true (D.ne
    (D.ilen m) (D.ilen x))) = true) ∧ (D.not (D.cnd (D.cnd (D.not (fineF m)) true (D.not (fineF x))) true (D.ne (D.ilen m) (D.ilen x))) = true → cleanP m) ∧ (D.not
    (D.cnd (D.cnd (D.not (fineF m)) true (D.not (fineF x))) true (D.ne (D.ilen m) (D.ilen x))) = true → D.not (D.cnd (D.cnd (D.not (fineF m)) true (D.not (fineF
    x))) true (D.ne (D.ilen m) (D.ilen x))) = true → D.not (D.cnd (D.cnd (D.not (fineF m)) true (D.not (fineF x))) true (D.ne (D.ilen m) (D.ilen x))) = true) ∧
    (D.and true (D.not (D.cnd (D.cnd (D.not (fineF m)) true (D.not (fineF x))) true (D.ne (D.ilen m) (D.ilen x)))) = true → D.not (D.cnd (D.cnd (D.not (fineF m))
    true (D.not (fineF x))) true (D.ne (D.ilen m) (D.ilen x))) = true) ∧ (D.not (D.cnd (D.cnd (D.cnd (D.not (fineF m)) true (D.not (fineF x))) true (D.ne (D.ilen m)
    (D.ilen x))) true (D.not (mildF m))) = true → D.not (D.cnd (D.cnd (D.cnd (D.not (fineF m)) true (D.not (fineF x))) true (D.ne (D.ilen m) (D.ilen x))) true
    (D.not (mildF m))) = true → D.not (D.cnd (D.cnd (D.cnd (D.not (fineF m)) true (D.not (fineF x))) true (D.ne (D.ilen m) (D.ilen x))) true (D.not (mildF m))) =
    true) ∧ (D.not (D.cnd (D.cnd (D.cnd (D.not (fineF m)) true (D.not (fineF x))) true (D.ne (D.ilen m) (D.ilen x))) true (D.not (mildF m))) = true → cleanP x) ∧
    (D.not (D.cnd (D.cnd (D.cnd (D.not (fineF m)) true (D.not (fineF x))) true (D.ne (D.ilen m) (D.ilen x))) true (D.not (mildF m))) = true → D.not (D.cnd (D.cnd
    (D.cnd (D.not (fineF m)) true (D.not (fineF x))) true (D.ne (D.ilen m) (D.ilen x))) true (D.not (mildF m))) = true → D.not (D.cnd (D.cnd (D.cnd (D.not (fineF
    m)) true (D.not (fineF x))) true (D.ne (D.ilen m) (D.ilen x))) true (D.not (mildF m))) = true) ∧ (D.and true (D.not (D.cnd (D.cnd (D.cnd (D.not (fineF m)) true
    (D.not (fineF x))) true (D.ne (D.ilen m) (D.ilen x))) true (D.not (mildF m)))) = true → D.not (D.cnd (D.cnd (D.cnd (D.not (fineF m)) true (D.not (fineF x)))
    true (D.ne (D.ilen m) (D.ilen x))) true (D.not (mildF m))) = true) ∧ (D.cnd (D.cnd (D.cnd (D.cnd (D.not (fineF m)) true (D.not (fineF x))) true (D.ne (D.ilen m)
    (D.ilen x))) true (D.not (mildF m))) true (D.not (mildF x)) = true → true = true ∧ True) ∧ (D.cnd (D.cnd (D.cnd (D.cnd (D.not (fineF m)) true (D.not (fineF x)))
    true (D.ne (D.ilen m) (D.ilen x))) true (D.not (mildF m))) true (D.not (mildF x)) = false → starP m ∧ True ∧ starP (sumF m x) ∧ (D.eq (starE (sumF m x)) (0 :
    Int) = true → D.eq (starE (sumF m x)) (0 : Int) = true → D.eq (starE (sumF m x)) (0 : Int) = true) ∧ (D.eq (starE (sumF m x)) (0 : Int) = true → D.eq (starE
    (sumF m x)) (0 : Int) = true → D.eq (starE (sumF m x)) (0 : Int) = true) ∧ (D.and (D.eq (starE (sumF m x)) (0 : Int)) (D.not (D.ne (starE m) (0 : Int))) = true
    → D.and (D.eq (starE (sumF m x)) (0 : Int)) (D.not (D.ne (starE m) (0 : Int))) = true → D.and (D.eq (starE (sumF m x)) (0 : Int)) (D.not (D.ne (starE m) (0 :
    Int))) = true) ∧ (D.and (D.eq (starE (sumF m x)) (0 : Int)) (D.not (D.ne (starE m) (0 : Int))) = true → D.and (D.eq (starE (sumF m x)) (0 : Int)) (D.not (D.ne
    (starE m) (0 : Int))) = true → D.and (D.eq (starE (sumF m x)) (0 : Int)) (D.not (D.ne (starE m) (0 : Int))) = true) ∧ (D.and (D.eq (starE (sumF m x)) (0 : Int))
    (D.not (D.ne (starE m) (0 : Int))) = true → lensOk (starS m)) ∧ (D.and (D.eq (starE (sumF m x)) (0 : Int)) (D.not (D.ne (starE m) (0 : Int))) = true → D.and
    (D.eq (starE (sumF m x)) (0 : Int)) (D.not (D.ne (starE m) (0 : Int))) = true → D.and (D.eq (starE (sumF m x)) (0 : Int)) (D.not (D.ne (starE m) (0 : Int))) =
    true) ∧ (D.eq (starE (sumF m x)) (0 : Int) = true → D.eq (starE (sumF m x)) (0 : Int) = true → D.eq (starE (sumF m x)) (0 : Int) = true) ∧ (D.eq (starE (sumF m
    x)) (0 : Int) = true → D.and (D.eq (starE (sumF m x)) (0 : Int)) (D.not (D.ne (starE m) (0 : Int))) = true → D.and (D.eq (starE (sumF m x)) (0 : Int)) (D.not
    (D.ne (starE m) (0 : Int))) = true) ∧ (D.and true (D.eq (starE (sumF m x)) (0 : Int)) = true → D.eq (starE (sumF m x)) (0 : Int) = true) ∧ (D.cnd (D.eq (starE
    (sumF m x)) (0 : Int)) (D.cnd (D.ne (starE m) (0 : Int)) true (D.not (belowF (starS m) (starS (sumF m x))))) false = true → false = true ∧ True) ∧ (D.cnd (D.eq
    (starE (sumF m x)) (0 : Int)) (D.cnd (D.ne (starE m) (0 : Int)) true (D.not (belowF (starS m) (starS (sumF m x))))) false = false → small (D.ilen m) ∧ lensOk
    (oneF (D.ilen m)) ∧ (D.not (D.not (belowF (oneF (D.ilen m)) x)) = true → D.not (D.not (belowF (oneF (D.ilen m)) x)) = true → D.not (D.not (belowF (oneF (D.ilen
    m)) x)) = true) ∧ (D.not (D.not (belowF (oneF (D.ilen m)) x)) = true → D.not (D.not (belowF (oneF (D.ilen m)) x)) = true → D.not (D.not (belowF (oneF (D.ilen
    m)) x)) = true) ∧ (D.not (D.not (belowF (oneF (D.ilen m)) x)) = true → True) ∧ (D.not (D.not (belowF (oneF (D.ilen m)) x)) = true → D.not (D.not (belowF (oneF
    (D.ilen m)) x)) = true → D.not (D.not (belowF (oneF (D.ilen m)) x)) = true) ∧ (D.not (D.not (belowF (oneF (D.ilen m)) x)) = true → D.not (D.not (belowF (oneF
    (D.ilen m)) x)) = true → D.not (D.not (belowF (oneF (D.ilen m)) x)) = true) ∧ (D.not (D.not (belowF (oneF (D.ilen m)) x)) = true → lensOk (prodF m x)) ∧ (D.not
    (D.not (belowF (oneF (D.ilen m)) x)) = true → D.not (D.not (belowF (oneF (D.ilen m)) x)) = true → D.not (D.not (belowF (oneF (D.ilen m)) x)) = true) ∧ (D.and
    true (D.not (D.not (belowF (oneF (D.ilen m)) x))) = true → D.not (D.not (belowF (oneF (D.ilen m)) x)) = true) ∧ (D.not (D.cnd (D.not (belowF (oneF (D.ilen m))
    x)) true (D.not (belowF (prodF m x) x))) = true → D.not (D.cnd (D.not (belowF (oneF (D.ilen m)) x)) true (D.not (belowF (prodF m x) x))) = true → D.not (D.cnd
    (D.not (belowF (oneF (D.ilen m)) x)) true (D.not (belowF (prodF m x) x))) = true) ∧ (D.not (D.cnd (D.not (belowF (oneF (D.ilen m)) x)) true (D.not (belowF
    (prodF m x) x))) = true → D.not (D.cnd (D.not (belowF (oneF (D.ilen m)) x)) true (D.not (belowF (prodF m x) x))) = true → D.not (D.cnd (D.not (belowF (oneF
    (D.ilen m)) x)) true (D.not (belowF (prodF m x) x))) = true) ∧ (D.not (D.cnd (D.not (belowF (oneF (D.ilen m)) x)) true (D.not (belowF (prodF m x) x))) = true →
    True) ∧ (D.not (D.cnd (D.not (belowF (oneF (D.ilen m)) x)) true (D.not (belowF (prodF m x) x))) = true → D.not (D.cnd (D.not (belowF (oneF (D.ilen m)) x)) true
    (D.not (belowF (prodF m x) x))) = true → D.not (D.cnd (D.not (belowF (oneF (D.ilen m)) x)) true (D.not (belowF (prodF m x) x))) = true) ∧ (D.not (D.cnd (D.not
    (belowF (oneF (D.ilen m)) x)) true (D.not (belowF (prodF m x) x))) = true → D.not (D.cnd (D.not (belowF (oneF (D.ilen m)) x)) true (D.not (belowF (prodF m x)
    x))) = true → D.not (D.cnd (D.not (belowF (oneF (D.ilen m)) x)) true (D.not (belowF (prodF m x) x))) = true) ∧ (D.not (D.cnd (D.not (belowF (oneF (D.ilen m))
    x)) true (D.not (belowF (prodF m x) x))) = true → D.not (D.cnd (D.not (belowF (oneF (D.ilen m)) x)) true (D.not (belowF (prodF m x) x))) = true → D.not (D.cnd
    (D.not (belowF (oneF (D.ilen m)) x)) true (D.not (belowF (prodF m x) x))) = true) ∧ (D.not (D.cnd (D.not (belowF (oneF (D.ilen m)) x)) true (D.not (belowF
    (prodF m x) x))) = true → D.not (D.cnd (D.not (belowF (oneF (D.ilen m)) x)) true (D.not (belowF (prodF m x) x))) = true → D.not (D.cnd (D.not (belowF (oneF
    (D.ilen m)) x)) true (D.not (belowF (prodF m x) x))) = true) ∧ (D.and true (D.not (D.cnd (D.not (belowF (oneF (D.ilen m)) x)) true (D.not (belowF (prodF m x)
    x)))) = true → D.not (D.cnd (D.not (belowF (oneF (D.ilen m)) x)) true (D.not (belowF (prodF m x) x))) = true) ∧ (D.cnd (D.cnd (D.not (belowF (oneF (D.ilen m))
    x)) true (D.not (belowF (prodF m x) x))) true (D.ne (D.ilen (prodF m x)) (D.ilen x)) = true → true = true ∧ True) ∧ (D.cnd (D.cnd (D.not (belowF (oneF (D.ilen
    m)) x)) true (D.not (belowF (prodF m x) x))) true (D.ne (D.ilen (prodF m x)) (D.ilen x)) = false → (true = true → true = true → true = true) ∧ (D.and true true
    = true → true = true) ∧ (D.cnd true (D.eq (starE m) (0 : Int)) false = true → D.cnd true (D.eq (starE m) (0 : Int)) false = true → D.cnd true (D.eq (starE m) (0
    : Int)) false = true) ∧ (D.cnd true (D.eq (starE m) (0 : Int)) false = true → D.cnd true (D.eq (starE m) (0 : Int)) false = true → D.cnd true (D.eq (starE m) (0
    : Int)) false = true) ∧ (D.cnd true (D.eq (starE m) (0 : Int)) false = true → lensOk (starS m)) ∧ (D.and true (D.cnd true (D.eq (starE m) (0 : Int)) false) =
    true → D.cnd true (D.eq (starE m) (0 : Int)) false = true) ∧ D.cnd (D.cnd true (D.eq (starE m) (0 : Int)) false) (belowF (starS m) x) false = true ∧ True))))) :
    evF c11 noAnn 8 [.dat M m, .dat M x] ⟨True, .dat .bool true⟩ := of_eq (by kernel_rfl) h

theorem KS11 : KSound Try.prog K11 := by
  intro f args c h
  unfold K11 at h
  split at h
  · cases h; exact s_one _
  · cases h; exact s_mild _
  · exact KS10 _ _ _ h
end Go.Eng.Mp
