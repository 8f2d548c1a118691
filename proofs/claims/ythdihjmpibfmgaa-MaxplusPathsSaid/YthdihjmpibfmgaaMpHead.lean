/- PeMpHead -/
import Derived.Test.YthdihjmpibfmgaaEng18
import Derived.Test.YthdihjmpibfmgaaMp6
namespace Go.Eng.Mp
open Go.Proofs

noncomputable def hm1 : List (List Int) := [[-1099511627776, 3], [-5, -1099511627776]]
noncomputable def hm2 : List (List Int) := [[-1099511627776, 3], [-2, -1099511627776]]
noncomputable def hm3 : List (List Int) := [[1], [2]]
/- In the examples of head each call has one answer. -/
noncomputable def Kh : Kt := fun f args => match f, args with
  | 14, [.dat (.sl (.sl (.int .i64))) m] => if m = hm1 then some ⟨m = hm1, .tup [.dat M [[0, 3], [-5, 0]], .dat I 0]⟩ else if m = hm2 then some ⟨m = hm2, .tup [.dat M [], .dat I 120]⟩ else if m = hm3 then some ⟨m = hm3, .tup [.dat M [], .dat I 1]⟩ else some ⟨m = [], .tup [.dat M [], .dat I 0]⟩
  | 21, [.dat (.sl (.sl (.int .i64))) a, .dat (.sl (.sl (.int .i64))) b] => some ⟨a = hm1 ∧ b = hm1, .dat M [[-2, -1099511627776], [-1099511627776, -2]]⟩
  | 19, [.dat (.sl (.sl (.int .i64))) a, .dat (.sl (.sl (.int .i64))) b] => some ⟨a = hm1 ∧ b = [[0, 4], [-9, -1099511627783]], .dat M [[0, 4], [-5, -1099511627776]]⟩
  | 24, [.dat (.sl (.sl (.int .i64))) m, .dat (.sl (.int .i64)) v] => if v = [1, 2] then some ⟨m = hm1 ∧ v = [1, 2], .dat R [5, -4]⟩ else some ⟨m = hm1 ∧ v = [1, 1000000001], .dat R []⟩
  | 16, [.dat (.sl (.sl (.int .i64))) a, .dat (.sl (.sl (.int .i64))) b] => some ⟨lensOk a ∧ a = b, .dat .bool true⟩
  | 23, [.dat (.sl (.int .i64)) a, .dat (.sl (.int .i64)) b] => some ⟨lenOk a ∧ a = b, .dat .bool true⟩
  | 17, [.dat (.sl (.sl (.int .i64))) m] => if m = hm1 then some ⟨m = hm1, .dat .bool true⟩ else some ⟨m = [[1000000001]], .dat .bool false⟩
  | _, _ => none
noncomputable def ch : Cfg := ⟨Try.prog, Kh, fun _ => false⟩
theorem vc_head  (h :
    true = true ∧ true = true ∧ (True → [[(-1099511627776 : Int), (3 : Int)], [(-5 : Int), (-1099511627776 : Int)]] = [[(-1099511627776 : Int), (3 : Int)], [(-5 :
    Int), (-1099511627776 : Int)]] ∧ [[(-1099511627776 : Int), (3 : Int)], [(-2 : Int), (-1099511627776 : Int)]] = [[(-1099511627776 : Int), (3 : Int)], [(-2 :
    Int), (-1099511627776 : Int)]] ∧ [[(1 : Int)], [(2 : Int)]] = [[(1 : Int)], [(2 : Int)]] ∧ D.nil (List Int) = D.nil (List Int) ∧ ([[(-1099511627776 : Int), (3 :
    Int)], [(-5 : Int), (-1099511627776 : Int)]] = [[(-1099511627776 : Int), (3 : Int)], [(-5 : Int), (-1099511627776 : Int)]] ∧ [[(-1099511627776 : Int), (3 :
    Int)], [(-5 : Int), (-1099511627776 : Int)]] = [[(-1099511627776 : Int), (3 : Int)], [(-5 : Int), (-1099511627776 : Int)]]) ∧ (lensOk [[(-2 : Int),
    (-1099511627776 : Int)], [(-1099511627776 : Int), (-2 : Int)]] ∧ [[(-2 : Int), (-1099511627776 : Int)], [(-1099511627776 : Int), (-2 : Int)]] = [[(-2 : Int),
    (-1099511627776 : Int)], [(-1099511627776 : Int), (-2 : Int)]]) ∧ (true = true → true = true → true = true) ∧ (true = true → inR IntKind.i64 (D.sub
    (-1099511627776 : Int) (7 : Int))) ∧ (true = true → true = true → true = true) ∧ (true = true → true = true → true = true) ∧ (true = true → true = true → true =
    true) ∧ (true = true → true = true → true = true) ∧ (true = true → true = true → true = true) ∧ (true = true → [[(-1099511627776 : Int), (3 : Int)], [(-5 :
    Int), (-1099511627776 : Int)]] = [[(-1099511627776 : Int), (3 : Int)], [(-5 : Int), (-1099511627776 : Int)]] ∧ [[(0 : Int), (4 : Int)], [(-9 : Int), D.sub
    (-1099511627776 : Int) (7 : Int)]] = [[(0 : Int), (4 : Int)], [(-9 : Int), (-1099511627783 : Int)]]) ∧ (true = true → true = true → true = true) ∧ (true = true
    → true = true → true = true) ∧ (true = true → true = true → true = true) ∧ (true = true → true = true → true = true) ∧ (true = true → true = true → true = true)
    ∧ (true = true → lensOk [[(0 : Int), (4 : Int)], [(-5 : Int), (-1099511627776 : Int)]] ∧ [[(0 : Int), (4 : Int)], [(-5 : Int), (-1099511627776 : Int)]] = [[(0 :
    Int), (4 : Int)], [(-5 : Int), (-1099511627776 : Int)]]) ∧ (D.and true true = true → true = true) ∧ (D.cnd true true false = true → D.cnd true true false = true
    → D.cnd true true false = true) ∧ (D.cnd true true false = true → D.cnd true true false = true → D.cnd true true false = true) ∧ (D.cnd true true false = true →
    [[(-1099511627776 : Int), (3 : Int)], [(-5 : Int), (-1099511627776 : Int)]] = [[(-1099511627776 : Int), (3 : Int)], [(-5 : Int), (-1099511627776 : Int)]] ∧ [(1
    : Int), (2 : Int)] = [(1 : Int), (2 : Int)]) ∧ (D.cnd true true false = true → D.cnd true true false = true → D.cnd true true false = true) ∧ (D.cnd true true
    false = true → D.cnd true true false = true → D.cnd true true false = true) ∧ (D.cnd true true false = true → lenOk [(5 : Int), (-4 : Int)] ∧ [(5 : Int), (-4 :
    Int)] = [(5 : Int), (-4 : Int)]) ∧ (D.and true (D.cnd true true false) = true → D.cnd true true false = true) ∧ (D.cnd (D.cnd true true false) true false = true
    → D.cnd (D.cnd true true false) true false = true → D.cnd (D.cnd true true false) true false = true) ∧ (D.and true (D.cnd (D.cnd true true false) true false) =
    true → D.cnd (D.cnd true true false) true false = true) ∧ (D.cnd (D.cnd (D.cnd true true false) true false) (D.eq (0 : Int) (0 : Int)) false = true → D.cnd
    (D.cnd (D.cnd true true false) true false) (D.eq (0 : Int) (0 : Int)) false = true → D.cnd (D.cnd (D.cnd true true false) true false) (D.eq (0 : Int) (0 : Int))
    false = true) ∧ (D.cnd (D.cnd (D.cnd true true false) true false) (D.eq (0 : Int) (0 : Int)) false = true → D.cnd (D.cnd (D.cnd true true false) true false)
    (D.eq (0 : Int) (0 : Int)) false = true → D.cnd (D.cnd (D.cnd true true false) true false) (D.eq (0 : Int) (0 : Int)) false = true) ∧ (D.cnd (D.cnd (D.cnd true
    true false) true false) (D.eq (0 : Int) (0 : Int)) false = true → D.cnd (D.cnd (D.cnd true true false) true false) (D.eq (0 : Int) (0 : Int)) false = true →
    D.cnd (D.cnd (D.cnd true true false) true false) (D.eq (0 : Int) (0 : Int)) false = true) ∧ (D.cnd (D.cnd (D.cnd true true false) true false) (D.eq (0 : Int) (0
    : Int)) false = true → D.cnd (D.cnd (D.cnd true true false) true false) (D.eq (0 : Int) (0 : Int)) false = true → D.cnd (D.cnd (D.cnd true true false) true
    false) (D.eq (0 : Int) (0 : Int)) false = true) ∧ (D.cnd (D.cnd (D.cnd true true false) true false) (D.eq (0 : Int) (0 : Int)) false = true → lensOk [[(0 :
    Int), (3 : Int)], [(-5 : Int), (0 : Int)]] ∧ [[(0 : Int), (3 : Int)], [(-5 : Int), (0 : Int)]] = [[(0 : Int), (3 : Int)], [(-5 : Int), (0 : Int)]]) ∧ (D.and
    true (D.cnd (D.cnd (D.cnd true true false) true false) (D.eq (0 : Int) (0 : Int)) false) = true → D.cnd (D.cnd (D.cnd true true false) true false) (D.eq (0 :
    Int) (0 : Int)) false = true) ∧ (D.cnd (D.cnd (D.cnd (D.cnd true true false) true false) (D.eq (0 : Int) (0 : Int)) false) true false = true → D.cnd (D.cnd
    (D.cnd (D.cnd true true false) true false) (D.eq (0 : Int) (0 : Int)) false) true false = true → D.cnd (D.cnd (D.cnd (D.cnd true true false) true false) (D.eq
    (0 : Int) (0 : Int)) false) true false = true) ∧ (D.and true (D.cnd (D.cnd (D.cnd (D.cnd true true false) true false) (D.eq (0 : Int) (0 : Int)) false) true
    false) = true → D.cnd (D.cnd (D.cnd (D.cnd true true false) true false) (D.eq (0 : Int) (0 : Int)) false) true false = true) ∧ (D.cnd (D.cnd (D.cnd (D.cnd
    (D.cnd true true false) true false) (D.eq (0 : Int) (0 : Int)) false) true false) (D.eq (120 : Int) (120 : Int)) false = true → D.cnd (D.cnd (D.cnd (D.cnd
    (D.cnd true true false) true false) (D.eq (0 : Int) (0 : Int)) false) true false) (D.eq (120 : Int) (120 : Int)) false = true → D.cnd (D.cnd (D.cnd (D.cnd
    (D.cnd true true false) true false) (D.eq (0 : Int) (0 : Int)) false) true false) (D.eq (120 : Int) (120 : Int)) false = true) ∧ (D.and true (D.cnd (D.cnd
    (D.cnd (D.cnd (D.cnd true true false) true false) (D.eq (0 : Int) (0 : Int)) false) true false) (D.eq (120 : Int) (120 : Int)) false) = true → D.cnd (D.cnd
    (D.cnd (D.cnd (D.cnd true true false) true false) (D.eq (0 : Int) (0 : Int)) false) true false) (D.eq (120 : Int) (120 : Int)) false = true) ∧ (D.cnd (D.cnd
    (D.cnd (D.cnd (D.cnd (D.cnd true true false) true false) (D.eq (0 : Int) (0 : Int)) false) true false) (D.eq (120 : Int) (120 : Int)) false) (D.eq (1 : Int) (1
    : Int)) false = true → D.cnd (D.cnd (D.cnd (D.cnd (D.cnd (D.cnd true true false) true false) (D.eq (0 : Int) (0 : Int)) false) true false) (D.eq (120 : Int)
    (120 : Int)) false) (D.eq (1 : Int) (1 : Int)) false = true → D.cnd (D.cnd (D.cnd (D.cnd (D.cnd (D.cnd true true false) true false) (D.eq (0 : Int) (0 : Int))
    false) true false) (D.eq (120 : Int) (120 : Int)) false) (D.eq (1 : Int) (1 : Int)) false = true) ∧ (D.and true (D.cnd (D.cnd (D.cnd (D.cnd (D.cnd (D.cnd true
    true false) true false) (D.eq (0 : Int) (0 : Int)) false) true false) (D.eq (120 : Int) (120 : Int)) false) (D.eq (1 : Int) (1 : Int)) false) = true → D.cnd
    (D.cnd (D.cnd (D.cnd (D.cnd (D.cnd true true false) true false) (D.eq (0 : Int) (0 : Int)) false) true false) (D.eq (120 : Int) (120 : Int)) false) (D.eq (1 :
    Int) (1 : Int)) false = true) ∧ (D.cnd (D.cnd (D.cnd (D.cnd (D.cnd (D.cnd (D.cnd true true false) true false) (D.eq (0 : Int) (0 : Int)) false) true false)
    (D.eq (120 : Int) (120 : Int)) false) (D.eq (1 : Int) (1 : Int)) false) (D.eq (0 : Int) (0 : Int)) false = true → D.cnd (D.cnd (D.cnd (D.cnd (D.cnd (D.cnd
    (D.cnd true true false) true false) (D.eq (0 : Int) (0 : Int)) false) true false) (D.eq (120 : Int) (120 : Int)) false) (D.eq (1 : Int) (1 : Int)) false) (D.eq
    (0 : Int) (0 : Int)) false = true → D.cnd (D.cnd (D.cnd (D.cnd (D.cnd (D.cnd (D.cnd true true false) true false) (D.eq (0 : Int) (0 : Int)) false) true false)
    (D.eq (120 : Int) (120 : Int)) false) (D.eq (1 : Int) (1 : Int)) false) (D.eq (0 : Int) (0 : Int)) false = true) ∧ (D.cnd (D.cnd (D.cnd (D.cnd (D.cnd (D.cnd
    (D.cnd true true false) true false) (D.eq (0 : Int) (0 : Int)) false) true false) (D.eq (120 : Int) (120 : Int)) false) (D.eq (1 : Int) (1 : Int)) false) (D.eq
    (0 : Int) (0 : Int)) false = true → D.cnd (D.cnd (D.cnd (D.cnd (D.cnd (D.cnd (D.cnd true true false) true false) (D.eq (0 : Int) (0 : Int)) false) true false)
    (D.eq (120 : Int) (120 : Int)) false) (D.eq (1 : Int) (1 : Int)) false) (D.eq (0 : Int) (0 : Int)) false = true → D.cnd (D.cnd (D.cnd (D.cnd (D.cnd (D.cnd
    (D.cnd true true false) true false) (D.eq (0 : Int) (0 : Int)) false) true false) (D.eq (120 : Int) (120 : Int)) false) (D.eq (1 : Int) (1 : Int)) false) (D.eq
    (0 : Int) (0 : Int)) false = true) ∧ (D.and true (D.cnd (D.cnd (D.cnd (D.cnd (D.cnd (D.cnd (D.cnd true true false) true false) (D.eq (0 : Int) (0 : Int)) false)
    true false) (D.eq (120 : Int) (120 : Int)) false) (D.eq (1 : Int) (1 : Int)) false) (D.eq (0 : Int) (0 : Int)) false) = true → D.cnd (D.cnd (D.cnd (D.cnd (D.cnd
    (D.cnd (D.cnd true true false) true false) (D.eq (0 : Int) (0 : Int)) false) true false) (D.eq (120 : Int) (120 : Int)) false) (D.eq (1 : Int) (1 : Int)) false)
    (D.eq (0 : Int) (0 : Int)) false = true) ∧ (D.cnd (D.cnd (D.cnd (D.cnd (D.cnd (D.cnd (D.cnd (D.cnd true true false) true false) (D.eq (0 : Int) (0 : Int))
    false) true false) (D.eq (120 : Int) (120 : Int)) false) (D.eq (1 : Int) (1 : Int)) false) (D.eq (0 : Int) (0 : Int)) false) (D.eq (D.ilen (D.nil (List Int)))
    (0 : Int)) false = true → D.cnd (D.cnd (D.cnd (D.cnd (D.cnd (D.cnd (D.cnd (D.cnd true true false) true false) (D.eq (0 : Int) (0 : Int)) false) true false)
    (D.eq (120 : Int) (120 : Int)) false) (D.eq (1 : Int) (1 : Int)) false) (D.eq (0 : Int) (0 : Int)) false) (D.eq (D.ilen (D.nil (List Int))) (0 : Int)) false =
    true → D.cnd (D.cnd (D.cnd (D.cnd (D.cnd (D.cnd (D.cnd (D.cnd true true false) true false) (D.eq (0 : Int) (0 : Int)) false) true false) (D.eq (120 : Int) (120
    : Int)) false) (D.eq (1 : Int) (1 : Int)) false) (D.eq (0 : Int) (0 : Int)) false) (D.eq (D.ilen (D.nil (List Int))) (0 : Int)) false = true) ∧ (D.cnd (D.cnd
    (D.cnd (D.cnd (D.cnd (D.cnd (D.cnd (D.cnd true true false) true false) (D.eq (0 : Int) (0 : Int)) false) true false) (D.eq (120 : Int) (120 : Int)) false) (D.eq
    (1 : Int) (1 : Int)) false) (D.eq (0 : Int) (0 : Int)) false) (D.eq (D.ilen (D.nil (List Int))) (0 : Int)) false = true → [[(-1099511627776 : Int), (3 : Int)],
    [(-5 : Int), (-1099511627776 : Int)]] = [[(-1099511627776 : Int), (3 : Int)], [(-5 : Int), (-1099511627776 : Int)]]) ∧ (D.and true (D.cnd (D.cnd (D.cnd (D.cnd
    (D.cnd (D.cnd (D.cnd (D.cnd true true false) true false) (D.eq (0 : Int) (0 : Int)) false) true false) (D.eq (120 : Int) (120 : Int)) false) (D.eq (1 : Int) (1
    : Int)) false) (D.eq (0 : Int) (0 : Int)) false) (D.eq (D.ilen (D.nil (List Int))) (0 : Int)) false) = true → D.cnd (D.cnd (D.cnd (D.cnd (D.cnd (D.cnd (D.cnd
    (D.cnd true true false) true false) (D.eq (0 : Int) (0 : Int)) false) true false) (D.eq (120 : Int) (120 : Int)) false) (D.eq (1 : Int) (1 : Int)) false) (D.eq
    (0 : Int) (0 : Int)) false) (D.eq (D.ilen (D.nil (List Int))) (0 : Int)) false = true) ∧ (D.cnd (D.cnd (D.cnd (D.cnd (D.cnd (D.cnd (D.cnd (D.cnd (D.cnd true
    true false) true false) (D.eq (0 : Int) (0 : Int)) false) true false) (D.eq (120 : Int) (120 : Int)) false) (D.eq (1 : Int) (1 : Int)) false) (D.eq (0 : Int) (0
    : Int)) false) (D.eq (D.ilen (D.nil (List Int))) (0 : Int)) false) true false = true → D.cnd (D.cnd (D.cnd (D.cnd (D.cnd (D.cnd (D.cnd (D.cnd (D.cnd true true
    false) true false) (D.eq (0 : Int) (0 : Int)) false) true false) (D.eq (120 : Int) (120 : Int)) false) (D.eq (1 : Int) (1 : Int)) false) (D.eq (0 : Int) (0 :
    Int)) false) (D.eq (D.ilen (D.nil (List Int))) (0 : Int)) false) true false = true → D.cnd (D.cnd (D.cnd (D.cnd (D.cnd (D.cnd (D.cnd (D.cnd (D.cnd true true
    false) true false) (D.eq (0 : Int) (0 : Int)) false) true false) (D.eq (120 : Int) (120 : Int)) false) (D.eq (1 : Int) (1 : Int)) false) (D.eq (0 : Int) (0 :
    Int)) false) (D.eq (D.ilen (D.nil (List Int))) (0 : Int)) false) true false = true) ∧ (D.cnd (D.cnd (D.cnd (D.cnd (D.cnd (D.cnd (D.cnd (D.cnd (D.cnd true true
    false) true false) (D.eq (0 : Int) (0 : Int)) false) true false) (D.eq (120 : Int) (120 : Int)) false) (D.eq (1 : Int) (1 : Int)) false) (D.eq (0 : Int) (0 :
    Int)) false) (D.eq (D.ilen (D.nil (List Int))) (0 : Int)) false) true false = true → D.cnd (D.cnd (D.cnd (D.cnd (D.cnd (D.cnd (D.cnd (D.cnd (D.cnd true true
    false) true false) (D.eq (0 : Int) (0 : Int)) false) true false) (D.eq (120 : Int) (120 : Int)) false) (D.eq (1 : Int) (1 : Int)) false) (D.eq (0 : Int) (0 :
    Int)) false) (D.eq (D.ilen (D.nil (List Int))) (0 : Int)) false) true false = true → D.cnd (D.cnd (D.cnd (D.cnd (D.cnd (D.cnd (D.cnd (D.cnd (D.cnd true true
    false) true false) (D.eq (0 : Int) (0 : Int)) false) true false) (D.eq (120 : Int) (120 : Int)) false) (D.eq (1 : Int) (1 : Int)) false) (D.eq (0 : Int) (0 :
    Int)) false) (D.eq (D.ilen (D.nil (List Int))) (0 : Int)) false) true false = true) ∧ (D.cnd (D.cnd (D.cnd (D.cnd (D.cnd (D.cnd (D.cnd (D.cnd (D.cnd true true
    false) true false) (D.eq (0 : Int) (0 : Int)) false) true false) (D.eq (120 : Int) (120 : Int)) false) (D.eq (1 : Int) (1 : Int)) false) (D.eq (0 : Int) (0 :
    Int)) false) (D.eq (D.ilen (D.nil (List Int))) (0 : Int)) false) true false = true → [[(1000000001 : Int)]] = [[(1000000001 : Int)]]) ∧ (D.cnd (D.cnd (D.cnd
    (D.cnd (D.cnd (D.cnd (D.cnd (D.cnd (D.cnd true true false) true false) (D.eq (0 : Int) (0 : Int)) false) true false) (D.eq (120 : Int) (120 : Int)) false) (D.eq
    (1 : Int) (1 : Int)) false) (D.eq (0 : Int) (0 : Int)) false) (D.eq (D.ilen (D.nil (List Int))) (0 : Int)) false) true false = true → D.cnd (D.cnd (D.cnd (D.cnd
    (D.cnd (D.cnd (D.cnd (D.cnd (D.cnd true true false) true false) (D.eq (0 : Int) (0 : Int)) false) true false) (D.eq (120 : Int) (120 : Int)) false) (D.eq (1 :
    Int) (1 : Int)) false) (D.eq (0 : Int) (0 : Int)) false) (D.eq (D.ilen (D.nil (List Int))) (0 : Int)) false) true false = true → D.cnd (D.cnd (D.cnd (D.cnd
    (D.cnd (D.cnd (D.cnd (D.cnd (D.cnd true true false) true false) (D.eq (0 : Int) (0 : Int)) false) true false) (D.eq (120 : Int) (120 : Int)) false) (D.eq (1 :
    Int) (1 : Int)) false) (D.eq (0 : Int) (0 : Int)) false) (D.eq (D.ilen (D.nil (List Int))) (0 : Int)) false) true false = true) ∧ (D.and true (D.cnd (D.cnd
    (D.cnd (D.cnd (D.cnd (D.cnd (D.cnd (D.cnd (D.cnd true true false) true false) (D.eq (0 : Int) (0 : Int)) false) true false) (D.eq (120 : Int) (120 : Int))
    false) (D.eq (1 : Int) (1 : Int)) false) (D.eq (0 : Int) (0 : Int)) false) (D.eq (D.ilen (D.nil (List Int))) (0 : Int)) false) true false) = true → D.cnd (D.cnd
    (D.cnd (D.cnd (D.cnd (D.cnd (D.cnd (D.cnd (D.cnd true true false) true false) (D.eq (0 : Int) (0 : Int)) false) true false) (D.eq (120 : Int) (120 : Int))
    false) (D.eq (1 : Int) (1 : Int)) false) (D.eq (0 : Int) (0 : Int)) false) (D.eq (D.ilen (D.nil (List Int))) (0 : Int)) false) true false = true) ∧ (D.cnd
    (D.cnd (D.cnd (D.cnd (D.cnd (D.cnd (D.cnd (D.cnd (D.cnd (D.cnd true true false) true false) (D.eq (0 : Int) (0 : Int)) false) true false) (D.eq (120 : Int) (120
    : Int)) false) (D.eq (1 : Int) (1 : Int)) false) (D.eq (0 : Int) (0 : Int)) false) (D.eq (D.ilen (D.nil (List Int))) (0 : Int)) false) true false) (D.not false)
    false = true → D.cnd (D.cnd (D.cnd (D.cnd (D.cnd (D.cnd (D.cnd (D.cnd (D.cnd (D.cnd true true false) true false) (D.eq (0 : Int) (0 : Int)) false) true false)
    (D.eq (120 : Int) (120 : Int)) false) (D.eq (1 : Int) (1 : Int)) false) (D.eq (0 : Int) (0 : Int)) false) (D.eq (D.ilen (D.nil (List Int))) (0 : Int)) false)
    true false) (D.not false) false = true → D.cnd (D.cnd (D.cnd (D.cnd (D.cnd (D.cnd (D.cnd (D.cnd (D.cnd (D.cnd true true false) true false) (D.eq (0 : Int) (0 :
    Int)) false) true false) (D.eq (120 : Int) (120 : Int)) false) (D.eq (1 : Int) (1 : Int)) false) (D.eq (0 : Int) (0 : Int)) false) (D.eq (D.ilen (D.nil (List
    Int))) (0 : Int)) false) true false) (D.not false) false = true) ∧ (D.cnd (D.cnd (D.cnd (D.cnd (D.cnd (D.cnd (D.cnd (D.cnd (D.cnd (D.cnd true true false) true
    false) (D.eq (0 : Int) (0 : Int)) false) true false) (D.eq (120 : Int) (120 : Int)) false) (D.eq (1 : Int) (1 : Int)) false) (D.eq (0 : Int) (0 : Int)) false)
    (D.eq (D.ilen (D.nil (List Int))) (0 : Int)) false) true false) (D.not false) false = true → D.cnd (D.cnd (D.cnd (D.cnd (D.cnd (D.cnd (D.cnd (D.cnd (D.cnd
    (D.cnd true true false) true false) (D.eq (0 : Int) (0 : Int)) false) true false) (D.eq (120 : Int) (120 : Int)) false) (D.eq (1 : Int) (1 : Int)) false) (D.eq
    (0 : Int) (0 : Int)) false) (D.eq (D.ilen (D.nil (List Int))) (0 : Int)) false) true false) (D.not false) false = true → D.cnd (D.cnd (D.cnd (D.cnd (D.cnd
    (D.cnd (D.cnd (D.cnd (D.cnd (D.cnd true true false) true false) (D.eq (0 : Int) (0 : Int)) false) true false) (D.eq (120 : Int) (120 : Int)) false) (D.eq (1 :
    Int) (1 : Int)) false) (D.eq (0 : Int) (0 : Int)) false) (D.eq (D.ilen (D.nil (List Int))) (0 : Int)) false) true false) (D.not false) false = true) ∧ (D.cnd
    (D.cnd (D.cnd (D.cnd (D.cnd (D.cnd (D.cnd (D.cnd (D.cnd (D.cnd true true false) true false) (D.eq (0 : Int) (0 : Int)) false) true false) (D.eq (120 : Int) (120
    : Int)) false) (D.eq (1 : Int) (1 : Int)) false) (D.eq (0 : Int) (0 : Int)) false) (D.eq (D.ilen (D.nil (List Int))) (0 : Int)) false) true false) (D.not false)
    false = true → [[(-1099511627776 : Int), (3 : Int)], [(-5 : Int), (-1099511627776 : Int)]] = [[(-1099511627776 : Int), (3 : Int)], [(-5 : Int), (-1099511627776
    : Int)]] ∧ [(1 : Int), (1000000001 : Int)] = [(1 : Int), (1000000001 : Int)]) ∧ (D.cnd (D.cnd (D.cnd (D.cnd (D.cnd (D.cnd (D.cnd (D.cnd (D.cnd (D.cnd true true
    false) true false) (D.eq (0 : Int) (0 : Int)) false) true false) (D.eq (120 : Int) (120 : Int)) false) (D.eq (1 : Int) (1 : Int)) false) (D.eq (0 : Int) (0 :
    Int)) false) (D.eq (D.ilen (D.nil (List Int))) (0 : Int)) false) true false) (D.not false) false = true → D.cnd (D.cnd (D.cnd (D.cnd (D.cnd (D.cnd (D.cnd (D.cnd
    (D.cnd (D.cnd true true false) true false) (D.eq (0 : Int) (0 : Int)) false) true false) (D.eq (120 : Int) (120 : Int)) false) (D.eq (1 : Int) (1 : Int)) false)
    (D.eq (0 : Int) (0 : Int)) false) (D.eq (D.ilen (D.nil (List Int))) (0 : Int)) false) true false) (D.not false) false = true → D.cnd (D.cnd (D.cnd (D.cnd (D.cnd
    (D.cnd (D.cnd (D.cnd (D.cnd (D.cnd true true false) true false) (D.eq (0 : Int) (0 : Int)) false) true false) (D.eq (120 : Int) (120 : Int)) false) (D.eq (1 :
    Int) (1 : Int)) false) (D.eq (0 : Int) (0 : Int)) false) (D.eq (D.ilen (D.nil (List Int))) (0 : Int)) false) true false) (D.not false) false = true) ∧ (D.cnd
    (D.cnd (D.cnd (D.cnd (D.cnd (D.cnd (D.cnd (D.cnd (D.cnd (D.cnd true true false) true false) (D.eq (0 : Int) (0 : Int)) false) true false) (D.eq (120 : Int) (120
    : Int)) false) (D.eq (1 : Int) (1 : Int)) false) (D.eq (0 : Int) (0 : Int)) false) (D.eq (D.ilen (D.nil (List Int))) (0 : Int)) false) true false) (D.not false)
    false = true → D.cnd (D.cnd (D.cnd (D.cnd (D.cnd (D.cnd (D.cnd (D.cnd (D.cnd (D.cnd true true false) true false) (D.eq (0 : Int) (0 : Int)) false) true false)
    (D.eq (120 : Int) (120 : Int)) false) (D.eq (1 : Int) (1 : Int)) false) (D.eq (0 : Int) (0 : Int)) false) (D.eq (D.ilen (D.nil (List Int))) (0 : Int)) false)
    true false) (D.not false) false = true → D.cnd (D.cnd (D.cnd (D.cnd (D.cnd (D.cnd (D.cnd (D.cnd (D.cnd (D.cnd true true false) true false) (D.eq (0 : Int) (0 :
    Int)) false) true false) (D.eq (120 : Int) (120 : Int)) false) (D.eq (1 : Int) (1 : Int)) false) (D.eq (0 : Int) (0 : Int)) false) (D.eq (D.ilen (D.nil (List
    Int))) (0 : Int)) false) true false) (D.not false) false = true) ∧ (D.and true (D.cnd (D.cnd (D.cnd (D.cnd (D.cnd (D.cnd (D.cnd (D.cnd (D.cnd (D.cnd true true
    false) true false) (D.eq (0 : Int) (0 : Int)) false) true false) (D.eq (120 : Int) (120 : Int)) false) (D.eq (1 : Int) (1 : Int)) false) (D.eq (0 : Int) (0 :
    Int)) false) (D.eq (D.ilen (D.nil (List Int))) (0 : Int)) false) true false) (D.not false) false) = true → D.cnd (D.cnd (D.cnd (D.cnd (D.cnd (D.cnd (D.cnd
    (D.cnd (D.cnd (D.cnd true true false) true false) (D.eq (0 : Int) (0 : Int)) false) true false) (D.eq (120 : Int) (120 : Int)) false) (D.eq (1 : Int) (1 : Int))
    false) (D.eq (0 : Int) (0 : Int)) false) (D.eq (D.ilen (D.nil (List Int))) (0 : Int)) false) true false) (D.not false) false = true) ∧ D.cnd (D.cnd (D.cnd
    (D.cnd (D.cnd (D.cnd (D.cnd (D.cnd (D.cnd (D.cnd (D.cnd true true false) true false) (D.eq (0 : Int) (0 : Int)) false) true false) (D.eq (120 : Int) (120 :
    Int)) false) (D.eq (1 : Int) (1 : Int)) false) (D.eq (0 : Int) (0 : Int)) false) (D.eq (D.ilen (D.nil (List Int))) (0 : Int)) false) true false) (D.not false)
    false) (D.eq (D.ilen (D.nil Int)) (0 : Int)) false = true ∧ True)) :
    evF ch noAnn 11 [] ⟨True, .dat .bool true⟩ := of_eq (by kernel_rfl) h

theorem KSh : KSound Try.prog Kh := by
  intro f args c h
  unfold Kh at h
  split at h
  · split at h
    · cases h
      exact fun hp => by subst hp; exact s_star hm1 (by show hm1.length ≤ 20; decide)
    · split at h
      · cases h
        exact fun hp => by subst hp; exact s_star hm2 (by show hm2.length ≤ 20; decide)
      · split at h
        · cases h
          exact fun hp => by subst hp; exact s_star hm3 (by show hm3.length ≤ 20; decide)
        · cases h
          exact fun hp => by simp only at hp; subst hp; exact s_star [] (by show [].length ≤ 20; decide)
  · cases h
    exact fun hp => by obtain ⟨rfl, rfl⟩ := hp; exact s_prod hm1 hm1 trivial
  · cases h
    exact fun hp => by obtain ⟨rfl, rfl⟩ := hp; exact s_sum hm1 _ trivial
  · split at h
    · cases h
      exact fun hp => by obtain ⟨rfl, rfl⟩ := hp; exact s_apply hm1 _ trivial
    · cases h
      exact fun hp => by obtain ⟨rfl, rfl⟩ := hp; exact s_apply hm1 _ trivial
  · rename_i a b
    cases h
    exact fun hp => by
      obtain ⟨h1, rfl⟩ := hp
      have := s_same a a
      rw [show sameF a a = true by simp [sameF]] at this
      exact this h1
  · rename_i a b
    cases h
    exact fun hp => by
      obtain ⟨h1, rfl⟩ := hp
      have := s_ints a a
      rw [show intsF a a = true by simp [intsF]] at this
      exact this h1
  · split at h
    · cases h
      exact fun hp => by subst hp; exact s_valid hm1 trivial
    · cases h
      exact fun hp => by simp only at hp; subst hp; exact s_valid _ trivial
  · cases h
theorem s_head : SoundC Try.prog 11 [] ⟨True, .dat .bool true⟩ :=
  sound_of_ev (c := ch) KSh hm (vc_head (by simp [lensOk, lenOk, inR]; simp only [D.sub]; omega))
end Go.Eng.Mp
