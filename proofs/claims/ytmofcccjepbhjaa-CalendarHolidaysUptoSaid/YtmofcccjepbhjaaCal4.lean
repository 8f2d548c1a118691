/- PeCal4 -/
import Derived.Test.YtmofcccjepbhjaaW21
import Derived.Test.YtmofcccjepbhjaaCal3
set_option linter.unusedSimpArgs false
set_option linter.unusedVariables false
namespace Go.Eng.Cal
open Go.Proofs

abbrev wx0 : List Bool := [true, true, true, true, true, false, false]
abbrev hx0 : List Int := [5, 7]

noncomputable def K5 : Kt := fun f args m => match f, args, m with
  | 12, [.agg [.dat (.int .i64) z, .dat (.sl .bool) w, .dat (.sl (.int .i64)) h], .dat (.int .i64) t], [] => some ⟨okLocal z w h t, .tup [.dat I (dayF z t), .dat I (minF z t)], []⟩
  | 13, [.agg [.dat (.int .i64) z, .dat (.sl .bool) w, .dat (.sl (.int .i64)) h], .dat (.int .i64) d, .dat (.int .i64) m], [] => some ⟨okTime z w h d m, .dat I (timeF z d m), []⟩
  | 14, [.agg [.dat (.int .i64) z, .dat (.sl .bool) w, .dat (.sl (.int .i64)) h], .dat (.int .i64) d], [] => some ⟨argP z w h d, .tup [.dat I (nextD w h d), .dat I (nextE w h d)], []⟩
  | 15, [.agg [.dat (.int .i64) z, .dat (.sl .bool) w, .dat (.sl (.int .i64)) h], .dat (.int .i64) d], [] => some ⟨validF z w h = true ∧ inDays d = true, .dat .bool (workF w h d), []⟩
  | 16, [.agg [.dat (.int .i64) z, .dat (.sl .bool) w, .dat (.sl (.int .i64)) h], .dat (.int .i64) d, .dat (.int .i64) n], [] => some ⟨addP z w h d n, .tup [.dat I (addD w h d n), .dat I (addE w h d n)], []⟩
  | 17, [.agg [.dat (.int .i64) z, .dat (.sl .bool) w, .dat (.sl (.int .i64)) h], .dat (.int .i64) a, .dat (.int .i64) b], [] => some ⟨countP z w h a b, .dat I (countF w h a b), []⟩
  | 11, [.agg [.dat (.int .i64) z, .dat (.sl .bool) w, .dat (.sl (.int .i64)) h]], [] => some ⟨True, .dat .bool (fineF z w h), []⟩
  | _, _, _ => K4 f args m

theorem vc_example  (hvc :
    true = true ∧ (True → 1 = 1 ∧ 0 = 0 ∧ 1 = 1 ∧ 0 = 0 ∧ (60 : Int) = (60 : Int) ∧ [true, true, true, true, true, false, false] = [true, true, true, true, true,
    false, false] ∧ [(5 : Int), (7 : Int)] = [(5 : Int), (7 : Int)] ∧ True)) :
    evF (mkc K5) noAnn 19 [] [] ⟨True, cal 60 wx0 hx0, []⟩ := of_eq (by kernel_rfl) hvc


noncomputable def K6 : Kt := fun f args m => match f, args, m with
  | 19, [], [] => some ⟨True, cal 60 wx0 hx0, []⟩
  | 12, [.agg [.dat (.int .i64) z, .dat (.sl .bool) w, .dat (.sl (.int .i64)) h], .dat (.int .i64) t], [] => if t = 1380 then some ⟨z = 60 ∧ w = wx0 ∧ h = hx0 ∧ t = 1380, .tup [.dat I 1, .dat I 0], []⟩
      else some ⟨z = 60 ∧ w = wx0 ∧ h = hx0 ∧ t = -61, .tup [.dat I (-1), .dat I 1439], []⟩
  | 13, [.agg [.dat (.int .i64) z, .dat (.sl .bool) w, .dat (.sl (.int .i64)) h], .dat (.int .i64) d, .dat (.int .i64) m], [] => some ⟨z = 60 ∧ w = wx0 ∧ h = hx0 ∧ d = 1 ∧ m = 0, .dat I 1380, []⟩
  | 14, [.agg [.dat (.int .i64) z, .dat (.sl .bool) w, .dat (.sl (.int .i64)) h], .dat (.int .i64) d], [] => if d = 5 then some ⟨z = 60 ∧ w = wx0 ∧ h = hx0 ∧ d = 5, .tup [.dat I 8, .dat I 0], []⟩
      else some ⟨z = 0 ∧ w = D.rep 7 false ∧ h = [] ∧ d = 0, .tup [.dat I 0, .dat I 20], []⟩
  | 16, [.agg [.dat (.int .i64) z, .dat (.sl .bool) w, .dat (.sl (.int .i64)) h], .dat (.int .i64) d, .dat (.int .i64) n], [] => if n = 1 then some ⟨z = 60 ∧ w = wx0 ∧ h = hx0 ∧ d = 4 ∧ n = 1, .tup [.dat I 8, .dat I 0], []⟩
      else if n = 0 then some ⟨z = 60 ∧ w = wx0 ∧ h = hx0 ∧ d = 5 ∧ n = 0, .tup [.dat I 5, .dat I 0], []⟩ else some ⟨z = 60 ∧ w = wx0 ∧ h = hx0 ∧ d = 5 ∧ n = 2, .tup [.dat I 9, .dat I 0], []⟩
  | 15, [.agg [.dat (.int .i64) z, .dat (.sl .bool) w, .dat (.sl (.int .i64)) h], .dat (.int .i64) d], [] => if d = 4 then some ⟨z = 60 ∧ w = wx0 ∧ h = hx0 ∧ d = 4, .dat .bool true, []⟩
      else if d = 5 then some ⟨z = 60 ∧ w = wx0 ∧ h = hx0 ∧ d = 5, .dat .bool false, []⟩ else if d = 7 then some ⟨z = 60 ∧ w = wx0 ∧ h = hx0 ∧ d = 7, .dat .bool false, []⟩ else some ⟨z = 60 ∧ w = wx0 ∧ h = hx0 ∧ d = -3, .dat .bool true, []⟩
  | 17, [.agg [.dat (.int .i64) z, .dat (.sl .bool) w, .dat (.sl (.int .i64)) h], .dat (.int .i64) a, .dat (.int .i64) b], [] => if a = 4 then some ⟨z = 60 ∧ w = wx0 ∧ h = hx0 ∧ a = 4 ∧ b = 9, .dat I 2, []⟩
      else some ⟨z = 60 ∧ w = wx0 ∧ h = hx0 ∧ a = 0 ∧ b = 2001, .dat I (-1), []⟩
  | 20, [.agg [.dat (.int .i64) z, .dat (.sl .bool) w, .dat (.sl (.int .i64)) h]], [] => if z = 60 then some ⟨z = 60 ∧ w = wx0 ∧ h = hx0, .dat .bool true, []⟩ else some ⟨z = 0 ∧ w = [] ∧ h = [], .dat .bool false, []⟩
  | _, _, _ => none
theorem vc_head  (hvc :
    true = true ∧ (True → True ∧ 1 = 1 ∧ 0 = 0 ∧ 1 = 1 ∧ 0 = 0 ∧ ((60 : Int) = (60 : Int) ∧ [true, true, true, true, true, false, false] = [true, true, true, true,
    true, false, false] ∧ [(5 : Int), (7 : Int)] = [(5 : Int), (7 : Int)] ∧ (1380 : Int) = (1380 : Int)) ∧ 1 = 1 ∧ 0 = 0 ∧ ((60 : Int) = (60 : Int) ∧ [true, true,
    true, true, true, false, false] = [true, true, true, true, true, false, false] ∧ [(5 : Int), (7 : Int)] = [(5 : Int), (7 : Int)] ∧ (-61 : Int) = (-61 : Int)) ∧
    1 = 1 ∧ 0 = 0 ∧ ((60 : Int) = (60 : Int) ∧ [true, true, true, true, true, false, false] = [true, true, true, true, true, false, false] ∧ [(5 : Int), (7 : Int)]
    = [(5 : Int), (7 : Int)] ∧ (5 : Int) = (5 : Int)) ∧ 1 = 1 ∧ 0 = 0 ∧ ((60 : Int) = (60 : Int) ∧ [true, true, true, true, true, false, false] = [true, true, true,
    true, true, false, false] ∧ [(5 : Int), (7 : Int)] = [(5 : Int), (7 : Int)] ∧ (4 : Int) = (4 : Int) ∧ (1 : Int) = (1 : Int)) ∧ 1 = 1 ∧ 0 = 0 ∧ ((60 : Int) = (60
    : Int) ∧ [true, true, true, true, true, false, false] = [true, true, true, true, true, false, false] ∧ [(5 : Int), (7 : Int)] = [(5 : Int), (7 : Int)] ∧ (5 :
    Int) = (5 : Int) ∧ (0 : Int) = (0 : Int)) ∧ 1 = 1 ∧ 0 = 0 ∧ ((60 : Int) = (60 : Int) ∧ [true, true, true, true, true, false, false] = [true, true, true, true,
    true, false, false] ∧ [(5 : Int), (7 : Int)] = [(5 : Int), (7 : Int)] ∧ (5 : Int) = (5 : Int) ∧ (2 : Int) = (2 : Int)) ∧ D.ile (0 : Int) (7 : Int) ∧ D.ile
    (D.mul (D.ofN (1)) (7 : Int)) (281474976710656 : Int) ∧ D.ile (7 : Int) (9223372036854775807 : Int) ∧ ((0 : Int) = (0 : Int) ∧ D.rep (7 : Int) false = D.rep (7
    : Int) false ∧ D.nil Int = D.nil Int ∧ (0 : Int) = (0 : Int)) ∧ (D.eq (1 : Int) (1 : Int) = true → D.eq (1 : Int) (1 : Int) = true → D.eq (1 : Int) (1 : Int) =
    true) ∧ (D.and true (D.eq (1 : Int) (1 : Int)) = true → D.eq (1 : Int) (1 : Int) = true) ∧ (D.cnd (D.eq (1 : Int) (1 : Int)) (D.eq (0 : Int) (0 : Int)) false =
    true → D.cnd (D.eq (1 : Int) (1 : Int)) (D.eq (0 : Int) (0 : Int)) false = true → D.cnd (D.eq (1 : Int) (1 : Int)) (D.eq (0 : Int) (0 : Int)) false = true) ∧
    (D.and true (D.cnd (D.eq (1 : Int) (1 : Int)) (D.eq (0 : Int) (0 : Int)) false) = true → D.cnd (D.eq (1 : Int) (1 : Int)) (D.eq (0 : Int) (0 : Int)) false =
    true) ∧ (D.cnd (D.cnd (D.eq (1 : Int) (1 : Int)) (D.eq (0 : Int) (0 : Int)) false) (D.eq (-1 : Int) (-1 : Int)) false = true → D.cnd (D.cnd (D.eq (1 : Int) (1 :
    Int)) (D.eq (0 : Int) (0 : Int)) false) (D.eq (-1 : Int) (-1 : Int)) false = true → D.cnd (D.cnd (D.eq (1 : Int) (1 : Int)) (D.eq (0 : Int) (0 : Int)) false)
    (D.eq (-1 : Int) (-1 : Int)) false = true) ∧ (D.and true (D.cnd (D.cnd (D.eq (1 : Int) (1 : Int)) (D.eq (0 : Int) (0 : Int)) false) (D.eq (-1 : Int) (-1 : Int))
    false) = true → D.cnd (D.cnd (D.eq (1 : Int) (1 : Int)) (D.eq (0 : Int) (0 : Int)) false) (D.eq (-1 : Int) (-1 : Int)) false = true) ∧ (D.cnd (D.cnd (D.cnd
    (D.eq (1 : Int) (1 : Int)) (D.eq (0 : Int) (0 : Int)) false) (D.eq (-1 : Int) (-1 : Int)) false) (D.eq (1439 : Int) (1439 : Int)) false = true → 1 = 1) ∧ (D.cnd
    (D.cnd (D.cnd (D.eq (1 : Int) (1 : Int)) (D.eq (0 : Int) (0 : Int)) false) (D.eq (-1 : Int) (-1 : Int)) false) (D.eq (1439 : Int) (1439 : Int)) false = true → 0
    = 0) ∧ (D.cnd (D.cnd (D.cnd (D.eq (1 : Int) (1 : Int)) (D.eq (0 : Int) (0 : Int)) false) (D.eq (-1 : Int) (-1 : Int)) false) (D.eq (1439 : Int) (1439 : Int))
    false = true → D.cnd (D.cnd (D.cnd (D.eq (1 : Int) (1 : Int)) (D.eq (0 : Int) (0 : Int)) false) (D.eq (-1 : Int) (-1 : Int)) false) (D.eq (1439 : Int) (1439 :
    Int)) false = true → D.cnd (D.cnd (D.cnd (D.eq (1 : Int) (1 : Int)) (D.eq (0 : Int) (0 : Int)) false) (D.eq (-1 : Int) (-1 : Int)) false) (D.eq (1439 : Int)
    (1439 : Int)) false = true) ∧ (D.cnd (D.cnd (D.cnd (D.eq (1 : Int) (1 : Int)) (D.eq (0 : Int) (0 : Int)) false) (D.eq (-1 : Int) (-1 : Int)) false) (D.eq (1439
    : Int) (1439 : Int)) false = true → (60 : Int) = (60 : Int) ∧ [true, true, true, true, true, false, false] = [true, true, true, true, true, false, false] ∧ [(5
    : Int), (7 : Int)] = [(5 : Int), (7 : Int)] ∧ (1 : Int) = (1 : Int) ∧ (0 : Int) = (0 : Int)) ∧ (D.cnd (D.cnd (D.cnd (D.eq (1 : Int) (1 : Int)) (D.eq (0 : Int)
    (0 : Int)) false) (D.eq (-1 : Int) (-1 : Int)) false) (D.eq (1439 : Int) (1439 : Int)) false = true → D.cnd (D.cnd (D.cnd (D.eq (1 : Int) (1 : Int)) (D.eq (0 :
    Int) (0 : Int)) false) (D.eq (-1 : Int) (-1 : Int)) false) (D.eq (1439 : Int) (1439 : Int)) false = true → D.cnd (D.cnd (D.cnd (D.eq (1 : Int) (1 : Int)) (D.eq
    (0 : Int) (0 : Int)) false) (D.eq (-1 : Int) (-1 : Int)) false) (D.eq (1439 : Int) (1439 : Int)) false = true) ∧ (D.and true (D.cnd (D.cnd (D.cnd (D.eq (1 :
    Int) (1 : Int)) (D.eq (0 : Int) (0 : Int)) false) (D.eq (-1 : Int) (-1 : Int)) false) (D.eq (1439 : Int) (1439 : Int)) false) = true → D.cnd (D.cnd (D.cnd (D.eq
    (1 : Int) (1 : Int)) (D.eq (0 : Int) (0 : Int)) false) (D.eq (-1 : Int) (-1 : Int)) false) (D.eq (1439 : Int) (1439 : Int)) false = true) ∧ (D.cnd (D.cnd (D.cnd
    (D.cnd (D.eq (1 : Int) (1 : Int)) (D.eq (0 : Int) (0 : Int)) false) (D.eq (-1 : Int) (-1 : Int)) false) (D.eq (1439 : Int) (1439 : Int)) false) (D.eq (1380 :
    Int) (1380 : Int)) false = true → D.cnd (D.cnd (D.cnd (D.cnd (D.eq (1 : Int) (1 : Int)) (D.eq (0 : Int) (0 : Int)) false) (D.eq (-1 : Int) (-1 : Int)) false)
    (D.eq (1439 : Int) (1439 : Int)) false) (D.eq (1380 : Int) (1380 : Int)) false = true → D.cnd (D.cnd (D.cnd (D.cnd (D.eq (1 : Int) (1 : Int)) (D.eq (0 : Int) (0
    : Int)) false) (D.eq (-1 : Int) (-1 : Int)) false) (D.eq (1439 : Int) (1439 : Int)) false) (D.eq (1380 : Int) (1380 : Int)) false = true) ∧ (D.and true (D.cnd
    (D.cnd (D.cnd (D.cnd (D.eq (1 : Int) (1 : Int)) (D.eq (0 : Int) (0 : Int)) false) (D.eq (-1 : Int) (-1 : Int)) false) (D.eq (1439 : Int) (1439 : Int)) false)
    (D.eq (1380 : Int) (1380 : Int)) false) = true → D.cnd (D.cnd (D.cnd (D.cnd (D.eq (1 : Int) (1 : Int)) (D.eq (0 : Int) (0 : Int)) false) (D.eq (-1 : Int) (-1 :
    Int)) false) (D.eq (1439 : Int) (1439 : Int)) false) (D.eq (1380 : Int) (1380 : Int)) false = true) ∧ (D.cnd (D.cnd (D.cnd (D.cnd (D.cnd (D.eq (1 : Int) (1 :
    Int)) (D.eq (0 : Int) (0 : Int)) false) (D.eq (-1 : Int) (-1 : Int)) false) (D.eq (1439 : Int) (1439 : Int)) false) (D.eq (1380 : Int) (1380 : Int)) false)
    (D.eq (8 : Int) (8 : Int)) false = true → D.cnd (D.cnd (D.cnd (D.cnd (D.cnd (D.eq (1 : Int) (1 : Int)) (D.eq (0 : Int) (0 : Int)) false) (D.eq (-1 : Int) (-1 :
    Int)) false) (D.eq (1439 : Int) (1439 : Int)) false) (D.eq (1380 : Int) (1380 : Int)) false) (D.eq (8 : Int) (8 : Int)) false = true → D.cnd (D.cnd (D.cnd
    (D.cnd (D.cnd (D.eq (1 : Int) (1 : Int)) (D.eq (0 : Int) (0 : Int)) false) (D.eq (-1 : Int) (-1 : Int)) false) (D.eq (1439 : Int) (1439 : Int)) false) (D.eq
    (1380 : Int) (1380 : Int)) false) (D.eq (8 : Int) (8 : Int)) false = true) ∧ (D.and true (D.cnd (D.cnd (D.cnd (D.cnd (D.cnd (D.eq (1 : Int) (1 : Int)) (D.eq (0
    : Int) (0 : Int)) false) (D.eq (-1 : Int) (-1 : Int)) false) (D.eq (1439 : Int) (1439 : Int)) false) (D.eq (1380 : Int) (1380 : Int)) false) (D.eq (8 : Int) (8
    : Int)) false) = true → D.cnd (D.cnd (D.cnd (D.cnd (D.cnd (D.eq (1 : Int) (1 : Int)) (D.eq (0 : Int) (0 : Int)) false) (D.eq (-1 : Int) (-1 : Int)) false) (D.eq
    (1439 : Int) (1439 : Int)) false) (D.eq (1380 : Int) (1380 : Int)) false) (D.eq (8 : Int) (8 : Int)) false = true) ∧ (D.cnd (D.cnd (D.cnd (D.cnd (D.cnd (D.cnd
    (D.eq (1 : Int) (1 : Int)) (D.eq (0 : Int) (0 : Int)) false) (D.eq (-1 : Int) (-1 : Int)) false) (D.eq (1439 : Int) (1439 : Int)) false) (D.eq (1380 : Int)
    (1380 : Int)) false) (D.eq (8 : Int) (8 : Int)) false) (D.eq (0 : Int) (0 : Int)) false = true → D.cnd (D.cnd (D.cnd (D.cnd (D.cnd (D.cnd (D.eq (1 : Int) (1 :
    Int)) (D.eq (0 : Int) (0 : Int)) false) (D.eq (-1 : Int) (-1 : Int)) false) (D.eq (1439 : Int) (1439 : Int)) false) (D.eq (1380 : Int) (1380 : Int)) false)
    (D.eq (8 : Int) (8 : Int)) false) (D.eq (0 : Int) (0 : Int)) false = true → D.cnd (D.cnd (D.cnd (D.cnd (D.cnd (D.cnd (D.eq (1 : Int) (1 : Int)) (D.eq (0 : Int)
    (0 : Int)) false) (D.eq (-1 : Int) (-1 : Int)) false) (D.eq (1439 : Int) (1439 : Int)) false) (D.eq (1380 : Int) (1380 : Int)) false) (D.eq (8 : Int) (8 : Int))
    false) (D.eq (0 : Int) (0 : Int)) false = true) ∧ (D.and true (D.cnd (D.cnd (D.cnd (D.cnd (D.cnd (D.cnd (D.eq (1 : Int) (1 : Int)) (D.eq (0 : Int) (0 : Int))
    false) (D.eq (-1 : Int) (-1 : Int)) false) (D.eq (1439 : Int) (1439 : Int)) false) (D.eq (1380 : Int) (1380 : Int)) false) (D.eq (8 : Int) (8 : Int)) false)
    (D.eq (0 : Int) (0 : Int)) false) = true → D.cnd (D.cnd (D.cnd (D.cnd (D.cnd (D.cnd (D.eq (1 : Int) (1 : Int)) (D.eq (0 : Int) (0 : Int)) false) (D.eq (-1 :
    Int) (-1 : Int)) false) (D.eq (1439 : Int) (1439 : Int)) false) (D.eq (1380 : Int) (1380 : Int)) false) (D.eq (8 : Int) (8 : Int)) false) (D.eq (0 : Int) (0 :
    Int)) false = true) ∧ (D.cnd (D.cnd (D.cnd (D.cnd (D.cnd (D.cnd (D.cnd (D.eq (1 : Int) (1 : Int)) (D.eq (0 : Int) (0 : Int)) false) (D.eq (-1 : Int) (-1 : Int))
    false) (D.eq (1439 : Int) (1439 : Int)) false) (D.eq (1380 : Int) (1380 : Int)) false) (D.eq (8 : Int) (8 : Int)) false) (D.eq (0 : Int) (0 : Int)) false) (D.eq
    (8 : Int) (8 : Int)) false = true → D.cnd (D.cnd (D.cnd (D.cnd (D.cnd (D.cnd (D.cnd (D.eq (1 : Int) (1 : Int)) (D.eq (0 : Int) (0 : Int)) false) (D.eq (-1 :
    Int) (-1 : Int)) false) (D.eq (1439 : Int) (1439 : Int)) false) (D.eq (1380 : Int) (1380 : Int)) false) (D.eq (8 : Int) (8 : Int)) false) (D.eq (0 : Int) (0 :
    Int)) false) (D.eq (8 : Int) (8 : Int)) false = true → D.cnd (D.cnd (D.cnd (D.cnd (D.cnd (D.cnd (D.cnd (D.eq (1 : Int) (1 : Int)) (D.eq (0 : Int) (0 : Int))
    false) (D.eq (-1 : Int) (-1 : Int)) false) (D.eq (1439 : Int) (1439 : Int)) false) (D.eq (1380 : Int) (1380 : Int)) false) (D.eq (8 : Int) (8 : Int)) false)
    (D.eq (0 : Int) (0 : Int)) false) (D.eq (8 : Int) (8 : Int)) false = true) ∧ (D.and true (D.cnd (D.cnd (D.cnd (D.cnd (D.cnd (D.cnd (D.cnd (D.eq (1 : Int) (1 :
    Int)) (D.eq (0 : Int) (0 : Int)) false) (D.eq (-1 : Int) (-1 : Int)) false) (D.eq (1439 : Int) (1439 : Int)) false) (D.eq (1380 : Int) (1380 : Int)) false)
    (D.eq (8 : Int) (8 : Int)) false) (D.eq (0 : Int) (0 : Int)) false) (D.eq (8 : Int) (8 : Int)) false) = true → D.cnd (D.cnd (D.cnd (D.cnd (D.cnd (D.cnd (D.cnd
    (D.eq (1 : Int) (1 : Int)) (D.eq (0 : Int) (0 : Int)) false) (D.eq (-1 : Int) (-1 : Int)) false) (D.eq (1439 : Int) (1439 : Int)) false) (D.eq (1380 : Int)
    (1380 : Int)) false) (D.eq (8 : Int) (8 : Int)) false) (D.eq (0 : Int) (0 : Int)) false) (D.eq (8 : Int) (8 : Int)) false = true) ∧ (D.cnd (D.cnd (D.cnd (D.cnd
    (D.cnd (D.cnd (D.cnd (D.cnd (D.eq (1 : Int) (1 : Int)) (D.eq (0 : Int) (0 : Int)) false) (D.eq (-1 : Int) (-1 : Int)) false) (D.eq (1439 : Int) (1439 : Int))
    false) (D.eq (1380 : Int) (1380 : Int)) false) (D.eq (8 : Int) (8 : Int)) false) (D.eq (0 : Int) (0 : Int)) false) (D.eq (8 : Int) (8 : Int)) false) (D.eq (0 :
    Int) (0 : Int)) false = true → D.cnd (D.cnd (D.cnd (D.cnd (D.cnd (D.cnd (D.cnd (D.cnd (D.eq (1 : Int) (1 : Int)) (D.eq (0 : Int) (0 : Int)) false) (D.eq (-1 :
    Int) (-1 : Int)) false) (D.eq (1439 : Int) (1439 : Int)) false) (D.eq (1380 : Int) (1380 : Int)) false) (D.eq (8 : Int) (8 : Int)) false) (D.eq (0 : Int) (0 :
    Int)) false) (D.eq (8 : Int) (8 : Int)) false) (D.eq (0 : Int) (0 : Int)) false = true → D.cnd (D.cnd (D.cnd (D.cnd (D.cnd (D.cnd (D.cnd (D.cnd (D.eq (1 : Int)
    (1 : Int)) (D.eq (0 : Int) (0 : Int)) false) (D.eq (-1 : Int) (-1 : Int)) false) (D.eq (1439 : Int) (1439 : Int)) false) (D.eq (1380 : Int) (1380 : Int)) false)
    (D.eq (8 : Int) (8 : Int)) false) (D.eq (0 : Int) (0 : Int)) false) (D.eq (8 : Int) (8 : Int)) false) (D.eq (0 : Int) (0 : Int)) false = true) ∧ (D.and true
    (D.cnd (D.cnd (D.cnd (D.cnd (D.cnd (D.cnd (D.cnd (D.cnd (D.eq (1 : Int) (1 : Int)) (D.eq (0 : Int) (0 : Int)) false) (D.eq (-1 : Int) (-1 : Int)) false) (D.eq
    (1439 : Int) (1439 : Int)) false) (D.eq (1380 : Int) (1380 : Int)) false) (D.eq (8 : Int) (8 : Int)) false) (D.eq (0 : Int) (0 : Int)) false) (D.eq (8 : Int) (8
    : Int)) false) (D.eq (0 : Int) (0 : Int)) false) = true → D.cnd (D.cnd (D.cnd (D.cnd (D.cnd (D.cnd (D.cnd (D.cnd (D.eq (1 : Int) (1 : Int)) (D.eq (0 : Int) (0 :
    Int)) false) (D.eq (-1 : Int) (-1 : Int)) false) (D.eq (1439 : Int) (1439 : Int)) false) (D.eq (1380 : Int) (1380 : Int)) false) (D.eq (8 : Int) (8 : Int))
    false) (D.eq (0 : Int) (0 : Int)) false) (D.eq (8 : Int) (8 : Int)) false) (D.eq (0 : Int) (0 : Int)) false = true) ∧ (D.cnd (D.cnd (D.cnd (D.cnd (D.cnd (D.cnd
    (D.cnd (D.cnd (D.cnd (D.eq (1 : Int) (1 : Int)) (D.eq (0 : Int) (0 : Int)) false) (D.eq (-1 : Int) (-1 : Int)) false) (D.eq (1439 : Int) (1439 : Int)) false)
    (D.eq (1380 : Int) (1380 : Int)) false) (D.eq (8 : Int) (8 : Int)) false) (D.eq (0 : Int) (0 : Int)) false) (D.eq (8 : Int) (8 : Int)) false) (D.eq (0 : Int) (0
    : Int)) false) (D.eq (5 : Int) (5 : Int)) false = true → D.cnd (D.cnd (D.cnd (D.cnd (D.cnd (D.cnd (D.cnd (D.cnd (D.cnd (D.eq (1 : Int) (1 : Int)) (D.eq (0 :
    Int) (0 : Int)) false) (D.eq (-1 : Int) (-1 : Int)) false) (D.eq (1439 : Int) (1439 : Int)) false) (D.eq (1380 : Int) (1380 : Int)) false) (D.eq (8 : Int) (8 :
    Int)) false) (D.eq (0 : Int) (0 : Int)) false) (D.eq (8 : Int) (8 : Int)) false) (D.eq (0 : Int) (0 : Int)) false) (D.eq (5 : Int) (5 : Int)) false = true →
    D.cnd (D.cnd (D.cnd (D.cnd (D.cnd (D.cnd (D.cnd (D.cnd (D.cnd (D.eq (1 : Int) (1 : Int)) (D.eq (0 : Int) (0 : Int)) false) (D.eq (-1 : Int) (-1 : Int)) false)
    (D.eq (1439 : Int) (1439 : Int)) false) (D.eq (1380 : Int) (1380 : Int)) false) (D.eq (8 : Int) (8 : Int)) false) (D.eq (0 : Int) (0 : Int)) false) (D.eq (8 :
    Int) (8 : Int)) false) (D.eq (0 : Int) (0 : Int)) false) (D.eq (5 : Int) (5 : Int)) false = true) ∧ (D.and true (D.cnd (D.cnd (D.cnd (D.cnd (D.cnd (D.cnd (D.cnd
    (D.cnd (D.cnd (D.eq (1 : Int) (1 : Int)) (D.eq (0 : Int) (0 : Int)) false) (D.eq (-1 : Int) (-1 : Int)) false) (D.eq (1439 : Int) (1439 : Int)) false) (D.eq
    (1380 : Int) (1380 : Int)) false) (D.eq (8 : Int) (8 : Int)) false) (D.eq (0 : Int) (0 : Int)) false) (D.eq (8 : Int) (8 : Int)) false) (D.eq (0 : Int) (0 :
    Int)) false) (D.eq (5 : Int) (5 : Int)) false) = true → D.cnd (D.cnd (D.cnd (D.cnd (D.cnd (D.cnd (D.cnd (D.cnd (D.cnd (D.eq (1 : Int) (1 : Int)) (D.eq (0 : Int)
    (0 : Int)) false) (D.eq (-1 : Int) (-1 : Int)) false) (D.eq (1439 : Int) (1439 : Int)) false) (D.eq (1380 : Int) (1380 : Int)) false) (D.eq (8 : Int) (8 : Int))
    false) (D.eq (0 : Int) (0 : Int)) false) (D.eq (8 : Int) (8 : Int)) false) (D.eq (0 : Int) (0 : Int)) false) (D.eq (5 : Int) (5 : Int)) false = true) ∧ (D.cnd
    (D.cnd (D.cnd (D.cnd (D.cnd (D.cnd (D.cnd (D.cnd (D.cnd (D.cnd (D.eq (1 : Int) (1 : Int)) (D.eq (0 : Int) (0 : Int)) false) (D.eq (-1 : Int) (-1 : Int)) false)
    (D.eq (1439 : Int) (1439 : Int)) false) (D.eq (1380 : Int) (1380 : Int)) false) (D.eq (8 : Int) (8 : Int)) false) (D.eq (0 : Int) (0 : Int)) false) (D.eq (8 :
    Int) (8 : Int)) false) (D.eq (0 : Int) (0 : Int)) false) (D.eq (5 : Int) (5 : Int)) false) (D.eq (0 : Int) (0 : Int)) false = true → D.cnd (D.cnd (D.cnd (D.cnd
    (D.cnd (D.cnd (D.cnd (D.cnd (D.cnd (D.cnd (D.eq (1 : Int) (1 : Int)) (D.eq (0 : Int) (0 : Int)) false) (D.eq (-1 : Int) (-1 : Int)) false) (D.eq (1439 : Int)
    (1439 : Int)) false) (D.eq (1380 : Int) (1380 : Int)) false) (D.eq (8 : Int) (8 : Int)) false) (D.eq (0 : Int) (0 : Int)) false) (D.eq (8 : Int) (8 : Int))
    false) (D.eq (0 : Int) (0 : Int)) false) (D.eq (5 : Int) (5 : Int)) false) (D.eq (0 : Int) (0 : Int)) false = true → D.cnd (D.cnd (D.cnd (D.cnd (D.cnd (D.cnd
    (D.cnd (D.cnd (D.cnd (D.cnd (D.eq (1 : Int) (1 : Int)) (D.eq (0 : Int) (0 : Int)) false) (D.eq (-1 : Int) (-1 : Int)) false) (D.eq (1439 : Int) (1439 : Int))
    false) (D.eq (1380 : Int) (1380 : Int)) false) (D.eq (8 : Int) (8 : Int)) false) (D.eq (0 : Int) (0 : Int)) false) (D.eq (8 : Int) (8 : Int)) false) (D.eq (0 :
    Int) (0 : Int)) false) (D.eq (5 : Int) (5 : Int)) false) (D.eq (0 : Int) (0 : Int)) false = true) ∧ (D.and true (D.cnd (D.cnd (D.cnd (D.cnd (D.cnd (D.cnd (D.cnd
    (D.cnd (D.cnd (D.cnd (D.eq (1 : Int) (1 : Int)) (D.eq (0 : Int) (0 : Int)) false) (D.eq (-1 : Int) (-1 : Int)) false) (D.eq (1439 : Int) (1439 : Int)) false)
    (D.eq (1380 : Int) (1380 : Int)) false) (D.eq (8 : Int) (8 : Int)) false) (D.eq (0 : Int) (0 : Int)) false) (D.eq (8 : Int) (8 : Int)) false) (D.eq (0 : Int) (0
    : Int)) false) (D.eq (5 : Int) (5 : Int)) false) (D.eq (0 : Int) (0 : Int)) false) = true → D.cnd (D.cnd (D.cnd (D.cnd (D.cnd (D.cnd (D.cnd (D.cnd (D.cnd (D.cnd
    (D.eq (1 : Int) (1 : Int)) (D.eq (0 : Int) (0 : Int)) false) (D.eq (-1 : Int) (-1 : Int)) false) (D.eq (1439 : Int) (1439 : Int)) false) (D.eq (1380 : Int)
    (1380 : Int)) false) (D.eq (8 : Int) (8 : Int)) false) (D.eq (0 : Int) (0 : Int)) false) (D.eq (8 : Int) (8 : Int)) false) (D.eq (0 : Int) (0 : Int)) false)
    (D.eq (5 : Int) (5 : Int)) false) (D.eq (0 : Int) (0 : Int)) false = true) ∧ (D.cnd (D.cnd (D.cnd (D.cnd (D.cnd (D.cnd (D.cnd (D.cnd (D.cnd (D.cnd (D.cnd (D.eq
    (1 : Int) (1 : Int)) (D.eq (0 : Int) (0 : Int)) false) (D.eq (-1 : Int) (-1 : Int)) false) (D.eq (1439 : Int) (1439 : Int)) false) (D.eq (1380 : Int) (1380 :
    Int)) false) (D.eq (8 : Int) (8 : Int)) false) (D.eq (0 : Int) (0 : Int)) false) (D.eq (8 : Int) (8 : Int)) false) (D.eq (0 : Int) (0 : Int)) false) (D.eq (5 :
    Int) (5 : Int)) false) (D.eq (0 : Int) (0 : Int)) false) (D.eq (9 : Int) (9 : Int)) false = true → D.cnd (D.cnd (D.cnd (D.cnd (D.cnd (D.cnd (D.cnd (D.cnd (D.cnd
    (D.cnd (D.cnd (D.eq (1 : Int) (1 : Int)) (D.eq (0 : Int) (0 : Int)) false) (D.eq (-1 : Int) (-1 : Int)) false) (D.eq (1439 : Int) (1439 : Int)) false) (D.eq
    (1380 : Int) (1380 : Int)) false) (D.eq (8 : Int) (8 : Int)) false) (D.eq (0 : Int) (0 : Int)) false) (D.eq (8 : Int) (8 : Int)) false) (D.eq (0 : Int) (0 :
    Int)) false) (D.eq (5 : Int) (5 : Int)) false) (D.eq (0 : Int) (0 : Int)) false) (D.eq (9 : Int) (9 : Int)) false = true → D.cnd (D.cnd (D.cnd (D.cnd (D.cnd
    (D.cnd (D.cnd (D.cnd (D.cnd (D.cnd (D.cnd (D.eq (1 : Int) (1 : Int)) (D.eq (0 : Int) (0 : Int)) false) (D.eq (-1 : Int) (-1 : Int)) false) (D.eq (1439 : Int)
    (1439 : Int)) false) (D.eq (1380 : Int) (1380 : Int)) false) (D.eq (8 : Int) (8 : Int)) false) (D.eq (0 : Int) (0 : Int)) false) (D.eq (8 : Int) (8 : Int))
    false) (D.eq (0 : Int) (0 : Int)) false) (D.eq (5 : Int) (5 : Int)) false) (D.eq (0 : Int) (0 : Int)) false) (D.eq (9 : Int) (9 : Int)) false = true) ∧ (D.and
    true (D.cnd (D.cnd (D.cnd (D.cnd (D.cnd (D.cnd (D.cnd (D.cnd (D.cnd (D.cnd (D.cnd (D.eq (1 : Int) (1 : Int)) (D.eq (0 : Int) (0 : Int)) false) (D.eq (-1 : Int)
    (-1 : Int)) false) (D.eq (1439 : Int) (1439 : Int)) false) (D.eq (1380 : Int) (1380 : Int)) false) (D.eq (8 : Int) (8 : Int)) false) (D.eq (0 : Int) (0 : Int))
    false) (D.eq (8 : Int) (8 : Int)) false) (D.eq (0 : Int) (0 : Int)) false) (D.eq (5 : Int) (5 : Int)) false) (D.eq (0 : Int) (0 : Int)) false) (D.eq (9 : Int)
    (9 : Int)) false) = true → D.cnd (D.cnd (D.cnd (D.cnd (D.cnd (D.cnd (D.cnd (D.cnd (D.cnd (D.cnd (D.cnd (D.eq (1 : Int) (1 : Int)) (D.eq (0 : Int) (0 : Int))
    false) (D.eq (-1 : Int) (-1 : Int)) false) (D.eq (1439 : Int) (1439 : Int)) false) (D.eq (1380 : Int) (1380 : Int)) false) (D.eq (8 : Int) (8 : Int)) false)
    (D.eq (0 : Int) (0 : Int)) false) (D.eq (8 : Int) (8 : Int)) false) (D.eq (0 : Int) (0 : Int)) false) (D.eq (5 : Int) (5 : Int)) false) (D.eq (0 : Int) (0 :
    Int)) false) (D.eq (9 : Int) (9 : Int)) false = true) ∧ (D.cnd (D.cnd (D.cnd (D.cnd (D.cnd (D.cnd (D.cnd (D.cnd (D.cnd (D.cnd (D.cnd (D.cnd (D.eq (1 : Int) (1 :
    Int)) (D.eq (0 : Int) (0 : Int)) false) (D.eq (-1 : Int) (-1 : Int)) false) (D.eq (1439 : Int) (1439 : Int)) false) (D.eq (1380 : Int) (1380 : Int)) false)
    (D.eq (8 : Int) (8 : Int)) false) (D.eq (0 : Int) (0 : Int)) false) (D.eq (8 : Int) (8 : Int)) false) (D.eq (0 : Int) (0 : Int)) false) (D.eq (5 : Int) (5 :
    Int)) false) (D.eq (0 : Int) (0 : Int)) false) (D.eq (9 : Int) (9 : Int)) false) (D.eq (0 : Int) (0 : Int)) false = true → D.cnd (D.cnd (D.cnd (D.cnd (D.cnd
    (D.cnd (D.cnd (D.cnd (D.cnd (D.cnd (D.cnd (D.cnd (D.eq (1 : Int) (1 : Int)) (D.eq (0 : Int) (0 : Int)) false) (D.eq (-1 : Int) (-1 : Int)) false) (D.eq (1439 :
    Int) (1439 : Int)) false) (D.eq (1380 : Int) (1380 : Int)) false) (D.eq (8 : Int) (8 : Int)) false) (D.eq (0 : Int) (0 : Int)) false) (D.eq (8 : Int) (8 : Int))
    false) (D.eq (0 : Int) (0 : Int)) false) (D.eq (5 : Int) (5 : Int)) false) (D.eq (0 : Int) (0 : Int)) false) (D.eq (9 : Int) (9 : Int)) false) (D.eq (0 : Int)
    (0 : Int)) false = true → D.cnd (D.cnd (D.cnd (D.cnd (D.cnd (D.cnd (D.cnd (D.cnd (D.cnd (D.cnd (D.cnd (D.cnd (D.eq (1 : Int) (1 : Int)) (D.eq (0 : Int) (0 :
    Int)) false) (D.eq (-1 : Int) (-1 : Int)) false) (D.eq (1439 : Int) (1439 : Int)) false) (D.eq (1380 : Int) (1380 : Int)) false) (D.eq (8 : Int) (8 : Int))
    false) (D.eq (0 : Int) (0 : Int)) false) (D.eq (8 : Int) (8 : Int)) false) (D.eq (0 : Int) (0 : Int)) false) (D.eq (5 : Int) (5 : Int)) false) (D.eq (0 : Int)
    (0 : Int)) false) (D.eq (9 : Int) (9 : Int)) false) (D.eq (0 : Int) (0 : Int)) false = true) ∧ (D.and true (D.cnd (D.cnd (D.cnd (D.cnd (D.cnd (D.cnd (D.cnd
    (D.cnd (D.cnd (D.cnd (D.cnd (D.cnd (D.eq (1 : Int) (1 : Int)) (D.eq (0 : Int) (0 : Int)) false) (D.eq (-1 : Int) (-1 : Int)) false) (D.eq (1439 : Int) (1439 :
    Int)) false) (D.eq (1380 : Int) (1380 : Int)) false) (D.eq (8 : Int) (8 : Int)) false) (D.eq (0 : Int) (0 : Int)) false) (D.eq (8 : Int) (8 : Int)) false) (D.eq
    (0 : Int) (0 : Int)) false) (D.eq (5 : Int) (5 : Int)) false) (D.eq (0 : Int) (0 : Int)) false) (D.eq (9 : Int) (9 : Int)) false) (D.eq (0 : Int) (0 : Int))
    false) = true → D.cnd (D.cnd (D.cnd (D.cnd (D.cnd (D.cnd (D.cnd (D.cnd (D.cnd (D.cnd (D.cnd (D.cnd (D.eq (1 : Int) (1 : Int)) (D.eq (0 : Int) (0 : Int)) false)
    (D.eq (-1 : Int) (-1 : Int)) false) (D.eq (1439 : Int) (1439 : Int)) false) (D.eq (1380 : Int) (1380 : Int)) false) (D.eq (8 : Int) (8 : Int)) false) (D.eq (0 :
    Int) (0 : Int)) false) (D.eq (8 : Int) (8 : Int)) false) (D.eq (0 : Int) (0 : Int)) false) (D.eq (5 : Int) (5 : Int)) false) (D.eq (0 : Int) (0 : Int)) false)
    (D.eq (9 : Int) (9 : Int)) false) (D.eq (0 : Int) (0 : Int)) false = true) ∧ (D.cnd (D.cnd (D.cnd (D.cnd (D.cnd (D.cnd (D.cnd (D.cnd (D.cnd (D.cnd (D.cnd (D.cnd
    (D.cnd (D.eq (1 : Int) (1 : Int)) (D.eq (0 : Int) (0 : Int)) false) (D.eq (-1 : Int) (-1 : Int)) false) (D.eq (1439 : Int) (1439 : Int)) false) (D.eq (1380 :
    Int) (1380 : Int)) false) (D.eq (8 : Int) (8 : Int)) false) (D.eq (0 : Int) (0 : Int)) false) (D.eq (8 : Int) (8 : Int)) false) (D.eq (0 : Int) (0 : Int))
    false) (D.eq (5 : Int) (5 : Int)) false) (D.eq (0 : Int) (0 : Int)) false) (D.eq (9 : Int) (9 : Int)) false) (D.eq (0 : Int) (0 : Int)) false) (D.eq (20 : Int)
    (20 : Int)) false = true → 1 = 1) ∧ (D.cnd (D.cnd (D.cnd (D.cnd (D.cnd (D.cnd (D.cnd (D.cnd (D.cnd (D.cnd (D.cnd (D.cnd (D.cnd (D.eq (1 : Int) (1 : Int)) (D.eq
    (0 : Int) (0 : Int)) false) (D.eq (-1 : Int) (-1 : Int)) false) (D.eq (1439 : Int) (1439 : Int)) false) (D.eq (1380 : Int) (1380 : Int)) false) (D.eq (8 : Int)
    (8 : Int)) false) (D.eq (0 : Int) (0 : Int)) false) (D.eq (8 : Int) (8 : Int)) false) (D.eq (0 : Int) (0 : Int)) false) (D.eq (5 : Int) (5 : Int)) false) (D.eq
    (0 : Int) (0 : Int)) false) (D.eq (9 : Int) (9 : Int)) false) (D.eq (0 : Int) (0 : Int)) false) (D.eq (20 : Int) (20 : Int)) false = true → 0 = 0) ∧ (D.cnd
    (D.cnd (D.cnd (D.cnd (D.cnd (D.cnd (D.cnd (D.cnd (D.cnd (D.cnd (D.cnd (D.cnd (D.cnd (D.eq (1 : Int) (1 : Int)) (D.eq (0 : Int) (0 : Int)) false) (D.eq (-1 :
    Int) (-1 : Int)) false) (D.eq (1439 : Int) (1439 : Int)) false) (D.eq (1380 : Int) (1380 : Int)) false) (D.eq (8 : Int) (8 : Int)) false) (D.eq (0 : Int) (0 :
    Int)) false) (D.eq (8 : Int) (8 : Int)) false) (D.eq (0 : Int) (0 : Int)) false) (D.eq (5 : Int) (5 : Int)) false) (D.eq (0 : Int) (0 : Int)) false) (D.eq (9 :
    Int) (9 : Int)) false) (D.eq (0 : Int) (0 : Int)) false) (D.eq (20 : Int) (20 : Int)) false = true → D.cnd (D.cnd (D.cnd (D.cnd (D.cnd (D.cnd (D.cnd (D.cnd
    (D.cnd (D.cnd (D.cnd (D.cnd (D.cnd (D.eq (1 : Int) (1 : Int)) (D.eq (0 : Int) (0 : Int)) false) (D.eq (-1 : Int) (-1 : Int)) false) (D.eq (1439 : Int) (1439 :
    Int)) false) (D.eq (1380 : Int) (1380 : Int)) false) (D.eq (8 : Int) (8 : Int)) false) (D.eq (0 : Int) (0 : Int)) false) (D.eq (8 : Int) (8 : Int)) false) (D.eq
    (0 : Int) (0 : Int)) false) (D.eq (5 : Int) (5 : Int)) false) (D.eq (0 : Int) (0 : Int)) false) (D.eq (9 : Int) (9 : Int)) false) (D.eq (0 : Int) (0 : Int))
    false) (D.eq (20 : Int) (20 : Int)) false = true → D.cnd (D.cnd (D.cnd (D.cnd (D.cnd (D.cnd (D.cnd (D.cnd (D.cnd (D.cnd (D.cnd (D.cnd (D.cnd (D.eq (1 : Int) (1
    : Int)) (D.eq (0 : Int) (0 : Int)) false) (D.eq (-1 : Int) (-1 : Int)) false) (D.eq (1439 : Int) (1439 : Int)) false) (D.eq (1380 : Int) (1380 : Int)) false)
    (D.eq (8 : Int) (8 : Int)) false) (D.eq (0 : Int) (0 : Int)) false) (D.eq (8 : Int) (8 : Int)) false) (D.eq (0 : Int) (0 : Int)) false) (D.eq (5 : Int) (5 :
    Int)) false) (D.eq (0 : Int) (0 : Int)) false) (D.eq (9 : Int) (9 : Int)) false) (D.eq (0 : Int) (0 : Int)) false) (D.eq (20 : Int) (20 : Int)) false = true) ∧
    (D.cnd (D.cnd (D.cnd (D.cnd (D.cnd (D.cnd (D.cnd (D.cnd (D.cnd (D.cnd (D.cnd (D.cnd (D.cnd (D.eq (1 : Int) (1 : Int)) (D.eq (0 : Int) (0 : Int)) false) (D.eq
    (-1 : Int) (-1 : Int)) false) (D.eq (1439 : Int) (1439 : Int)) false) (D.eq (1380 : Int) (1380 : Int)) false) (D.eq (8 : Int) (8 : Int)) false) (D.eq (0 : Int)
    (0 : Int)) false) (D.eq (8 : Int) (8 : Int)) false) (D.eq (0 : Int) (0 : Int)) false) (D.eq (5 : Int) (5 : Int)) false) (D.eq (0 : Int) (0 : Int)) false) (D.eq
    (9 : Int) (9 : Int)) false) (D.eq (0 : Int) (0 : Int)) false) (D.eq (20 : Int) (20 : Int)) false = true → (60 : Int) = (60 : Int) ∧ [true, true, true, true,
    true, false, false] = [true, true, true, true, true, false, false] ∧ [(5 : Int), (7 : Int)] = [(5 : Int), (7 : Int)] ∧ (4 : Int) = (4 : Int)) ∧ (D.and true
    (D.cnd (D.cnd (D.cnd (D.cnd (D.cnd (D.cnd (D.cnd (D.cnd (D.cnd (D.cnd (D.cnd (D.cnd (D.cnd (D.eq (1 : Int) (1 : Int)) (D.eq (0 : Int) (0 : Int)) false) (D.eq
    (-1 : Int) (-1 : Int)) false) (D.eq (1439 : Int) (1439 : Int)) false) (D.eq (1380 : Int) (1380 : Int)) false) (D.eq (8 : Int) (8 : Int)) false) (D.eq (0 : Int)
    (0 : Int)) false) (D.eq (8 : Int) (8 : Int)) false) (D.eq (0 : Int) (0 : Int)) false) (D.eq (5 : Int) (5 : Int)) false) (D.eq (0 : Int) (0 : Int)) false) (D.eq
    (9 : Int) (9 : Int)) false) (D.eq (0 : Int) (0 : Int)) false) (D.eq (20 : Int) (20 : Int)) false) = true → D.cnd (D.cnd (D.cnd (D.cnd (D.cnd (D.cnd (D.cnd
    (D.cnd (D.cnd (D.cnd (D.cnd (D.cnd (D.cnd (D.eq (1 : Int) (1 : Int)) (D.eq (0 : Int) (0 : Int)) false) (D.eq (-1 : Int) (-1 : Int)) false) (D.eq (1439 : Int)
    (1439 : Int)) false) (D.eq (1380 : Int) (1380 : Int)) false) (D.eq (8 : Int) (8 : Int)) false) (D.eq (0 : Int) (0 : Int)) false) (D.eq (8 : Int) (8 : Int))
    false) (D.eq (0 : Int) (0 : Int)) false) (D.eq (5 : Int) (5 : Int)) false) (D.eq (0 : Int) (0 : Int)) false) (D.eq (9 : Int) (9 : Int)) false) (D.eq (0 : Int)
    (0 : Int)) false) (D.eq (20 : Int) (20 : Int)) false = true) ∧ (D.cnd (D.cnd (D.cnd (D.cnd (D.cnd (D.cnd (D.cnd (D.cnd (D.cnd (D.cnd (D.cnd (D.cnd (D.cnd (D.cnd
    (D.eq (1 : Int) (1 : Int)) (D.eq (0 : Int) (0 : Int)) false) (D.eq (-1 : Int) (-1 : Int)) false) (D.eq (1439 : Int) (1439 : Int)) false) (D.eq (1380 : Int)
    (1380 : Int)) false) (D.eq (8 : Int) (8 : Int)) false) (D.eq (0 : Int) (0 : Int)) false) (D.eq (8 : Int) (8 : Int)) false) (D.eq (0 : Int) (0 : Int)) false)
    (D.eq (5 : Int) (5 : Int)) false) (D.eq (0 : Int) (0 : Int)) false) (D.eq (9 : Int) (9 : Int)) false) (D.eq (0 : Int) (0 : Int)) false) (D.eq (20 : Int) (20 :
    Int)) false) true false = true → 1 = 1) ∧ (D.cnd (D.cnd (D.cnd (D.cnd (D.cnd (D.cnd (D.cnd (D.cnd (D.cnd (D.cnd (D.cnd (D.cnd (D.cnd (D.cnd (D.eq (1 : Int) (1 :
    Int)) (D.eq (0 : Int) (0 : Int)) false) (D.eq (-1 : Int) (-1 : Int)) false) (D.eq (1439 : Int) (1439 : Int)) false) (D.eq (1380 : Int) (1380 : Int)) false)
    (D.eq (8 : Int) (8 : Int)) false) (D.eq (0 : Int) (0 : Int)) false) (D.eq (8 : Int) (8 : Int)) false) (D.eq (0 : Int) (0 : Int)) false) (D.eq (5 : Int) (5 :
    Int)) false) (D.eq (0 : Int) (0 : Int)) false) (D.eq (9 : Int) (9 : Int)) false) (D.eq (0 : Int) (0 : Int)) false) (D.eq (20 : Int) (20 : Int)) false) true
    false = true → 0 = 0) ∧ (D.cnd (D.cnd (D.cnd (D.cnd (D.cnd (D.cnd (D.cnd (D.cnd (D.cnd (D.cnd (D.cnd (D.cnd (D.cnd (D.cnd (D.eq (1 : Int) (1 : Int)) (D.eq (0 :
    Int) (0 : Int)) false) (D.eq (-1 : Int) (-1 : Int)) false) (D.eq (1439 : Int) (1439 : Int)) false) (D.eq (1380 : Int) (1380 : Int)) false) (D.eq (8 : Int) (8 :
    Int)) false) (D.eq (0 : Int) (0 : Int)) false) (D.eq (8 : Int) (8 : Int)) false) (D.eq (0 : Int) (0 : Int)) false) (D.eq (5 : Int) (5 : Int)) false) (D.eq (0 :
    Int) (0 : Int)) false) (D.eq (9 : Int) (9 : Int)) false) (D.eq (0 : Int) (0 : Int)) false) (D.eq (20 : Int) (20 : Int)) false) true false = true → D.cnd (D.cnd
    (D.cnd (D.cnd (D.cnd (D.cnd (D.cnd (D.cnd (D.cnd (D.cnd (D.cnd (D.cnd (D.cnd (D.cnd (D.eq (1 : Int) (1 : Int)) (D.eq (0 : Int) (0 : Int)) false) (D.eq (-1 :
    Int) (-1 : Int)) false) (D.eq (1439 : Int) (1439 : Int)) false) (D.eq (1380 : Int) (1380 : Int)) false) (D.eq (8 : Int) (8 : Int)) false) (D.eq (0 : Int) (0 :
    Int)) false) (D.eq (8 : Int) (8 : Int)) false) (D.eq (0 : Int) (0 : Int)) false) (D.eq (5 : Int) (5 : Int)) false) (D.eq (0 : Int) (0 : Int)) false) (D.eq (9 :
    Int) (9 : Int)) false) (D.eq (0 : Int) (0 : Int)) false) (D.eq (20 : Int) (20 : Int)) false) true false = true → D.cnd (D.cnd (D.cnd (D.cnd (D.cnd (D.cnd (D.cnd
    (D.cnd (D.cnd (D.cnd (D.cnd (D.cnd (D.cnd (D.cnd (D.eq (1 : Int) (1 : Int)) (D.eq (0 : Int) (0 : Int)) false) (D.eq (-1 : Int) (-1 : Int)) false) (D.eq (1439 :
    Int) (1439 : Int)) false) (D.eq (1380 : Int) (1380 : Int)) false) (D.eq (8 : Int) (8 : Int)) false) (D.eq (0 : Int) (0 : Int)) false) (D.eq (8 : Int) (8 : Int))
    false) (D.eq (0 : Int) (0 : Int)) false) (D.eq (5 : Int) (5 : Int)) false) (D.eq (0 : Int) (0 : Int)) false) (D.eq (9 : Int) (9 : Int)) false) (D.eq (0 : Int)
    (0 : Int)) false) (D.eq (20 : Int) (20 : Int)) false) true false = true) ∧ (D.cnd (D.cnd (D.cnd (D.cnd (D.cnd (D.cnd (D.cnd (D.cnd (D.cnd (D.cnd (D.cnd (D.cnd
    (D.cnd (D.cnd (D.eq (1 : Int) (1 : Int)) (D.eq (0 : Int) (0 : Int)) false) (D.eq (-1 : Int) (-1 : Int)) false) (D.eq (1439 : Int) (1439 : Int)) false) (D.eq
    (1380 : Int) (1380 : Int)) false) (D.eq (8 : Int) (8 : Int)) false) (D.eq (0 : Int) (0 : Int)) false) (D.eq (8 : Int) (8 : Int)) false) (D.eq (0 : Int) (0 :
    Int)) false) (D.eq (5 : Int) (5 : Int)) false) (D.eq (0 : Int) (0 : Int)) false) (D.eq (9 : Int) (9 : Int)) false) (D.eq (0 : Int) (0 : Int)) false) (D.eq (20 :
    Int) (20 : Int)) false) true false = true → (60 : Int) = (60 : Int) ∧ [true, true, true, true, true, false, false] = [true, true, true, true, true, false,
    false] ∧ [(5 : Int), (7 : Int)] = [(5 : Int), (7 : Int)] ∧ (5 : Int) = (5 : Int)) ∧ (D.cnd (D.cnd (D.cnd (D.cnd (D.cnd (D.cnd (D.cnd (D.cnd (D.cnd (D.cnd (D.cnd
    (D.cnd (D.cnd (D.cnd (D.eq (1 : Int) (1 : Int)) (D.eq (0 : Int) (0 : Int)) false) (D.eq (-1 : Int) (-1 : Int)) false) (D.eq (1439 : Int) (1439 : Int)) false)
    (D.eq (1380 : Int) (1380 : Int)) false) (D.eq (8 : Int) (8 : Int)) false) (D.eq (0 : Int) (0 : Int)) false) (D.eq (8 : Int) (8 : Int)) false) (D.eq (0 : Int) (0
    : Int)) false) (D.eq (5 : Int) (5 : Int)) false) (D.eq (0 : Int) (0 : Int)) false) (D.eq (9 : Int) (9 : Int)) false) (D.eq (0 : Int) (0 : Int)) false) (D.eq (20
    : Int) (20 : Int)) false) true false = true → D.cnd (D.cnd (D.cnd (D.cnd (D.cnd (D.cnd (D.cnd (D.cnd (D.cnd (D.cnd (D.cnd (D.cnd (D.cnd (D.cnd (D.eq (1 : Int)
    (1 : Int)) (D.eq (0 : Int) (0 : Int)) false) (D.eq (-1 : Int) (-1 : Int)) false) (D.eq (1439 : Int) (1439 : Int)) false) (D.eq (1380 : Int) (1380 : Int)) false)
    (D.eq (8 : Int) (8 : Int)) false) (D.eq (0 : Int) (0 : Int)) false) (D.eq (8 : Int) (8 : Int)) false) (D.eq (0 : Int) (0 : Int)) false) (D.eq (5 : Int) (5 :
    Int)) false) (D.eq (0 : Int) (0 : Int)) false) (D.eq (9 : Int) (9 : Int)) false) (D.eq (0 : Int) (0 : Int)) false) (D.eq (20 : Int) (20 : Int)) false) true
    false = true → D.cnd (D.cnd (D.cnd (D.cnd (D.cnd (D.cnd (D.cnd (D.cnd (D.cnd (D.cnd (D.cnd (D.cnd (D.cnd (D.cnd (D.eq (1 : Int) (1 : Int)) (D.eq (0 : Int) (0 :
    Int)) false) (D.eq (-1 : Int) (-1 : Int)) false) (D.eq (1439 : Int) (1439 : Int)) false) (D.eq (1380 : Int) (1380 : Int)) false) (D.eq (8 : Int) (8 : Int))
    false) (D.eq (0 : Int) (0 : Int)) false) (D.eq (8 : Int) (8 : Int)) false) (D.eq (0 : Int) (0 : Int)) false) (D.eq (5 : Int) (5 : Int)) false) (D.eq (0 : Int)
    (0 : Int)) false) (D.eq (9 : Int) (9 : Int)) false) (D.eq (0 : Int) (0 : Int)) false) (D.eq (20 : Int) (20 : Int)) false) true false = true) ∧ (D.and true
    (D.cnd (D.cnd (D.cnd (D.cnd (D.cnd (D.cnd (D.cnd (D.cnd (D.cnd (D.cnd (D.cnd (D.cnd (D.cnd (D.cnd (D.eq (1 : Int) (1 : Int)) (D.eq (0 : Int) (0 : Int)) false)
    (D.eq (-1 : Int) (-1 : Int)) false) (D.eq (1439 : Int) (1439 : Int)) false) (D.eq (1380 : Int) (1380 : Int)) false) (D.eq (8 : Int) (8 : Int)) false) (D.eq (0 :
    Int) (0 : Int)) false) (D.eq (8 : Int) (8 : Int)) false) (D.eq (0 : Int) (0 : Int)) false) (D.eq (5 : Int) (5 : Int)) false) (D.eq (0 : Int) (0 : Int)) false)
    (D.eq (9 : Int) (9 : Int)) false) (D.eq (0 : Int) (0 : Int)) false) (D.eq (20 : Int) (20 : Int)) false) true false) = true → D.cnd (D.cnd (D.cnd (D.cnd (D.cnd
    (D.cnd (D.cnd (D.cnd (D.cnd (D.cnd (D.cnd (D.cnd (D.cnd (D.cnd (D.eq (1 : Int) (1 : Int)) (D.eq (0 : Int) (0 : Int)) false) (D.eq (-1 : Int) (-1 : Int)) false)
    (D.eq (1439 : Int) (1439 : Int)) false) (D.eq (1380 : Int) (1380 : Int)) false) (D.eq (8 : Int) (8 : Int)) false) (D.eq (0 : Int) (0 : Int)) false) (D.eq (8 :
    Int) (8 : Int)) false) (D.eq (0 : Int) (0 : Int)) false) (D.eq (5 : Int) (5 : Int)) false) (D.eq (0 : Int) (0 : Int)) false) (D.eq (9 : Int) (9 : Int)) false)
    (D.eq (0 : Int) (0 : Int)) false) (D.eq (20 : Int) (20 : Int)) false) true false = true) ∧ (D.cnd (D.cnd (D.cnd (D.cnd (D.cnd (D.cnd (D.cnd (D.cnd (D.cnd (D.cnd
    (D.cnd (D.cnd (D.cnd (D.cnd (D.cnd (D.eq (1 : Int) (1 : Int)) (D.eq (0 : Int) (0 : Int)) false) (D.eq (-1 : Int) (-1 : Int)) false) (D.eq (1439 : Int) (1439 :
    Int)) false) (D.eq (1380 : Int) (1380 : Int)) false) (D.eq (8 : Int) (8 : Int)) false) (D.eq (0 : Int) (0 : Int)) false) (D.eq (8 : Int) (8 : Int)) false) (D.eq
    (0 : Int) (0 : Int)) false) (D.eq (5 : Int) (5 : Int)) false) (D.eq (0 : Int) (0 : Int)) false) (D.eq (9 : Int) (9 : Int)) false) (D.eq (0 : Int) (0 : Int))
    false) (D.eq (20 : Int) (20 : Int)) false) true false) (D.not false) false = true → 1 = 1) ∧ (D.cnd (D.cnd (D.cnd (D.cnd (D.cnd (D.cnd (D.cnd (D.cnd (D.cnd
    (D.cnd (D.cnd (D.cnd (D.cnd (D.cnd (D.cnd (D.eq (1 : Int) (1 : Int)) (D.eq (0 : Int) (0 : Int)) false) (D.eq (-1 : Int) (-1 : Int)) false) (D.eq (1439 : Int)
    (1439 : Int)) false) (D.eq (1380 : Int) (1380 : Int)) false) (D.eq (8 : Int) (8 : Int)) false) (D.eq (0 : Int) (0 : Int)) false) (D.eq (8 : Int) (8 : Int))
    false) (D.eq (0 : Int) (0 : Int)) false) (D.eq (5 : Int) (5 : Int)) false) (D.eq (0 : Int) (0 : Int)) false) (D.eq (9 : Int) (9 : Int)) false) (D.eq (0 : Int)
    (0 : Int)) false) (D.eq (20 : Int) (20 : Int)) false) true false) (D.not false) false = true → 0 = 0) ∧ (D.cnd (D.cnd (D.cnd (D.cnd (D.cnd (D.cnd (D.cnd (D.cnd
    (D.cnd (D.cnd (D.cnd (D.cnd (D.cnd (D.cnd (D.cnd (D.eq (1 : Int) (1 : Int)) (D.eq (0 : Int) (0 : Int)) false) (D.eq (-1 : Int) (-1 : Int)) false) (D.eq (1439 :
    Int) (1439 : Int)) false) (D.eq (1380 : Int) (1380 : Int)) false) (D.eq (8 : Int) (8 : Int)) false) (D.eq (0 : Int) (0 : Int)) false) (D.eq (8 : Int) (8 : Int))
    false) (D.eq (0 : Int) (0 : Int)) false) (D.eq (5 : Int) (5 : Int)) false) (D.eq (0 : Int) (0 : Int)) false) (D.eq (9 : Int) (9 : Int)) false) (D.eq (0 : Int)
    (0 : Int)) false) (D.eq (20 : Int) (20 : Int)) false) true false) (D.not false) false = true → D.cnd (D.cnd (D.cnd (D.cnd (D.cnd (D.cnd (D.cnd (D.cnd (D.cnd
    (D.cnd (D.cnd (D.cnd (D.cnd (D.cnd (D.cnd (D.eq (1 : Int) (1 : Int)) (D.eq (0 : Int) (0 : Int)) false) (D.eq (-1 : Int) (-1 : Int)) false) (D.eq (1439 : Int)
    (1439 : Int)) false) (D.eq (1380 : Int) (1380 : Int)) false) (D.eq (8 : Int) (8 : Int)) false) (D.eq (0 : Int) (0 : Int)) false) (D.eq (8 : Int) (8 : Int))
    false) (D.eq (0 : Int) (0 : Int)) false) (D.eq (5 : Int) (5 : Int)) false) (D.eq (0 : Int) (0 : Int)) false) (D.eq (9 : Int) (9 : Int)) false) (D.eq (0 : Int)
    (0 : Int)) false) (D.eq (20 : Int) (20 : Int)) false) true false) (D.not false) false = true → D.cnd (D.cnd (D.cnd (D.cnd (D.cnd (D.cnd (D.cnd (D.cnd (D.cnd
    (D.cnd (D.cnd (D.cnd (D.cnd (D.cnd (D.cnd (D.eq (1 : Int) (1 : Int)) (D.eq (0 : Int) (0 : Int)) false) (D.eq (-1 : Int) (-1 : Int)) false) (D.eq (1439 : Int)
    (1439 : Int)) false) (D.eq (1380 : Int) (1380 : Int)) false) (D.eq (8 : Int) (8 : Int)) false) (D.eq (0 : Int) (0 : Int)) false) (D.eq (8 : Int) (8 : Int))
    false) (D.eq (0 : Int) (0 : Int)) false) (D.eq (5 : Int) (5 : Int)) false) (D.eq (0 : Int) (0 : Int)) false) (D.eq (9 : Int) (9 : Int)) false) (D.eq (0 : Int)
    (0 : Int)) false) (D.eq (20 : Int) (20 : Int)) false) true false) (D.not false) false = true) ∧ (D.cnd (D.cnd (D.cnd (D.cnd (D.cnd (D.cnd (D.cnd (D.cnd (D.cnd
    (D.cnd (D.cnd (D.cnd (D.cnd (D.cnd (D.cnd (D.eq (1 : Int) (1 : Int)) (D.eq (0 : Int) (0 : Int)) false) (D.eq (-1 : Int) (-1 : Int)) false) (D.eq (1439 : Int)
    (1439 : Int)) false) (D.eq (1380 : Int) (1380 : Int)) false) (D.eq (8 : Int) (8 : Int)) false) (D.eq (0 : Int) (0 : Int)) false) (D.eq (8 : Int) (8 : Int))
    false) (D.eq (0 : Int) (0 : Int)) false) (D.eq (5 : Int) (5 : Int)) false) (D.eq (0 : Int) (0 : Int)) false) (D.eq (9 : Int) (9 : Int)) false) (D.eq (0 : Int)
    (0 : Int)) false) (D.eq (20 : Int) (20 : Int)) false) true false) (D.not false) false = true → (60 : Int) = (60 : Int) ∧ [true, true, true, true, true, false,
    false] = [true, true, true, true, true, false, false] ∧ [(5 : Int), (7 : Int)] = [(5 : Int), (7 : Int)] ∧ (7 : Int) = (7 : Int)) ∧ (D.cnd (D.cnd (D.cnd (D.cnd
    (D.cnd (D.cnd (D.cnd (D.cnd (D.cnd (D.cnd (D.cnd (D.cnd (D.cnd (D.cnd (D.cnd (D.eq (1 : Int) (1 : Int)) (D.eq (0 : Int) (0 : Int)) false) (D.eq (-1 : Int) (-1 :
    Int)) false) (D.eq (1439 : Int) (1439 : Int)) false) (D.eq (1380 : Int) (1380 : Int)) false) (D.eq (8 : Int) (8 : Int)) false) (D.eq (0 : Int) (0 : Int)) false)
    (D.eq (8 : Int) (8 : Int)) false) (D.eq (0 : Int) (0 : Int)) false) (D.eq (5 : Int) (5 : Int)) false) (D.eq (0 : Int) (0 : Int)) false) (D.eq (9 : Int) (9 :
    Int)) false) (D.eq (0 : Int) (0 : Int)) false) (D.eq (20 : Int) (20 : Int)) false) true false) (D.not false) false = true → D.cnd (D.cnd (D.cnd (D.cnd (D.cnd
    (D.cnd (D.cnd (D.cnd (D.cnd (D.cnd (D.cnd (D.cnd (D.cnd (D.cnd (D.cnd (D.eq (1 : Int) (1 : Int)) (D.eq (0 : Int) (0 : Int)) false) (D.eq (-1 : Int) (-1 : Int))
    false) (D.eq (1439 : Int) (1439 : Int)) false) (D.eq (1380 : Int) (1380 : Int)) false) (D.eq (8 : Int) (8 : Int)) false) (D.eq (0 : Int) (0 : Int)) false) (D.eq
    (8 : Int) (8 : Int)) false) (D.eq (0 : Int) (0 : Int)) false) (D.eq (5 : Int) (5 : Int)) false) (D.eq (0 : Int) (0 : Int)) false) (D.eq (9 : Int) (9 : Int))
    false) (D.eq (0 : Int) (0 : Int)) false) (D.eq (20 : Int) (20 : Int)) false) true false) (D.not false) false = true → D.cnd (D.cnd (D.cnd (D.cnd (D.cnd (D.cnd
    (D.cnd (D.cnd (D.cnd (D.cnd (D.cnd (D.cnd (D.cnd (D.cnd (D.cnd (D.eq (1 : Int) (1 : Int)) (D.eq (0 : Int) (0 : Int)) false) (D.eq (-1 : Int) (-1 : Int)) false)
    (D.eq (1439 : Int) (1439 : Int)) false) (D.eq (1380 : Int) (1380 : Int)) false) (D.eq (8 : Int) (8 : Int)) false) (D.eq (0 : Int) (0 : Int)) false) (D.eq (8 :
    Int) (8 : Int)) false) (D.eq (0 : Int) (0 : Int)) false) (D.eq (5 : Int) (5 : Int)) false) (D.eq (0 : Int) (0 : Int)) false) (D.eq (9 : Int) (9 : Int)) false)
    (D.eq (0 : Int) (0 : Int)) false) (D.eq (20 : Int) (20 : Int)) false) true false) (D.not false) false = true) ∧ (D.and true (D.cnd (D.cnd (D.cnd (D.cnd (D.cnd
    (D.cnd (D.cnd (D.cnd (D.cnd (D.cnd (D.cnd (D.cnd (D.cnd (D.cnd (D.cnd (D.eq (1 : Int) (1 : Int)) (D.eq (0 : Int) (0 : Int)) false) (D.eq (-1 : Int) (-1 : Int))
    false) (D.eq (1439 : Int) (1439 : Int)) false) (D.eq (1380 : Int) (1380 : Int)) false) (D.eq (8 : Int) (8 : Int)) false) (D.eq (0 : Int) (0 : Int)) false) (D.eq
    (8 : Int) (8 : Int)) false) (D.eq (0 : Int) (0 : Int)) false) (D.eq (5 : Int) (5 : Int)) false) (D.eq (0 : Int) (0 : Int)) false) (D.eq (9 : Int) (9 : Int))
    false) (D.eq (0 : Int) (0 : Int)) false) (D.eq (20 : Int) (20 : Int)) false) true false) (D.not false) false) = true → D.cnd (D.cnd (D.cnd (D.cnd (D.cnd (D.cnd
    (D.cnd (D.cnd (D.cnd (D.cnd (D.cnd (D.cnd (D.cnd (D.cnd (D.cnd (D.eq (1 : Int) (1 : Int)) (D.eq (0 : Int) (0 : Int)) false) (D.eq (-1 : Int) (-1 : Int)) false)
    (D.eq (1439 : Int) (1439 : Int)) false) (D.eq (1380 : Int) (1380 : Int)) false) (D.eq (8 : Int) (8 : Int)) false) (D.eq (0 : Int) (0 : Int)) false) (D.eq (8 :
    Int) (8 : Int)) false) (D.eq (0 : Int) (0 : Int)) false) (D.eq (5 : Int) (5 : Int)) false) (D.eq (0 : Int) (0 : Int)) false) (D.eq (9 : Int) (9 : Int)) false)
    (D.eq (0 : Int) (0 : Int)) false) (D.eq (20 : Int) (20 : Int)) false) true false) (D.not false) false = true) ∧ (D.cnd (D.cnd (D.cnd (D.cnd (D.cnd (D.cnd (D.cnd
    (D.cnd (D.cnd (D.cnd (D.cnd (D.cnd (D.cnd (D.cnd (D.cnd (D.cnd (D.eq (1 : Int) (1 : Int)) (D.eq (0 : Int) (0 : Int)) false) (D.eq (-1 : Int) (-1 : Int)) false)
    (D.eq (1439 : Int) (1439 : Int)) false) (D.eq (1380 : Int) (1380 : Int)) false) (D.eq (8 : Int) (8 : Int)) false) (D.eq (0 : Int) (0 : Int)) false) (D.eq (8 :
    Int) (8 : Int)) false) (D.eq (0 : Int) (0 : Int)) false) (D.eq (5 : Int) (5 : Int)) false) (D.eq (0 : Int) (0 : Int)) false) (D.eq (9 : Int) (9 : Int)) false)
    (D.eq (0 : Int) (0 : Int)) false) (D.eq (20 : Int) (20 : Int)) false) true false) (D.not false) false) (D.not false) false = true → 1 = 1) ∧ (D.cnd (D.cnd
    (D.cnd (D.cnd (D.cnd (D.cnd (D.cnd (D.cnd (D.cnd (D.cnd (D.cnd (D.cnd (D.cnd (D.cnd (D.cnd (D.cnd (D.eq (1 : Int) (1 : Int)) (D.eq (0 : Int) (0 : Int)) false)
    (D.eq (-1 : Int) (-1 : Int)) false) (D.eq (1439 : Int) (1439 : Int)) false) (D.eq (1380 : Int) (1380 : Int)) false) (D.eq (8 : Int) (8 : Int)) false) (D.eq (0 :
    Int) (0 : Int)) false) (D.eq (8 : Int) (8 : Int)) false) (D.eq (0 : Int) (0 : Int)) false) (D.eq (5 : Int) (5 : Int)) false) (D.eq (0 : Int) (0 : Int)) false)
    (D.eq (9 : Int) (9 : Int)) false) (D.eq (0 : Int) (0 : Int)) false) (D.eq (20 : Int) (20 : Int)) false) true false) (D.not false) false) (D.not false) false =
    true → 0 = 0) ∧ (D.cnd (D.cnd (D.cnd (D.cnd (D.cnd (D.cnd (D.cnd (D.cnd (D.cnd (D.cnd (D.cnd (D.cnd (D.cnd (D.cnd (D.cnd (D.cnd (D.eq (1 : Int) (1 : Int)) (D.eq
    (0 : Int) (0 : Int)) false) (D.eq (-1 : Int) (-1 : Int)) false) (D.eq (1439 : Int) (1439 : Int)) false) (D.eq (1380 : Int) (1380 : Int)) false) (D.eq (8 : Int)
    (8 : Int)) false) (D.eq (0 : Int) (0 : Int)) false) (D.eq (8 : Int) (8 : Int)) false) (D.eq (0 : Int) (0 : Int)) false) (D.eq (5 : Int) (5 : Int)) false) (D.eq
    (0 : Int) (0 : Int)) false) (D.eq (9 : Int) (9 : Int)) false) (D.eq (0 : Int) (0 : Int)) false) (D.eq (20 : Int) (20 : Int)) false) true false) (D.not false)
    false) (D.not false) false = true → D.cnd (D.cnd (D.cnd (D.cnd (D.cnd (D.cnd (D.cnd (D.cnd (D.cnd (D.cnd (D.cnd (D.cnd (D.cnd (D.cnd (D.cnd (D.cnd (D.eq (1 :
    Int) (1 : Int)) (D.eq (0 : Int) (0 : Int)) false) (D.eq (-1 : Int) (-1 : Int)) false) (D.eq (1439 : Int) (1439 : Int)) false) (D.eq (1380 : Int) (1380 : Int))
    false) (D.eq (8 : Int) (8 : Int)) false) (D.eq (0 : Int) (0 : Int)) false) (D.eq (8 : Int) (8 : Int)) false) (D.eq (0 : Int) (0 : Int)) false) (D.eq (5 : Int)
    (5 : Int)) false) (D.eq (0 : Int) (0 : Int)) false) (D.eq (9 : Int) (9 : Int)) false) (D.eq (0 : Int) (0 : Int)) false) (D.eq (20 : Int) (20 : Int)) false) true
    false) (D.not false) false) (D.not false) false = true → D.cnd (D.cnd (D.cnd (D.cnd (D.cnd (D.cnd (D.cnd (D.cnd (D.cnd (D.cnd (D.cnd (D.cnd (D.cnd (D.cnd (D.cnd
    (D.cnd (D.eq (1 : Int) (1 : Int)) (D.eq (0 : Int) (0 : Int)) false) (D.eq (-1 : Int) (-1 : Int)) false) (D.eq (1439 : Int) (1439 : Int)) false) (D.eq (1380 :
    Int) (1380 : Int)) false) (D.eq (8 : Int) (8 : Int)) false) (D.eq (0 : Int) (0 : Int)) false) (D.eq (8 : Int) (8 : Int)) false) (D.eq (0 : Int) (0 : Int))
    false) (D.eq (5 : Int) (5 : Int)) false) (D.eq (0 : Int) (0 : Int)) false) (D.eq (9 : Int) (9 : Int)) false) (D.eq (0 : Int) (0 : Int)) false) (D.eq (20 : Int)
    (20 : Int)) false) true false) (D.not false) false) (D.not false) false = true) ∧ (D.cnd (D.cnd (D.cnd (D.cnd (D.cnd (D.cnd (D.cnd (D.cnd (D.cnd (D.cnd (D.cnd
    (D.cnd (D.cnd (D.cnd (D.cnd (D.cnd (D.eq (1 : Int) (1 : Int)) (D.eq (0 : Int) (0 : Int)) false) (D.eq (-1 : Int) (-1 : Int)) false) (D.eq (1439 : Int) (1439 :
    Int)) false) (D.eq (1380 : Int) (1380 : Int)) false) (D.eq (8 : Int) (8 : Int)) false) (D.eq (0 : Int) (0 : Int)) false) (D.eq (8 : Int) (8 : Int)) false) (D.eq
    (0 : Int) (0 : Int)) false) (D.eq (5 : Int) (5 : Int)) false) (D.eq (0 : Int) (0 : Int)) false) (D.eq (9 : Int) (9 : Int)) false) (D.eq (0 : Int) (0 : Int))
    false) (D.eq (20 : Int) (20 : Int)) false) true false) (D.not false) false) (D.not false) false = true → (60 : Int) = (60 : Int) ∧ [true, true, true, true,
    true, false, false] = [true, true, true, true, true, false, false] ∧ [(5 : Int), (7 : Int)] = [(5 : Int), (7 : Int)] ∧ (-3 : Int) = (-3 : Int)) ∧ (D.and true
    (D.cnd (D.cnd (D.cnd (D.cnd (D.cnd (D.cnd (D.cnd (D.cnd (D.cnd (D.cnd (D.cnd (D.cnd (D.cnd (D.cnd (D.cnd (D.cnd (D.eq (1 : Int) (1 : Int)) (D.eq (0 : Int) (0 :
    Int)) false) (D.eq (-1 : Int) (-1 : Int)) false) (D.eq (1439 : Int) (1439 : Int)) false) (D.eq (1380 : Int) (1380 : Int)) false) (D.eq (8 : Int) (8 : Int))
    false) (D.eq (0 : Int) (0 : Int)) false) (D.eq (8 : Int) (8 : Int)) false) (D.eq (0 : Int) (0 : Int)) false) (D.eq (5 : Int) (5 : Int)) false) (D.eq (0 : Int)
    (0 : Int)) false) (D.eq (9 : Int) (9 : Int)) false) (D.eq (0 : Int) (0 : Int)) false) (D.eq (20 : Int) (20 : Int)) false) true false) (D.not false) false)
    (D.not false) false) = true → D.cnd (D.cnd (D.cnd (D.cnd (D.cnd (D.cnd (D.cnd (D.cnd (D.cnd (D.cnd (D.cnd (D.cnd (D.cnd (D.cnd (D.cnd (D.cnd (D.eq (1 : Int) (1
    : Int)) (D.eq (0 : Int) (0 : Int)) false) (D.eq (-1 : Int) (-1 : Int)) false) (D.eq (1439 : Int) (1439 : Int)) false) (D.eq (1380 : Int) (1380 : Int)) false)
    (D.eq (8 : Int) (8 : Int)) false) (D.eq (0 : Int) (0 : Int)) false) (D.eq (8 : Int) (8 : Int)) false) (D.eq (0 : Int) (0 : Int)) false) (D.eq (5 : Int) (5 :
    Int)) false) (D.eq (0 : Int) (0 : Int)) false) (D.eq (9 : Int) (9 : Int)) false) (D.eq (0 : Int) (0 : Int)) false) (D.eq (20 : Int) (20 : Int)) false) true
    false) (D.not false) false) (D.not false) false = true) ∧ (D.cnd (D.cnd (D.cnd (D.cnd (D.cnd (D.cnd (D.cnd (D.cnd (D.cnd (D.cnd (D.cnd (D.cnd (D.cnd (D.cnd
    (D.cnd (D.cnd (D.cnd (D.eq (1 : Int) (1 : Int)) (D.eq (0 : Int) (0 : Int)) false) (D.eq (-1 : Int) (-1 : Int)) false) (D.eq (1439 : Int) (1439 : Int)) false)
    (D.eq (1380 : Int) (1380 : Int)) false) (D.eq (8 : Int) (8 : Int)) false) (D.eq (0 : Int) (0 : Int)) false) (D.eq (8 : Int) (8 : Int)) false) (D.eq (0 : Int) (0
    : Int)) false) (D.eq (5 : Int) (5 : Int)) false) (D.eq (0 : Int) (0 : Int)) false) (D.eq (9 : Int) (9 : Int)) false) (D.eq (0 : Int) (0 : Int)) false) (D.eq (20
    : Int) (20 : Int)) false) true false) (D.not false) false) (D.not false) false) true false = true → 1 = 1) ∧ (D.cnd (D.cnd (D.cnd (D.cnd (D.cnd (D.cnd (D.cnd
    (D.cnd (D.cnd (D.cnd (D.cnd (D.cnd (D.cnd (D.cnd (D.cnd (D.cnd (D.cnd (D.eq (1 : Int) (1 : Int)) (D.eq (0 : Int) (0 : Int)) false) (D.eq (-1 : Int) (-1 : Int))
    false) (D.eq (1439 : Int) (1439 : Int)) false) (D.eq (1380 : Int) (1380 : Int)) false) (D.eq (8 : Int) (8 : Int)) false) (D.eq (0 : Int) (0 : Int)) false) (D.eq
    (8 : Int) (8 : Int)) false) (D.eq (0 : Int) (0 : Int)) false) (D.eq (5 : Int) (5 : Int)) false) (D.eq (0 : Int) (0 : Int)) false) (D.eq (9 : Int) (9 : Int))
    false) (D.eq (0 : Int) (0 : Int)) false) (D.eq (20 : Int) (20 : Int)) false) true false) (D.not false) false) (D.not false) false) true false = true → 0 = 0) ∧
    (D.cnd (D.cnd (D.cnd (D.cnd (D.cnd (D.cnd (D.cnd (D.cnd (D.cnd (D.cnd (D.cnd (D.cnd (D.cnd (D.cnd (D.cnd (D.cnd (D.cnd (D.eq (1 : Int) (1 : Int)) (D.eq (0 :
    Int) (0 : Int)) false) (D.eq (-1 : Int) (-1 : Int)) false) (D.eq (1439 : Int) (1439 : Int)) false) (D.eq (1380 : Int) (1380 : Int)) false) (D.eq (8 : Int) (8 :
    Int)) false) (D.eq (0 : Int) (0 : Int)) false) (D.eq (8 : Int) (8 : Int)) false) (D.eq (0 : Int) (0 : Int)) false) (D.eq (5 : Int) (5 : Int)) false) (D.eq (0 :
    Int) (0 : Int)) false) (D.eq (9 : Int) (9 : Int)) false) (D.eq (0 : Int) (0 : Int)) false) (D.eq (20 : Int) (20 : Int)) false) true false) (D.not false) false)
    (D.not false) false) true false = true → D.cnd (D.cnd (D.cnd (D.cnd (D.cnd (D.cnd (D.cnd (D.cnd (D.cnd (D.cnd (D.cnd (D.cnd (D.cnd (D.cnd (D.cnd (D.cnd (D.cnd
    (D.eq (1 : Int) (1 : Int)) (D.eq (0 : Int) (0 : Int)) false) (D.eq (-1 : Int) (-1 : Int)) false) (D.eq (1439 : Int) (1439 : Int)) false) (D.eq (1380 : Int)
    (1380 : Int)) false) (D.eq (8 : Int) (8 : Int)) false) (D.eq (0 : Int) (0 : Int)) false) (D.eq (8 : Int) (8 : Int)) false) (D.eq (0 : Int) (0 : Int)) false)
    (D.eq (5 : Int) (5 : Int)) false) (D.eq (0 : Int) (0 : Int)) false) (D.eq (9 : Int) (9 : Int)) false) (D.eq (0 : Int) (0 : Int)) false) (D.eq (20 : Int) (20 :
    Int)) false) true false) (D.not false) false) (D.not false) false) true false = true → D.cnd (D.cnd (D.cnd (D.cnd (D.cnd (D.cnd (D.cnd (D.cnd (D.cnd (D.cnd
    (D.cnd (D.cnd (D.cnd (D.cnd (D.cnd (D.cnd (D.cnd (D.eq (1 : Int) (1 : Int)) (D.eq (0 : Int) (0 : Int)) false) (D.eq (-1 : Int) (-1 : Int)) false) (D.eq (1439 :
    Int) (1439 : Int)) false) (D.eq (1380 : Int) (1380 : Int)) false) (D.eq (8 : Int) (8 : Int)) false) (D.eq (0 : Int) (0 : Int)) false) (D.eq (8 : Int) (8 : Int))
    false) (D.eq (0 : Int) (0 : Int)) false) (D.eq (5 : Int) (5 : Int)) false) (D.eq (0 : Int) (0 : Int)) false) (D.eq (9 : Int) (9 : Int)) false) (D.eq (0 : Int)
    (0 : Int)) false) (D.eq (20 : Int) (20 : Int)) false) true false) (D.not false) false) (D.not false) false) true false = true) ∧ (D.cnd (D.cnd (D.cnd (D.cnd
    (D.cnd (D.cnd (D.cnd (D.cnd (D.cnd (D.cnd (D.cnd (D.cnd (D.cnd (D.cnd (D.cnd (D.cnd (D.cnd (D.eq (1 : Int) (1 : Int)) (D.eq (0 : Int) (0 : Int)) false) (D.eq
    (-1 : Int) (-1 : Int)) false) (D.eq (1439 : Int) (1439 : Int)) false) (D.eq (1380 : Int) (1380 : Int)) false) (D.eq (8 : Int) (8 : Int)) false) (D.eq (0 : Int)
    (0 : Int)) false) (D.eq (8 : Int) (8 : Int)) false) (D.eq (0 : Int) (0 : Int)) false) (D.eq (5 : Int) (5 : Int)) false) (D.eq (0 : Int) (0 : Int)) false) (D.eq
    (9 : Int) (9 : Int)) false) (D.eq (0 : Int) (0 : Int)) false) (D.eq (20 : Int) (20 : Int)) false) true false) (D.not false) false) (D.not false) false) true
    false = true → (60 : Int) = (60 : Int) ∧ [true, true, true, true, true, false, false] = [true, true, true, true, true, false, false] ∧ [(5 : Int), (7 : Int)] =
    [(5 : Int), (7 : Int)] ∧ (4 : Int) = (4 : Int) ∧ (9 : Int) = (9 : Int)) ∧ (D.cnd (D.cnd (D.cnd (D.cnd (D.cnd (D.cnd (D.cnd (D.cnd (D.cnd (D.cnd (D.cnd (D.cnd
    (D.cnd (D.cnd (D.cnd (D.cnd (D.cnd (D.eq (1 : Int) (1 : Int)) (D.eq (0 : Int) (0 : Int)) false) (D.eq (-1 : Int) (-1 : Int)) false) (D.eq (1439 : Int) (1439 :
    Int)) false) (D.eq (1380 : Int) (1380 : Int)) false) (D.eq (8 : Int) (8 : Int)) false) (D.eq (0 : Int) (0 : Int)) false) (D.eq (8 : Int) (8 : Int)) false) (D.eq
    (0 : Int) (0 : Int)) false) (D.eq (5 : Int) (5 : Int)) false) (D.eq (0 : Int) (0 : Int)) false) (D.eq (9 : Int) (9 : Int)) false) (D.eq (0 : Int) (0 : Int))
    false) (D.eq (20 : Int) (20 : Int)) false) true false) (D.not false) false) (D.not false) false) true false = true → D.cnd (D.cnd (D.cnd (D.cnd (D.cnd (D.cnd
    (D.cnd (D.cnd (D.cnd (D.cnd (D.cnd (D.cnd (D.cnd (D.cnd (D.cnd (D.cnd (D.cnd (D.eq (1 : Int) (1 : Int)) (D.eq (0 : Int) (0 : Int)) false) (D.eq (-1 : Int) (-1 :
    Int)) false) (D.eq (1439 : Int) (1439 : Int)) false) (D.eq (1380 : Int) (1380 : Int)) false) (D.eq (8 : Int) (8 : Int)) false) (D.eq (0 : Int) (0 : Int)) false)
    (D.eq (8 : Int) (8 : Int)) false) (D.eq (0 : Int) (0 : Int)) false) (D.eq (5 : Int) (5 : Int)) false) (D.eq (0 : Int) (0 : Int)) false) (D.eq (9 : Int) (9 :
    Int)) false) (D.eq (0 : Int) (0 : Int)) false) (D.eq (20 : Int) (20 : Int)) false) true false) (D.not false) false) (D.not false) false) true false = true →
    D.cnd (D.cnd (D.cnd (D.cnd (D.cnd (D.cnd (D.cnd (D.cnd (D.cnd (D.cnd (D.cnd (D.cnd (D.cnd (D.cnd (D.cnd (D.cnd (D.cnd (D.eq (1 : Int) (1 : Int)) (D.eq (0 : Int)
    (0 : Int)) false) (D.eq (-1 : Int) (-1 : Int)) false) (D.eq (1439 : Int) (1439 : Int)) false) (D.eq (1380 : Int) (1380 : Int)) false) (D.eq (8 : Int) (8 : Int))
    false) (D.eq (0 : Int) (0 : Int)) false) (D.eq (8 : Int) (8 : Int)) false) (D.eq (0 : Int) (0 : Int)) false) (D.eq (5 : Int) (5 : Int)) false) (D.eq (0 : Int)
    (0 : Int)) false) (D.eq (9 : Int) (9 : Int)) false) (D.eq (0 : Int) (0 : Int)) false) (D.eq (20 : Int) (20 : Int)) false) true false) (D.not false) false)
    (D.not false) false) true false = true) ∧ (D.and true (D.cnd (D.cnd (D.cnd (D.cnd (D.cnd (D.cnd (D.cnd (D.cnd (D.cnd (D.cnd (D.cnd (D.cnd (D.cnd (D.cnd (D.cnd
    (D.cnd (D.cnd (D.eq (1 : Int) (1 : Int)) (D.eq (0 : Int) (0 : Int)) false) (D.eq (-1 : Int) (-1 : Int)) false) (D.eq (1439 : Int) (1439 : Int)) false) (D.eq
    (1380 : Int) (1380 : Int)) false) (D.eq (8 : Int) (8 : Int)) false) (D.eq (0 : Int) (0 : Int)) false) (D.eq (8 : Int) (8 : Int)) false) (D.eq (0 : Int) (0 :
    Int)) false) (D.eq (5 : Int) (5 : Int)) false) (D.eq (0 : Int) (0 : Int)) false) (D.eq (9 : Int) (9 : Int)) false) (D.eq (0 : Int) (0 : Int)) false) (D.eq (20 :
    Int) (20 : Int)) false) true false) (D.not false) false) (D.not false) false) true false) = true → D.cnd (D.cnd (D.cnd (D.cnd (D.cnd (D.cnd (D.cnd (D.cnd (D.cnd
    (D.cnd (D.cnd (D.cnd (D.cnd (D.cnd (D.cnd (D.cnd (D.cnd (D.eq (1 : Int) (1 : Int)) (D.eq (0 : Int) (0 : Int)) false) (D.eq (-1 : Int) (-1 : Int)) false) (D.eq
    (1439 : Int) (1439 : Int)) false) (D.eq (1380 : Int) (1380 : Int)) false) (D.eq (8 : Int) (8 : Int)) false) (D.eq (0 : Int) (0 : Int)) false) (D.eq (8 : Int) (8
    : Int)) false) (D.eq (0 : Int) (0 : Int)) false) (D.eq (5 : Int) (5 : Int)) false) (D.eq (0 : Int) (0 : Int)) false) (D.eq (9 : Int) (9 : Int)) false) (D.eq (0
    : Int) (0 : Int)) false) (D.eq (20 : Int) (20 : Int)) false) true false) (D.not false) false) (D.not false) false) true false = true) ∧ (D.cnd (D.cnd (D.cnd
    (D.cnd (D.cnd (D.cnd (D.cnd (D.cnd (D.cnd (D.cnd (D.cnd (D.cnd (D.cnd (D.cnd (D.cnd (D.cnd (D.cnd (D.cnd (D.eq (1 : Int) (1 : Int)) (D.eq (0 : Int) (0 : Int))
    false) (D.eq (-1 : Int) (-1 : Int)) false) (D.eq (1439 : Int) (1439 : Int)) false) (D.eq (1380 : Int) (1380 : Int)) false) (D.eq (8 : Int) (8 : Int)) false)
    (D.eq (0 : Int) (0 : Int)) false) (D.eq (8 : Int) (8 : Int)) false) (D.eq (0 : Int) (0 : Int)) false) (D.eq (5 : Int) (5 : Int)) false) (D.eq (0 : Int) (0 :
    Int)) false) (D.eq (9 : Int) (9 : Int)) false) (D.eq (0 : Int) (0 : Int)) false) (D.eq (20 : Int) (20 : Int)) false) true false) (D.not false) false) (D.not
    false) false) true false) (D.eq (2 : Int) (2 : Int)) false = true → 1 = 1) ∧ (D.cnd (D.cnd (D.cnd (D.cnd (D.cnd (D.cnd (D.cnd (D.cnd (D.cnd (D.cnd (D.cnd (D.cnd
    (D.cnd (D.cnd (D.cnd (D.cnd (D.cnd (D.cnd (D.eq (1 : Int) (1 : Int)) (D.eq (0 : Int) (0 : Int)) false) (D.eq (-1 : Int) (-1 : Int)) false) (D.eq (1439 : Int)
    (1439 : Int)) false) (D.eq (1380 : Int) (1380 : Int)) false) (D.eq (8 : Int) (8 : Int)) false) (D.eq (0 : Int) (0 : Int)) false) (D.eq (8 : Int) (8 : Int))
    false) (D.eq (0 : Int) (0 : Int)) false) (D.eq (5 : Int) (5 : Int)) false) (D.eq (0 : Int) (0 : Int)) false) (D.eq (9 : Int) (9 : Int)) false) (D.eq (0 : Int)
    (0 : Int)) false) (D.eq (20 : Int) (20 : Int)) false) true false) (D.not false) false) (D.not false) false) true false) (D.eq (2 : Int) (2 : Int)) false = true
    → 0 = 0) ∧ (D.cnd (D.cnd (D.cnd (D.cnd (D.cnd (D.cnd (D.cnd (D.cnd (D.cnd (D.cnd (D.cnd (D.cnd (D.cnd (D.cnd (D.cnd (D.cnd (D.cnd (D.cnd (D.eq (1 : Int) (1 :
    Int)) (D.eq (0 : Int) (0 : Int)) false) (D.eq (-1 : Int) (-1 : Int)) false) (D.eq (1439 : Int) (1439 : Int)) false) (D.eq (1380 : Int) (1380 : Int)) false)
    (D.eq (8 : Int) (8 : Int)) false) (D.eq (0 : Int) (0 : Int)) false) (D.eq (8 : Int) (8 : Int)) false) (D.eq (0 : Int) (0 : Int)) false) (D.eq (5 : Int) (5 :
    Int)) false) (D.eq (0 : Int) (0 : Int)) false) (D.eq (9 : Int) (9 : Int)) false) (D.eq (0 : Int) (0 : Int)) false) (D.eq (20 : Int) (20 : Int)) false) true
    false) (D.not false) false) (D.not false) false) true false) (D.eq (2 : Int) (2 : Int)) false = true → D.cnd (D.cnd (D.cnd (D.cnd (D.cnd (D.cnd (D.cnd (D.cnd
    (D.cnd (D.cnd (D.cnd (D.cnd (D.cnd (D.cnd (D.cnd (D.cnd (D.cnd (D.cnd (D.eq (1 : Int) (1 : Int)) (D.eq (0 : Int) (0 : Int)) false) (D.eq (-1 : Int) (-1 : Int))
    false) (D.eq (1439 : Int) (1439 : Int)) false) (D.eq (1380 : Int) (1380 : Int)) false) (D.eq (8 : Int) (8 : Int)) false) (D.eq (0 : Int) (0 : Int)) false) (D.eq
    (8 : Int) (8 : Int)) false) (D.eq (0 : Int) (0 : Int)) false) (D.eq (5 : Int) (5 : Int)) false) (D.eq (0 : Int) (0 : Int)) false) (D.eq (9 : Int) (9 : Int))
    false) (D.eq (0 : Int) (0 : Int)) false) (D.eq (20 : Int) (20 : Int)) false) true false) (D.not false) false) (D.not false) false) true false) (D.eq (2 : Int)
    (2 : Int)) false = true → D.cnd (D.cnd (D.cnd (D.cnd (D.cnd (D.cnd (D.cnd (D.cnd (D.cnd (D.cnd (D.cnd (D.cnd (D.cnd (D.cnd (D.cnd (D.cnd (D.cnd (D.cnd (D.eq (1
    : Int) (1 : Int)) (D.eq (0 : Int) (0 : Int)) false) (D.eq (-1 : Int) (-1 : Int)) false) (D.eq (1439 : Int) (1439 : Int)) false) (D.eq (1380 : Int) (1380 : Int))
    false) (D.eq (8 : Int) (8 : Int)) false) (D.eq (0 : Int) (0 : Int)) false) (D.eq (8 : Int) (8 : Int)) false) (D.eq (0 : Int) (0 : Int)) false) (D.eq (5 : Int)
    (5 : Int)) false) (D.eq (0 : Int) (0 : Int)) false) (D.eq (9 : Int) (9 : Int)) false) (D.eq (0 : Int) (0 : Int)) false) (D.eq (20 : Int) (20 : Int)) false) true
    false) (D.not false) false) (D.not false) false) true false) (D.eq (2 : Int) (2 : Int)) false = true) ∧ (D.cnd (D.cnd (D.cnd (D.cnd (D.cnd (D.cnd (D.cnd (D.cnd
    (D.cnd (D.cnd (D.cnd (D.cnd (D.cnd (D.cnd (D.cnd (D.cnd (D.cnd (D.cnd (D.eq (1 : Int) (1 : Int)) (D.eq (0 : Int) (0 : Int)) false) (D.eq (-1 : Int) (-1 : Int))
    false) (D.eq (1439 : Int) (1439 : Int)) false) (D.eq (1380 : Int) (1380 : Int)) false) (D.eq (8 : Int) (8 : Int)) false) (D.eq (0 : Int) (0 : Int)) false) (D.eq
    (8 : Int) (8 : Int)) false) (D.eq (0 : Int) (0 : Int)) false) (D.eq (5 : Int) (5 : Int)) false) (D.eq (0 : Int) (0 : Int)) false) (D.eq (9 : Int) (9 : Int))
    false) (D.eq (0 : Int) (0 : Int)) false) (D.eq (20 : Int) (20 : Int)) false) true false) (D.not false) false) (D.not false) false) true false) (D.eq (2 : Int)
    (2 : Int)) false = true → (60 : Int) = (60 : Int) ∧ [true, true, true, true, true, false, false] = [true, true, true, true, true, false, false] ∧ [(5 : Int), (7
    : Int)] = [(5 : Int), (7 : Int)] ∧ (0 : Int) = (0 : Int) ∧ (2001 : Int) = (2001 : Int)) ∧ (D.cnd (D.cnd (D.cnd (D.cnd (D.cnd (D.cnd (D.cnd (D.cnd (D.cnd (D.cnd
    (D.cnd (D.cnd (D.cnd (D.cnd (D.cnd (D.cnd (D.cnd (D.cnd (D.eq (1 : Int) (1 : Int)) (D.eq (0 : Int) (0 : Int)) false) (D.eq (-1 : Int) (-1 : Int)) false) (D.eq
    (1439 : Int) (1439 : Int)) false) (D.eq (1380 : Int) (1380 : Int)) false) (D.eq (8 : Int) (8 : Int)) false) (D.eq (0 : Int) (0 : Int)) false) (D.eq (8 : Int) (8
    : Int)) false) (D.eq (0 : Int) (0 : Int)) false) (D.eq (5 : Int) (5 : Int)) false) (D.eq (0 : Int) (0 : Int)) false) (D.eq (9 : Int) (9 : Int)) false) (D.eq (0
    : Int) (0 : Int)) false) (D.eq (20 : Int) (20 : Int)) false) true false) (D.not false) false) (D.not false) false) true false) (D.eq (2 : Int) (2 : Int)) false
    = true → D.cnd (D.cnd (D.cnd (D.cnd (D.cnd (D.cnd (D.cnd (D.cnd (D.cnd (D.cnd (D.cnd (D.cnd (D.cnd (D.cnd (D.cnd (D.cnd (D.cnd (D.cnd (D.eq (1 : Int) (1 : Int))
    (D.eq (0 : Int) (0 : Int)) false) (D.eq (-1 : Int) (-1 : Int)) false) (D.eq (1439 : Int) (1439 : Int)) false) (D.eq (1380 : Int) (1380 : Int)) false) (D.eq (8 :
    Int) (8 : Int)) false) (D.eq (0 : Int) (0 : Int)) false) (D.eq (8 : Int) (8 : Int)) false) (D.eq (0 : Int) (0 : Int)) false) (D.eq (5 : Int) (5 : Int)) false)
    (D.eq (0 : Int) (0 : Int)) false) (D.eq (9 : Int) (9 : Int)) false) (D.eq (0 : Int) (0 : Int)) false) (D.eq (20 : Int) (20 : Int)) false) true false) (D.not
    false) false) (D.not false) false) true false) (D.eq (2 : Int) (2 : Int)) false = true → D.cnd (D.cnd (D.cnd (D.cnd (D.cnd (D.cnd (D.cnd (D.cnd (D.cnd (D.cnd
    (D.cnd (D.cnd (D.cnd (D.cnd (D.cnd (D.cnd (D.cnd (D.cnd (D.eq (1 : Int) (1 : Int)) (D.eq (0 : Int) (0 : Int)) false) (D.eq (-1 : Int) (-1 : Int)) false) (D.eq
    (1439 : Int) (1439 : Int)) false) (D.eq (1380 : Int) (1380 : Int)) false) (D.eq (8 : Int) (8 : Int)) false) (D.eq (0 : Int) (0 : Int)) false) (D.eq (8 : Int) (8
    : Int)) false) (D.eq (0 : Int) (0 : Int)) false) (D.eq (5 : Int) (5 : Int)) false) (D.eq (0 : Int) (0 : Int)) false) (D.eq (9 : Int) (9 : Int)) false) (D.eq (0
    : Int) (0 : Int)) false) (D.eq (20 : Int) (20 : Int)) false) true false) (D.not false) false) (D.not false) false) true false) (D.eq (2 : Int) (2 : Int)) false
    = true) ∧ (D.and true (D.cnd (D.cnd (D.cnd (D.cnd (D.cnd (D.cnd (D.cnd (D.cnd (D.cnd (D.cnd (D.cnd (D.cnd (D.cnd (D.cnd (D.cnd (D.cnd (D.cnd (D.cnd (D.eq (1 :
    Int) (1 : Int)) (D.eq (0 : Int) (0 : Int)) false) (D.eq (-1 : Int) (-1 : Int)) false) (D.eq (1439 : Int) (1439 : Int)) false) (D.eq (1380 : Int) (1380 : Int))
    false) (D.eq (8 : Int) (8 : Int)) false) (D.eq (0 : Int) (0 : Int)) false) (D.eq (8 : Int) (8 : Int)) false) (D.eq (0 : Int) (0 : Int)) false) (D.eq (5 : Int)
    (5 : Int)) false) (D.eq (0 : Int) (0 : Int)) false) (D.eq (9 : Int) (9 : Int)) false) (D.eq (0 : Int) (0 : Int)) false) (D.eq (20 : Int) (20 : Int)) false) true
    false) (D.not false) false) (D.not false) false) true false) (D.eq (2 : Int) (2 : Int)) false) = true → D.cnd (D.cnd (D.cnd (D.cnd (D.cnd (D.cnd (D.cnd (D.cnd
    (D.cnd (D.cnd (D.cnd (D.cnd (D.cnd (D.cnd (D.cnd (D.cnd (D.cnd (D.cnd (D.eq (1 : Int) (1 : Int)) (D.eq (0 : Int) (0 : Int)) false) (D.eq (-1 : Int) (-1 : Int))
    false) (D.eq (1439 : Int) (1439 : Int)) false) (D.eq (1380 : Int) (1380 : Int)) false) (D.eq (8 : Int) (8 : Int)) false) (D.eq (0 : Int) (0 : Int)) false) (D.eq
    (8 : Int) (8 : Int)) false) (D.eq (0 : Int) (0 : Int)) false) (D.eq (5 : Int) (5 : Int)) false) (D.eq (0 : Int) (0 : Int)) false) (D.eq (9 : Int) (9 : Int))
    false) (D.eq (0 : Int) (0 : Int)) false) (D.eq (20 : Int) (20 : Int)) false) true false) (D.not false) false) (D.not false) false) true false) (D.eq (2 : Int)
    (2 : Int)) false = true) ∧ (D.cnd (D.cnd (D.cnd (D.cnd (D.cnd (D.cnd (D.cnd (D.cnd (D.cnd (D.cnd (D.cnd (D.cnd (D.cnd (D.cnd (D.cnd (D.cnd (D.cnd (D.cnd (D.cnd
    (D.eq (1 : Int) (1 : Int)) (D.eq (0 : Int) (0 : Int)) false) (D.eq (-1 : Int) (-1 : Int)) false) (D.eq (1439 : Int) (1439 : Int)) false) (D.eq (1380 : Int)
    (1380 : Int)) false) (D.eq (8 : Int) (8 : Int)) false) (D.eq (0 : Int) (0 : Int)) false) (D.eq (8 : Int) (8 : Int)) false) (D.eq (0 : Int) (0 : Int)) false)
    (D.eq (5 : Int) (5 : Int)) false) (D.eq (0 : Int) (0 : Int)) false) (D.eq (9 : Int) (9 : Int)) false) (D.eq (0 : Int) (0 : Int)) false) (D.eq (20 : Int) (20 :
    Int)) false) true false) (D.not false) false) (D.not false) false) true false) (D.eq (2 : Int) (2 : Int)) false) (D.eq (-1 : Int) (-1 : Int)) false = true → 1 =
    1) ∧ (D.cnd (D.cnd (D.cnd (D.cnd (D.cnd (D.cnd (D.cnd (D.cnd (D.cnd (D.cnd (D.cnd (D.cnd (D.cnd (D.cnd (D.cnd (D.cnd (D.cnd (D.cnd (D.cnd (D.eq (1 : Int) (1 :
    Int)) (D.eq (0 : Int) (0 : Int)) false) (D.eq (-1 : Int) (-1 : Int)) false) (D.eq (1439 : Int) (1439 : Int)) false) (D.eq (1380 : Int) (1380 : Int)) false)
    (D.eq (8 : Int) (8 : Int)) false) (D.eq (0 : Int) (0 : Int)) false) (D.eq (8 : Int) (8 : Int)) false) (D.eq (0 : Int) (0 : Int)) false) (D.eq (5 : Int) (5 :
    Int)) false) (D.eq (0 : Int) (0 : Int)) false) (D.eq (9 : Int) (9 : Int)) false) (D.eq (0 : Int) (0 : Int)) false) (D.eq (20 : Int) (20 : Int)) false) true
    false) (D.not false) false) (D.not false) false) true false) (D.eq (2 : Int) (2 : Int)) false) (D.eq (-1 : Int) (-1 : Int)) false = true → 0 = 0) ∧ (D.cnd
    (D.cnd (D.cnd (D.cnd (D.cnd (D.cnd (D.cnd (D.cnd (D.cnd (D.cnd (D.cnd (D.cnd (D.cnd (D.cnd (D.cnd (D.cnd (D.cnd (D.cnd (D.cnd (D.eq (1 : Int) (1 : Int)) (D.eq
    (0 : Int) (0 : Int)) false) (D.eq (-1 : Int) (-1 : Int)) false) (D.eq (1439 : Int) (1439 : Int)) false) (D.eq (1380 : Int) (1380 : Int)) false) (D.eq (8 : Int)
    (8 : Int)) false) (D.eq (0 : Int) (0 : Int)) false) (D.eq (8 : Int) (8 : Int)) false) (D.eq (0 : Int) (0 : Int)) false) (D.eq (5 : Int) (5 : Int)) false) (D.eq
    (0 : Int) (0 : Int)) false) (D.eq (9 : Int) (9 : Int)) false) (D.eq (0 : Int) (0 : Int)) false) (D.eq (20 : Int) (20 : Int)) false) true false) (D.not false)
    false) (D.not false) false) true false) (D.eq (2 : Int) (2 : Int)) false) (D.eq (-1 : Int) (-1 : Int)) false = true → D.cnd (D.cnd (D.cnd (D.cnd (D.cnd (D.cnd
    (D.cnd (D.cnd (D.cnd (D.cnd (D.cnd (D.cnd (D.cnd (D.cnd (D.cnd (D.cnd (D.cnd (D.cnd (D.cnd (D.eq (1 : Int) (1 : Int)) (D.eq (0 : Int) (0 : Int)) false) (D.eq
    (-1 : Int) (-1 : Int)) false) (D.eq (1439 : Int) (1439 : Int)) false) (D.eq (1380 : Int) (1380 : Int)) false) (D.eq (8 : Int) (8 : Int)) false) (D.eq (0 : Int)
    (0 : Int)) false) (D.eq (8 : Int) (8 : Int)) false) (D.eq (0 : Int) (0 : Int)) false) (D.eq (5 : Int) (5 : Int)) false) (D.eq (0 : Int) (0 : Int)) false) (D.eq
    (9 : Int) (9 : Int)) false) (D.eq (0 : Int) (0 : Int)) false) (D.eq (20 : Int) (20 : Int)) false) true false) (D.not false) false) (D.not false) false) true
    false) (D.eq (2 : Int) (2 : Int)) false) (D.eq (-1 : Int) (-1 : Int)) false = true → D.cnd (D.cnd (D.cnd (D.cnd (D.cnd (D.cnd (D.cnd (D.cnd (D.cnd (D.cnd (D.cnd
    (D.cnd (D.cnd (D.cnd (D.cnd (D.cnd (D.cnd (D.cnd (D.cnd (D.eq (1 : Int) (1 : Int)) (D.eq (0 : Int) (0 : Int)) false) (D.eq (-1 : Int) (-1 : Int)) false) (D.eq
    (1439 : Int) (1439 : Int)) false) (D.eq (1380 : Int) (1380 : Int)) false) (D.eq (8 : Int) (8 : Int)) false) (D.eq (0 : Int) (0 : Int)) false) (D.eq (8 : Int) (8
    : Int)) false) (D.eq (0 : Int) (0 : Int)) false) (D.eq (5 : Int) (5 : Int)) false) (D.eq (0 : Int) (0 : Int)) false) (D.eq (9 : Int) (9 : Int)) false) (D.eq (0
    : Int) (0 : Int)) false) (D.eq (20 : Int) (20 : Int)) false) true false) (D.not false) false) (D.not false) false) true false) (D.eq (2 : Int) (2 : Int)) false)
    (D.eq (-1 : Int) (-1 : Int)) false = true) ∧ (D.cnd (D.cnd (D.cnd (D.cnd (D.cnd (D.cnd (D.cnd (D.cnd (D.cnd (D.cnd (D.cnd (D.cnd (D.cnd (D.cnd (D.cnd (D.cnd
    (D.cnd (D.cnd (D.cnd (D.eq (1 : Int) (1 : Int)) (D.eq (0 : Int) (0 : Int)) false) (D.eq (-1 : Int) (-1 : Int)) false) (D.eq (1439 : Int) (1439 : Int)) false)
    (D.eq (1380 : Int) (1380 : Int)) false) (D.eq (8 : Int) (8 : Int)) false) (D.eq (0 : Int) (0 : Int)) false) (D.eq (8 : Int) (8 : Int)) false) (D.eq (0 : Int) (0
    : Int)) false) (D.eq (5 : Int) (5 : Int)) false) (D.eq (0 : Int) (0 : Int)) false) (D.eq (9 : Int) (9 : Int)) false) (D.eq (0 : Int) (0 : Int)) false) (D.eq (20
    : Int) (20 : Int)) false) true false) (D.not false) false) (D.not false) false) true false) (D.eq (2 : Int) (2 : Int)) false) (D.eq (-1 : Int) (-1 : Int)) false
    = true → (60 : Int) = (60 : Int) ∧ [true, true, true, true, true, false, false] = [true, true, true, true, true, false, false] ∧ [(5 : Int), (7 : Int)] = [(5 :
    Int), (7 : Int)]) ∧ (D.and true (D.cnd (D.cnd (D.cnd (D.cnd (D.cnd (D.cnd (D.cnd (D.cnd (D.cnd (D.cnd (D.cnd (D.cnd (D.cnd (D.cnd (D.cnd (D.cnd (D.cnd (D.cnd
    (D.cnd (D.eq (1 : Int) (1 : Int)) (D.eq (0 : Int) (0 : Int)) false) (D.eq (-1 : Int) (-1 : Int)) false) (D.eq (1439 : Int) (1439 : Int)) false) (D.eq (1380 :
    Int) (1380 : Int)) false) (D.eq (8 : Int) (8 : Int)) false) (D.eq (0 : Int) (0 : Int)) false) (D.eq (8 : Int) (8 : Int)) false) (D.eq (0 : Int) (0 : Int))
    false) (D.eq (5 : Int) (5 : Int)) false) (D.eq (0 : Int) (0 : Int)) false) (D.eq (9 : Int) (9 : Int)) false) (D.eq (0 : Int) (0 : Int)) false) (D.eq (20 : Int)
    (20 : Int)) false) true false) (D.not false) false) (D.not false) false) true false) (D.eq (2 : Int) (2 : Int)) false) (D.eq (-1 : Int) (-1 : Int)) false) =
    true → D.cnd (D.cnd (D.cnd (D.cnd (D.cnd (D.cnd (D.cnd (D.cnd (D.cnd (D.cnd (D.cnd (D.cnd (D.cnd (D.cnd (D.cnd (D.cnd (D.cnd (D.cnd (D.cnd (D.eq (1 : Int) (1 :
    Int)) (D.eq (0 : Int) (0 : Int)) false) (D.eq (-1 : Int) (-1 : Int)) false) (D.eq (1439 : Int) (1439 : Int)) false) (D.eq (1380 : Int) (1380 : Int)) false)
    (D.eq (8 : Int) (8 : Int)) false) (D.eq (0 : Int) (0 : Int)) false) (D.eq (8 : Int) (8 : Int)) false) (D.eq (0 : Int) (0 : Int)) false) (D.eq (5 : Int) (5 :
    Int)) false) (D.eq (0 : Int) (0 : Int)) false) (D.eq (9 : Int) (9 : Int)) false) (D.eq (0 : Int) (0 : Int)) false) (D.eq (20 : Int) (20 : Int)) false) true
    false) (D.not false) false) (D.not false) false) true false) (D.eq (2 : Int) (2 : Int)) false) (D.eq (-1 : Int) (-1 : Int)) false = true) ∧ (D.cnd (D.cnd (D.cnd
    (D.cnd (D.cnd (D.cnd (D.cnd (D.cnd (D.cnd (D.cnd (D.cnd (D.cnd (D.cnd (D.cnd (D.cnd (D.cnd (D.cnd (D.cnd (D.cnd (D.cnd (D.eq (1 : Int) (1 : Int)) (D.eq (0 :
    Int) (0 : Int)) false) (D.eq (-1 : Int) (-1 : Int)) false) (D.eq (1439 : Int) (1439 : Int)) false) (D.eq (1380 : Int) (1380 : Int)) false) (D.eq (8 : Int) (8 :
    Int)) false) (D.eq (0 : Int) (0 : Int)) false) (D.eq (8 : Int) (8 : Int)) false) (D.eq (0 : Int) (0 : Int)) false) (D.eq (5 : Int) (5 : Int)) false) (D.eq (0 :
    Int) (0 : Int)) false) (D.eq (9 : Int) (9 : Int)) false) (D.eq (0 : Int) (0 : Int)) false) (D.eq (20 : Int) (20 : Int)) false) true false) (D.not false) false)
    (D.not false) false) true false) (D.eq (2 : Int) (2 : Int)) false) (D.eq (-1 : Int) (-1 : Int)) false) true false = true → D.cnd (D.cnd (D.cnd (D.cnd (D.cnd
    (D.cnd (D.cnd (D.cnd (D.cnd (D.cnd (D.cnd (D.cnd (D.cnd (D.cnd (D.cnd (D.cnd (D.cnd (D.cnd (D.cnd (D.cnd (D.eq (1 : Int) (1 : Int)) (D.eq (0 : Int) (0 : Int))
    false) (D.eq (-1 : Int) (-1 : Int)) false) (D.eq (1439 : Int) (1439 : Int)) false) (D.eq (1380 : Int) (1380 : Int)) false) (D.eq (8 : Int) (8 : Int)) false)
    (D.eq (0 : Int) (0 : Int)) false) (D.eq (8 : Int) (8 : Int)) false) (D.eq (0 : Int) (0 : Int)) false) (D.eq (5 : Int) (5 : Int)) false) (D.eq (0 : Int) (0 :
    Int)) false) (D.eq (9 : Int) (9 : Int)) false) (D.eq (0 : Int) (0 : Int)) false) (D.eq (20 : Int) (20 : Int)) false) true false) (D.not false) false) (D.not
    false) false) true false) (D.eq (2 : Int) (2 : Int)) false) (D.eq (-1 : Int) (-1 : Int)) false) true false = true → D.cnd (D.cnd (D.cnd (D.cnd (D.cnd (D.cnd
    (D.cnd (D.cnd (D.cnd (D.cnd (D.cnd (D.cnd (D.cnd (D.cnd (D.cnd (D.cnd (D.cnd (D.cnd (D.cnd (D.cnd (D.eq (1 : Int) (1 : Int)) (D.eq (0 : Int) (0 : Int)) false)
    (D.eq (-1 : Int) (-1 : Int)) false) (D.eq (1439 : Int) (1439 : Int)) false) (D.eq (1380 : Int) (1380 : Int)) false) (D.eq (8 : Int) (8 : Int)) false) (D.eq (0 :
    Int) (0 : Int)) false) (D.eq (8 : Int) (8 : Int)) false) (D.eq (0 : Int) (0 : Int)) false) (D.eq (5 : Int) (5 : Int)) false) (D.eq (0 : Int) (0 : Int)) false)
    (D.eq (9 : Int) (9 : Int)) false) (D.eq (0 : Int) (0 : Int)) false) (D.eq (20 : Int) (20 : Int)) false) true false) (D.not false) false) (D.not false) false)
    true false) (D.eq (2 : Int) (2 : Int)) false) (D.eq (-1 : Int) (-1 : Int)) false) true false = true) ∧ (D.cnd (D.cnd (D.cnd (D.cnd (D.cnd (D.cnd (D.cnd (D.cnd
    (D.cnd (D.cnd (D.cnd (D.cnd (D.cnd (D.cnd (D.cnd (D.cnd (D.cnd (D.cnd (D.cnd (D.cnd (D.eq (1 : Int) (1 : Int)) (D.eq (0 : Int) (0 : Int)) false) (D.eq (-1 :
    Int) (-1 : Int)) false) (D.eq (1439 : Int) (1439 : Int)) false) (D.eq (1380 : Int) (1380 : Int)) false) (D.eq (8 : Int) (8 : Int)) false) (D.eq (0 : Int) (0 :
    Int)) false) (D.eq (8 : Int) (8 : Int)) false) (D.eq (0 : Int) (0 : Int)) false) (D.eq (5 : Int) (5 : Int)) false) (D.eq (0 : Int) (0 : Int)) false) (D.eq (9 :
    Int) (9 : Int)) false) (D.eq (0 : Int) (0 : Int)) false) (D.eq (20 : Int) (20 : Int)) false) true false) (D.not false) false) (D.not false) false) true false)
    (D.eq (2 : Int) (2 : Int)) false) (D.eq (-1 : Int) (-1 : Int)) false) true false = true → (0 : Int) = (0 : Int) ∧ D.nil Bool = D.nil Bool ∧ D.nil Int = D.nil
    Int) ∧ (D.cnd (D.cnd (D.cnd (D.cnd (D.cnd (D.cnd (D.cnd (D.cnd (D.cnd (D.cnd (D.cnd (D.cnd (D.cnd (D.cnd (D.cnd (D.cnd (D.cnd (D.cnd (D.cnd (D.cnd (D.eq (1 :
    Int) (1 : Int)) (D.eq (0 : Int) (0 : Int)) false) (D.eq (-1 : Int) (-1 : Int)) false) (D.eq (1439 : Int) (1439 : Int)) false) (D.eq (1380 : Int) (1380 : Int))
    false) (D.eq (8 : Int) (8 : Int)) false) (D.eq (0 : Int) (0 : Int)) false) (D.eq (8 : Int) (8 : Int)) false) (D.eq (0 : Int) (0 : Int)) false) (D.eq (5 : Int)
    (5 : Int)) false) (D.eq (0 : Int) (0 : Int)) false) (D.eq (9 : Int) (9 : Int)) false) (D.eq (0 : Int) (0 : Int)) false) (D.eq (20 : Int) (20 : Int)) false) true
    false) (D.not false) false) (D.not false) false) true false) (D.eq (2 : Int) (2 : Int)) false) (D.eq (-1 : Int) (-1 : Int)) false) true false = true → D.cnd
    (D.cnd (D.cnd (D.cnd (D.cnd (D.cnd (D.cnd (D.cnd (D.cnd (D.cnd (D.cnd (D.cnd (D.cnd (D.cnd (D.cnd (D.cnd (D.cnd (D.cnd (D.cnd (D.cnd (D.eq (1 : Int) (1 : Int))
    (D.eq (0 : Int) (0 : Int)) false) (D.eq (-1 : Int) (-1 : Int)) false) (D.eq (1439 : Int) (1439 : Int)) false) (D.eq (1380 : Int) (1380 : Int)) false) (D.eq (8 :
    Int) (8 : Int)) false) (D.eq (0 : Int) (0 : Int)) false) (D.eq (8 : Int) (8 : Int)) false) (D.eq (0 : Int) (0 : Int)) false) (D.eq (5 : Int) (5 : Int)) false)
    (D.eq (0 : Int) (0 : Int)) false) (D.eq (9 : Int) (9 : Int)) false) (D.eq (0 : Int) (0 : Int)) false) (D.eq (20 : Int) (20 : Int)) false) true false) (D.not
    false) false) (D.not false) false) true false) (D.eq (2 : Int) (2 : Int)) false) (D.eq (-1 : Int) (-1 : Int)) false) true false = true → D.cnd (D.cnd (D.cnd
    (D.cnd (D.cnd (D.cnd (D.cnd (D.cnd (D.cnd (D.cnd (D.cnd (D.cnd (D.cnd (D.cnd (D.cnd (D.cnd (D.cnd (D.cnd (D.cnd (D.cnd (D.eq (1 : Int) (1 : Int)) (D.eq (0 :
    Int) (0 : Int)) false) (D.eq (-1 : Int) (-1 : Int)) false) (D.eq (1439 : Int) (1439 : Int)) false) (D.eq (1380 : Int) (1380 : Int)) false) (D.eq (8 : Int) (8 :
    Int)) false) (D.eq (0 : Int) (0 : Int)) false) (D.eq (8 : Int) (8 : Int)) false) (D.eq (0 : Int) (0 : Int)) false) (D.eq (5 : Int) (5 : Int)) false) (D.eq (0 :
    Int) (0 : Int)) false) (D.eq (9 : Int) (9 : Int)) false) (D.eq (0 : Int) (0 : Int)) false) (D.eq (20 : Int) (20 : Int)) false) true false) (D.not false) false)
    (D.not false) false) true false) (D.eq (2 : Int) (2 : Int)) false) (D.eq (-1 : Int) (-1 : Int)) false) true false = true) ∧ (D.and true (D.cnd (D.cnd (D.cnd
    (D.cnd (D.cnd (D.cnd (D.cnd (D.cnd (D.cnd (D.cnd (D.cnd (D.cnd (D.cnd (D.cnd (D.cnd (D.cnd (D.cnd (D.cnd (D.cnd (D.cnd (D.eq (1 : Int) (1 : Int)) (D.eq (0 :
    Int) (0 : Int)) false) (D.eq (-1 : Int) (-1 : Int)) false) (D.eq (1439 : Int) (1439 : Int)) false) (D.eq (1380 : Int) (1380 : Int)) false) (D.eq (8 : Int) (8 :
    Int)) false) (D.eq (0 : Int) (0 : Int)) false) (D.eq (8 : Int) (8 : Int)) false) (D.eq (0 : Int) (0 : Int)) false) (D.eq (5 : Int) (5 : Int)) false) (D.eq (0 :
    Int) (0 : Int)) false) (D.eq (9 : Int) (9 : Int)) false) (D.eq (0 : Int) (0 : Int)) false) (D.eq (20 : Int) (20 : Int)) false) true false) (D.not false) false)
    (D.not false) false) true false) (D.eq (2 : Int) (2 : Int)) false) (D.eq (-1 : Int) (-1 : Int)) false) true false) = true → D.cnd (D.cnd (D.cnd (D.cnd (D.cnd
    (D.cnd (D.cnd (D.cnd (D.cnd (D.cnd (D.cnd (D.cnd (D.cnd (D.cnd (D.cnd (D.cnd (D.cnd (D.cnd (D.cnd (D.cnd (D.eq (1 : Int) (1 : Int)) (D.eq (0 : Int) (0 : Int))
    false) (D.eq (-1 : Int) (-1 : Int)) false) (D.eq (1439 : Int) (1439 : Int)) false) (D.eq (1380 : Int) (1380 : Int)) false) (D.eq (8 : Int) (8 : Int)) false)
    (D.eq (0 : Int) (0 : Int)) false) (D.eq (8 : Int) (8 : Int)) false) (D.eq (0 : Int) (0 : Int)) false) (D.eq (5 : Int) (5 : Int)) false) (D.eq (0 : Int) (0 :
    Int)) false) (D.eq (9 : Int) (9 : Int)) false) (D.eq (0 : Int) (0 : Int)) false) (D.eq (20 : Int) (20 : Int)) false) true false) (D.not false) false) (D.not
    false) false) true false) (D.eq (2 : Int) (2 : Int)) false) (D.eq (-1 : Int) (-1 : Int)) false) true false = true) ∧ D.cnd (D.cnd (D.cnd (D.cnd (D.cnd (D.cnd
    (D.cnd (D.cnd (D.cnd (D.cnd (D.cnd (D.cnd (D.cnd (D.cnd (D.cnd (D.cnd (D.cnd (D.cnd (D.cnd (D.cnd (D.cnd (D.eq (1 : Int) (1 : Int)) (D.eq (0 : Int) (0 : Int))
    false) (D.eq (-1 : Int) (-1 : Int)) false) (D.eq (1439 : Int) (1439 : Int)) false) (D.eq (1380 : Int) (1380 : Int)) false) (D.eq (8 : Int) (8 : Int)) false)
    (D.eq (0 : Int) (0 : Int)) false) (D.eq (8 : Int) (8 : Int)) false) (D.eq (0 : Int) (0 : Int)) false) (D.eq (5 : Int) (5 : Int)) false) (D.eq (0 : Int) (0 :
    Int)) false) (D.eq (9 : Int) (9 : Int)) false) (D.eq (0 : Int) (0 : Int)) false) (D.eq (20 : Int) (20 : Int)) false) true false) (D.not false) false) (D.not
    false) false) true false) (D.eq (2 : Int) (2 : Int)) false) (D.eq (-1 : Int) (-1 : Int)) false) true false) (D.not false) false = true ∧ True)) :
    evF { mkc K6 with mb := fun t => t == 49 } noAnn 10 [] [] ⟨True, .dat .bool true, []⟩ := of_eq (by kernel_rfl) hvc


theorem KS5 : KSound Try.prog G0 K5 := by
  intro f args m c h
  unfold K5 at h
  split at h
  · cases h; exact s_local _ _ _ _
  · cases h; exact s_time _ _ _ _ _
  · cases h; exact s_next _ _ _ _
  · cases h; exact s_Work _ _ _ _
  · cases h; exact s_add _ _ _ _ _
  · cases h; exact s_count _ _ _ _ _
  · cases h; exact s_fine _ _ _
  · exact KS4 _ _ _ _ h
theorem s_example : SoundC Try.prog G0 19 [] [] ⟨True, cal 60 wx0 hx0, []⟩ :=
  sound_of_ev (c := mkc K5) KS5 KI0s hm (vc_example ⟨rfl, fun _ => by decide +kernel⟩)

theorem vx : validF 60 wx0 hx0 = true := by decide +kernel
theorem KS6 : KSound Try.prog G0 K6 := by
  intro f args m c h
  unfold K6 at h
  split at h
  · cases h; exact s_example
  · split at h
    · cases h; intro hp; obtain ⟨rfl, rfl, rfl, rfl⟩ := hp; exact s_local 60 wx0 hx0 1380 ⟨vx, by decide, by decide⟩
    · cases h; intro hp; obtain ⟨rfl, rfl, rfl, rfl⟩ := hp; exact s_local 60 wx0 hx0 (-61) ⟨vx, by decide, by decide⟩
  · cases h; intro hp; obtain ⟨rfl, rfl, rfl, rfl, rfl⟩ := hp; exact s_time 60 wx0 hx0 1 0 ⟨vx, by decide, by decide, by decide⟩
  · split at h
    · cases h; intro hp; obtain ⟨rfl, rfl, rfl, rfl⟩ := hp; exact s_next 60 wx0 hx0 5 ⟨vx, by decide⟩
    · cases h; intro hp; obtain ⟨rfl, rfl, rfl, rfl⟩ := hp; exact s_next 0 (D.rep 7 false) [] 0 ⟨by decide +kernel, by decide⟩
  · split at h
    · cases h; intro hp; obtain ⟨rfl, rfl, rfl, rfl, rfl⟩ := hp; exact s_add 60 wx0 hx0 4 1 ⟨vx, by decide, by decide, by decide⟩
    · split at h
      · cases h; intro hp; obtain ⟨rfl, rfl, rfl, rfl, rfl⟩ := hp; exact s_add 60 wx0 hx0 5 0 ⟨vx, by decide, by decide, by decide⟩
      · cases h; intro hp; obtain ⟨rfl, rfl, rfl, rfl, rfl⟩ := hp; exact s_add 60 wx0 hx0 5 2 ⟨vx, by decide, by decide, by decide⟩
  · split at h
    · cases h; intro hp; obtain ⟨rfl, rfl, rfl, rfl⟩ := hp; exact s_Work 60 wx0 hx0 4 ⟨vx, by decide⟩
    · split at h
      · cases h; intro hp; obtain ⟨rfl, rfl, rfl, rfl⟩ := hp; exact s_Work 60 wx0 hx0 5 ⟨vx, by decide⟩
      · split at h
        · cases h; intro hp; obtain ⟨rfl, rfl, rfl, rfl⟩ := hp; exact s_Work 60 wx0 hx0 7 ⟨vx, by decide⟩
        · cases h; intro hp; obtain ⟨rfl, rfl, rfl, rfl⟩ := hp; exact s_Work 60 wx0 hx0 (-3) ⟨vx, by decide⟩
  · split at h
    · cases h; intro hp; obtain ⟨rfl, rfl, rfl, rfl, rfl⟩ := hp; exact s_count 60 wx0 hx0 4 9 ⟨vx, by decide, by decide⟩
    · cases h; intro hp; obtain ⟨rfl, rfl, rfl, rfl, rfl⟩ := hp; exact s_count 60 wx0 hx0 0 2001 ⟨vx, by decide, by decide⟩
  · split at h
    · cases h; intro hp; obtain ⟨rfl, rfl, rfl⟩ := hp; exact s_valid 60 wx0 hx0 trivial
    · cases h; intro hp; obtain ⟨rfl, rfl, rfl⟩ := hp; exact s_valid 0 [] [] trivial
  · cases h

theorem s_head : SoundC Try.prog G0 10 [] [] ⟨True, .dat .bool true, []⟩ :=
  sound_of_ev (c := { mkc K6 with mb := fun t => t == 49 }) KS6 KI0s hm (vc_head ⟨rfl, fun _ => by simp only [D.cnd, D.and, D.not, D.eq, D.ne, D.ile, D.mul, D.ofN, D.rep, cond_true, cond_false, beq_self_eq_true, Bool.and_self, Bool.not_false, Bool.not_true, eq_self, true_and, and_true, imp_self, implies_true]; decide +kernel⟩)

end Go.Eng.Cal
