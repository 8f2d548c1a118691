/- PeMp7 -/
import Derived.Test.YthdihjmpibfmgaaEng18
import Derived.Test.YthdihjmpibfmgaaMpSums
namespace Go.Eng.Mp
open Go.Proofs
noncomputable def one1 (i j : Int) : Int := bif decide (i = j) then 0 else -1099511627776
noncomputable def oneF (n : Int) : List (List Int) := buildF one1 n
noncomputable def oneTo (n k : Int) : List (List Int) := (oneF n).take k.toNat
noncomputable def oneRTo (n i k : Int) : List Int := ((List.range n.toNat).map fun j : Nat => one1 i j).take k.toNat
noncomputable def small (n : Int) : Prop := n ≤ 1000000
noncomputable def mild1 (x : Int) : Bool := infF x || (decide (-1000000 ≤ x) && decide (x ≤ 1000000))
noncomputable def mildF (m : List (List Int)) : Bool := m.all fun r => r.all mild1
noncomputable def mildTo (m : List (List Int)) (k : Int) : Prop := 0 ≤ k ∧ k ≤ m.length ∧ (m.take k.toNat).all (fun r => r.all mild1) = true
noncomputable def mildRTo (m : List (List Int)) (i k : Int) : Prop := 0 ≤ k ∧ k ≤ (m.getD i.toNat []).length ∧ ((m.getD i.toNat []).take k.toNat).all mild1 = true
noncomputable def c10m : Cfg := ⟨Try.prog, K10, fun t => t == 12⟩
noncomputable def oneA (n : Int) : Ann := ⟨fun id s => match id with
  | 3 => some { α := Int, inv := fun k => upto k n, st := fun k => putM (put s [(4, .dat I k), (3, .buf 7 (D.len (oneTo n k)))]) 7 (.buf 23 R (oneTo n k) []), μ := fun k => D.nat (D.sub n k) }
  | 7 => match s.sig.T 4 with
    | .dat (.int .i64) i => some { α := Int, inv := fun k => upto k n, st := fun k => putM (put s [(6, .dat I k), (5, .buf 0 (D.len (oneRTo n i k)))]) 0 (.buf 3 I (oneRTo n i k) []), μ := fun k => D.nat (D.sub n k) }
    | _ => none
  | _ => none, fun id s => match id with
  | 12 => some (put (frz [0] s) [(12, .top)])
  | _ => none, fun _ _ => none⟩
noncomputable def mildA (m : List (List Int)) : Ann := ⟨fun id s => match id with
  | 2 => some { α := Int, inv := fun k => mildTo m k, st := fun k => put s [(3, .dat I k)], μ := fun k => D.nat (D.sub (D.ilen m) k) }
  | 5 => match s.sig.T 3 with
    | .dat (.int .i64) i => some { α := Int, inv := fun k => mildRTo m i k, st := fun k => put s [(4, .dat I k)], μ := fun k => D.nat (D.sub (D.ilen (D.get m (D.nat i) [])) k) }
    | _ => none
  | _ => none, fun _ _ => none, fun _ _ => none⟩
theorem vc_one (n : Int) (h :
     true = true ∧ true = true ∧ (small n → (∃ x, upto x n ∧ n = n ∧ Value.slice none (0) (0) = Value.slice none (0) (0) ∧ D.len (oneTo n x) = 0 ∧ oneTo n x
    = D.nil (List Int) ∧ (0 : Int) = x ∧ oneTo n x = D.nil (List Int) ∧ True) ∧ ∀ (x : Int), upto x n → (D.lt x n = true → (∃ x_3, upto x_3 n ∧ n = n ∧ Value.slice
    none (0) (0) = Value.slice none (0) (0) ∧ D.len (oneTo n x) = D.len (oneTo n x) ∧ x = x ∧ 0 = D.len (oneRTo n x x_3) ∧ (0 : Int) = x_3 ∧ x = x ∧ n = n ∧ D.lt x
    n = D.lt x n ∧ 0 = 0 ∧ oneTo n x = oneTo n x ∧ D.nil Int = oneRTo n x x_3 ∧ True) ∧ ∀ (x_3 : Int), upto x_3 n → (D.lt x_3 n = true → (D.eq x x_3 = true → D.len
    (oneRTo n x x_3) = D.len (oneRTo n x x_3) ∧ D.nle (D.nmul (D.nadd (D.len (oneRTo n x x_3)) (D.len [(0 : Int)])) (8)) (140737488355328) ∧ D.nle (D.nadd (D.len
    (oneRTo n x x_3)) (D.len [(0 : Int)])) (9223372036854775807) ∧ inR IntKind.i64 (D.add x_3 (1 : Int)) ∧ ∃ y, upto y n ∧ (n = n ∧ Value.slice none (0) (0) =
    Value.slice none (0) (0) ∧ D.len (oneTo n x) = D.len (oneTo n x) ∧ x = x ∧ D.nadd (D.len (oneRTo n x x_3)) (D.len [(0 : Int)]) = D.len (oneRTo n x y) ∧ D.add
    x_3 (1 : Int) = y ∧ x = x ∧ n = n ∧ D.lt x n = D.lt x n ∧ 0 = 0 ∧ oneTo n x = oneTo n x ∧ D.app (oneRTo n x x_3) [(0 : Int)] = oneRTo n x y ∧ True) ∧ D.nlt
    (D.nat (D.sub n y)) (D.nat (D.sub n x_3))) ∧ (D.eq x x_3 = false → D.len (oneRTo n x x_3) = D.len (oneRTo n x x_3) ∧ D.nle (D.nmul (D.nadd (D.len (oneRTo n x
    x_3)) (D.len [(-1099511627776 : Int)])) (8)) (140737488355328) ∧ D.nle (D.nadd (D.len (oneRTo n x x_3)) (D.len [(-1099511627776 : Int)])) (9223372036854775807)
    ∧ inR IntKind.i64 (D.add x_3 (1 : Int)) ∧ ∃ y, upto y n ∧ (n = n ∧ Value.slice none (0) (0) = Value.slice none (0) (0) ∧ D.len (oneTo n x) = D.len (oneTo n x) ∧
    x = x ∧ D.nadd (D.len (oneRTo n x x_3)) (D.len [(-1099511627776 : Int)]) = D.len (oneRTo n x y) ∧ D.add x_3 (1 : Int) = y ∧ x = x ∧ n = n ∧ D.lt x n = D.lt x n
    ∧ 0 = 0 ∧ oneTo n x = oneTo n x ∧ D.app (oneRTo n x x_3) [(-1099511627776 : Int)] = oneRTo n x y ∧ True) ∧ D.nlt (D.nat (D.sub n y)) (D.nat (D.sub n x_3)))) ∧
    (D.lt x_3 n = false → n = n ∧ Value.slice none (0) (0) = Value.slice none (0) (0) ∧ D.len (oneTo n x) = D.len (oneTo n x) ∧ x = x ∧ D.len (oneRTo n x x_3) =
    D.len (oneRTo n x x_3) ∧ oneRTo n x x_3 = oneRTo n x x_3 ∧ x_3 = x_3 ∧ x = x ∧ n = n ∧ D.lt x n = D.lt x n ∧ x_3 = x_3 ∧ n = n ∧ D.lt x_3 n = D.lt x_3 n ∧ oneTo
    n x = oneTo n x ∧ D.len (oneTo n x) = D.len (oneTo n x) ∧ D.nle (D.nmul (D.nadd (D.len (oneTo n x)) (D.len [oneRTo n x x_3])) (24)) (140737488355328) ∧ D.nle
    (D.nadd (D.len (oneTo n x)) (D.len [oneRTo n x x_3])) (9223372036854775807) ∧ inR IntKind.i64 (D.add x (1 : Int)) ∧ ∃ y, upto y n ∧ (n = n ∧ Value.slice none
    (0) (0) = Value.slice none (0) (0) ∧ D.nadd (D.len (oneTo n x)) (D.len [oneRTo n x x_3]) = D.len (oneTo n y) ∧ D.add x (1 : Int) = y ∧ D.app (oneTo n x) [oneRTo
    n x x_3] = oneTo n y ∧ True) ∧ D.nlt (D.nat (D.sub n y)) (D.nat (D.sub n x)))) ∧ (D.lt x n = false → D.len (oneTo n x) = D.len (oneTo n x) ∧ oneTo n x = oneF n
    ∧ True))) :
    evF c10m (oneA n) 13 [.dat I n] ⟨small n, .dat M (oneF n)⟩ := of_eq (by kernel_rfl) h

theorem vc_mild (m : List (List Int)) (h :
     true = true ∧ true = true ∧ (cleanP m → (∃ x, mildTo m x ∧ m = m ∧ (0 : Int) = x ∧ True) ∧ ∀ (x : Int), mildTo m x → (D.lt x (D.ilen m) = true → (∃ x_3,
    mildRTo m x x_3 ∧ m = m ∧ x = x ∧ (0 : Int) = x_3 ∧ x = x ∧ m = m ∧ D.ilen m = D.ilen m ∧ D.lt x (D.ilen m) = D.lt x (D.ilen m) ∧ True) ∧ ∀ (x_3 : Int), mildRTo
    m x x_3 → D.ile (0 : Int) x ∧ D.ilt x (D.ilen m) ∧ (D.lt x_3 (D.ilen (D.get m (D.nat x) (D.nil Int))) = true → D.ile (0 : Int) x ∧ D.ilt x (D.ilen m) ∧ D.ile (0
    : Int) x_3 ∧ D.ilt x_3 (D.ilen (D.get m (D.nat x) (D.nil Int))) ∧ True ∧ (D.not (infF (D.get (D.get m (D.nat x) (D.nil Int)) (D.nat x_3) (0 : Int))) = true →
    D.not (infF (D.get (D.get m (D.nat x) (D.nil Int)) (D.nat x_3) (0 : Int))) = true → D.not (infF (D.get (D.get m (D.nat x) (D.nil Int)) (D.nat x_3) (0 : Int))) =
    true) ∧ (D.not (infF (D.get (D.get m (D.nat x) (D.nil Int)) (D.nat x_3) (0 : Int))) = true → D.not (infF (D.get (D.get m (D.nat x) (D.nil Int)) (D.nat x_3) (0 :
    Int))) = true → D.not (infF (D.get (D.get m (D.nat x) (D.nil Int)) (D.nat x_3) (0 : Int))) = true) ∧ (D.not (infF (D.get (D.get m (D.nat x) (D.nil Int)) (D.nat
    x_3) (0 : Int))) = true → D.ile (0 : Int) x) ∧ (D.not (infF (D.get (D.get m (D.nat x) (D.nil Int)) (D.nat x_3) (0 : Int))) = true → D.ilt x (D.ilen m)) ∧ (D.not
    (infF (D.get (D.get m (D.nat x) (D.nil Int)) (D.nat x_3) (0 : Int))) = true → D.not (infF (D.get (D.get m (D.nat x) (D.nil Int)) (D.nat x_3) (0 : Int))) = true
    → D.not (infF (D.get (D.get m (D.nat x) (D.nil Int)) (D.nat x_3) (0 : Int))) = true) ∧ (D.not (infF (D.get (D.get m (D.nat x) (D.nil Int)) (D.nat x_3) (0 :
    Int))) = true → D.not (infF (D.get (D.get m (D.nat x) (D.nil Int)) (D.nat x_3) (0 : Int))) = true → D.not (infF (D.get (D.get m (D.nat x) (D.nil Int)) (D.nat
    x_3) (0 : Int))) = true) ∧ (D.not (infF (D.get (D.get m (D.nat x) (D.nil Int)) (D.nat x_3) (0 : Int))) = true → D.not (infF (D.get (D.get m (D.nat x) (D.nil
    Int)) (D.nat x_3) (0 : Int))) = true → D.not (infF (D.get (D.get m (D.nat x) (D.nil Int)) (D.nat x_3) (0 : Int))) = true) ∧ (D.not (infF (D.get (D.get m (D.nat
    x) (D.nil Int)) (D.nat x_3) (0 : Int))) = true → D.ile (0 : Int) x_3) ∧ (D.not (infF (D.get (D.get m (D.nat x) (D.nil Int)) (D.nat x_3) (0 : Int))) = true →
    D.ilt x_3 (D.ilen (D.get m (D.nat x) (D.nil Int)))) ∧ (D.not (infF (D.get (D.get m (D.nat x) (D.nil Int)) (D.nat x_3) (0 : Int))) = true → D.not (infF (D.get
    (D.get m (D.nat x) (D.nil Int)) (D.nat x_3) (0 : Int))) = true → D.not (infF (D.get (D.get m (D.nat x) (D.nil Int)) (D.nat x_3) (0 : Int))) = true) ∧ (D.not
    (infF (D.get (D.get m (D.nat x) (D.nil Int)) (D.nat x_3) (0 : Int))) = true → D.not (infF (D.get (D.get m (D.nat x) (D.nil Int)) (D.nat x_3) (0 : Int))) = true
    → D.not (infF (D.get (D.get m (D.nat x) (D.nil Int)) (D.nat x_3) (0 : Int))) = true) ∧ (D.not (infF (D.get (D.get m (D.nat x) (D.nil Int)) (D.nat x_3) (0 :
    Int))) = true → D.not (infF (D.get (D.get m (D.nat x) (D.nil Int)) (D.nat x_3) (0 : Int))) = true → D.not (infF (D.get (D.get m (D.nat x) (D.nil Int)) (D.nat
    x_3) (0 : Int))) = true) ∧ (D.and (D.not (infF (D.get (D.get m (D.nat x) (D.nil Int)) (D.nat x_3) (0 : Int)))) (D.not (D.lt (D.get (D.get m (D.nat x) (D.nil
    Int)) (D.nat x_3) (0 : Int)) (-1000000 : Int))) = true → D.and (D.not (infF (D.get (D.get m (D.nat x) (D.nil Int)) (D.nat x_3) (0 : Int)))) (D.not (D.lt (D.get
    (D.get m (D.nat x) (D.nil Int)) (D.nat x_3) (0 : Int)) (-1000000 : Int))) = true → D.and (D.not (infF (D.get (D.get m (D.nat x) (D.nil Int)) (D.nat x_3) (0 :
    Int)))) (D.not (D.lt (D.get (D.get m (D.nat x) (D.nil Int)) (D.nat x_3) (0 : Int)) (-1000000 : Int))) = true) ∧ (D.and (D.not (infF (D.get (D.get m (D.nat x)
    (D.nil Int)) (D.nat x_3) (0 : Int)))) (D.not (D.lt (D.get (D.get m (D.nat x) (D.nil Int)) (D.nat x_3) (0 : Int)) (-1000000 : Int))) = true → D.and (D.not (infF
    (D.get (D.get m (D.nat x) (D.nil Int)) (D.nat x_3) (0 : Int)))) (D.not (D.lt (D.get (D.get m (D.nat x) (D.nil Int)) (D.nat x_3) (0 : Int)) (-1000000 : Int))) =
    true → D.and (D.not (infF (D.get (D.get m (D.nat x) (D.nil Int)) (D.nat x_3) (0 : Int)))) (D.not (D.lt (D.get (D.get m (D.nat x) (D.nil Int)) (D.nat x_3) (0 :
    Int)) (-1000000 : Int))) = true) ∧ (D.and (D.not (infF (D.get (D.get m (D.nat x) (D.nil Int)) (D.nat x_3) (0 : Int)))) (D.not (D.lt (D.get (D.get m (D.nat x)
    (D.nil Int)) (D.nat x_3) (0 : Int)) (-1000000 : Int))) = true → D.ile (0 : Int) x) ∧ (D.and (D.not (infF (D.get (D.get m (D.nat x) (D.nil Int)) (D.nat x_3) (0 :
    Int)))) (D.not (D.lt (D.get (D.get m (D.nat x) (D.nil Int)) (D.nat x_3) (0 : Int)) (-1000000 : Int))) = true → D.ilt x (D.ilen m)) ∧ (D.and (D.not (infF (D.get
    (D.get m (D.nat x) (D.nil Int)) (D.nat x_3) (0 : Int)))) (D.not (D.lt (D.get (D.get m (D.nat x) (D.nil Int)) (D.nat x_3) (0 : Int)) (-1000000 : Int))) = true →
    D.and (D.not (infF (D.get (D.get m (D.nat x) (D.nil Int)) (D.nat x_3) (0 : Int)))) (D.not (D.lt (D.get (D.get m (D.nat x) (D.nil Int)) (D.nat x_3) (0 : Int))
    (-1000000 : Int))) = true → D.and (D.not (infF (D.get (D.get m (D.nat x) (D.nil Int)) (D.nat x_3) (0 : Int)))) (D.not (D.lt (D.get (D.get m (D.nat x) (D.nil
    Int)) (D.nat x_3) (0 : Int)) (-1000000 : Int))) = true) ∧ (D.and (D.not (infF (D.get (D.get m (D.nat x) (D.nil Int)) (D.nat x_3) (0 : Int)))) (D.not (D.lt
    (D.get (D.get m (D.nat x) (D.nil Int)) (D.nat x_3) (0 : Int)) (-1000000 : Int))) = true → D.and (D.not (infF (D.get (D.get m (D.nat x) (D.nil Int)) (D.nat x_3)
    (0 : Int)))) (D.not (D.lt (D.get (D.get m (D.nat x) (D.nil Int)) (D.nat x_3) (0 : Int)) (-1000000 : Int))) = true → D.and (D.not (infF (D.get (D.get m (D.nat x)
    (D.nil Int)) (D.nat x_3) (0 : Int)))) (D.not (D.lt (D.get (D.get m (D.nat x) (D.nil Int)) (D.nat x_3) (0 : Int)) (-1000000 : Int))) = true) ∧ (D.and (D.not
    (infF (D.get (D.get m (D.nat x) (D.nil Int)) (D.nat x_3) (0 : Int)))) (D.not (D.lt (D.get (D.get m (D.nat x) (D.nil Int)) (D.nat x_3) (0 : Int)) (-1000000 :
    Int))) = true → D.and (D.not (infF (D.get (D.get m (D.nat x) (D.nil Int)) (D.nat x_3) (0 : Int)))) (D.not (D.lt (D.get (D.get m (D.nat x) (D.nil Int)) (D.nat
    x_3) (0 : Int)) (-1000000 : Int))) = true → D.and (D.not (infF (D.get (D.get m (D.nat x) (D.nil Int)) (D.nat x_3) (0 : Int)))) (D.not (D.lt (D.get (D.get m
    (D.nat x) (D.nil Int)) (D.nat x_3) (0 : Int)) (-1000000 : Int))) = true) ∧ (D.and (D.not (infF (D.get (D.get m (D.nat x) (D.nil Int)) (D.nat x_3) (0 : Int))))
    (D.not (D.lt (D.get (D.get m (D.nat x) (D.nil Int)) (D.nat x_3) (0 : Int)) (-1000000 : Int))) = true → D.ile (0 : Int) x_3) ∧ (D.and (D.not (infF (D.get (D.get
    m (D.nat x) (D.nil Int)) (D.nat x_3) (0 : Int)))) (D.not (D.lt (D.get (D.get m (D.nat x) (D.nil Int)) (D.nat x_3) (0 : Int)) (-1000000 : Int))) = true → D.ilt
    x_3 (D.ilen (D.get m (D.nat x) (D.nil Int)))) ∧ (D.and (D.not (infF (D.get (D.get m (D.nat x) (D.nil Int)) (D.nat x_3) (0 : Int)))) (D.not (D.lt (D.get (D.get m
    (D.nat x) (D.nil Int)) (D.nat x_3) (0 : Int)) (-1000000 : Int))) = true → D.and (D.not (infF (D.get (D.get m (D.nat x) (D.nil Int)) (D.nat x_3) (0 : Int))))
    (D.not (D.lt (D.get (D.get m (D.nat x) (D.nil Int)) (D.nat x_3) (0 : Int)) (-1000000 : Int))) = true → D.and (D.not (infF (D.get (D.get m (D.nat x) (D.nil Int))
    (D.nat x_3) (0 : Int)))) (D.not (D.lt (D.get (D.get m (D.nat x) (D.nil Int)) (D.nat x_3) (0 : Int)) (-1000000 : Int))) = true) ∧ (D.and (D.not (infF (D.get
    (D.get m (D.nat x) (D.nil Int)) (D.nat x_3) (0 : Int)))) (D.not (D.lt (D.get (D.get m (D.nat x) (D.nil Int)) (D.nat x_3) (0 : Int)) (-1000000 : Int))) = true →
    D.and (D.not (infF (D.get (D.get m (D.nat x) (D.nil Int)) (D.nat x_3) (0 : Int)))) (D.not (D.lt (D.get (D.get m (D.nat x) (D.nil Int)) (D.nat x_3) (0 : Int))
    (-1000000 : Int))) = true → D.and (D.not (infF (D.get (D.get m (D.nat x) (D.nil Int)) (D.nat x_3) (0 : Int)))) (D.not (D.lt (D.get (D.get m (D.nat x) (D.nil
    Int)) (D.nat x_3) (0 : Int)) (-1000000 : Int))) = true) ∧ (D.not (infF (D.get (D.get m (D.nat x) (D.nil Int)) (D.nat x_3) (0 : Int))) = true → D.not (infF
    (D.get (D.get m (D.nat x) (D.nil Int)) (D.nat x_3) (0 : Int))) = true → D.not (infF (D.get (D.get m (D.nat x) (D.nil Int)) (D.nat x_3) (0 : Int))) = true) ∧
    (D.not (infF (D.get (D.get m (D.nat x) (D.nil Int)) (D.nat x_3) (0 : Int))) = true → D.and (D.not (infF (D.get (D.get m (D.nat x) (D.nil Int)) (D.nat x_3) (0 :
    Int)))) (D.not (D.lt (D.get (D.get m (D.nat x) (D.nil Int)) (D.nat x_3) (0 : Int)) (-1000000 : Int))) = true → D.and (D.not (infF (D.get (D.get m (D.nat x)
    (D.nil Int)) (D.nat x_3) (0 : Int)))) (D.not (D.lt (D.get (D.get m (D.nat x) (D.nil Int)) (D.nat x_3) (0 : Int)) (-1000000 : Int))) = true) ∧ (D.and true (D.not
    (infF (D.get (D.get m (D.nat x) (D.nil Int)) (D.nat x_3) (0 : Int)))) = true → D.not (infF (D.get (D.get m (D.nat x) (D.nil Int)) (D.nat x_3) (0 : Int))) =
    true) ∧ (D.cnd (D.not (infF (D.get (D.get m (D.nat x) (D.nil Int)) (D.nat x_3) (0 : Int)))) (D.cnd (D.lt (D.get (D.get m (D.nat x) (D.nil Int)) (D.nat x_3) (0 :
    Int)) (-1000000 : Int)) true (D.gt (D.get (D.get m (D.nat x) (D.nil Int)) (D.nat x_3) (0 : Int)) (1000000 : Int))) false = true → false = mildF m ∧ True) ∧
    (D.cnd (D.not (infF (D.get (D.get m (D.nat x) (D.nil Int)) (D.nat x_3) (0 : Int)))) (D.cnd (D.lt (D.get (D.get m (D.nat x) (D.nil Int)) (D.nat x_3) (0 : Int))
    (-1000000 : Int)) true (D.gt (D.get (D.get m (D.nat x) (D.nil Int)) (D.nat x_3) (0 : Int)) (1000000 : Int))) false = false → inR IntKind.i64 (D.add x_3 (1 :
    Int)) ∧ ∃ y, mildRTo m x y ∧ (m = m ∧ x = x ∧ D.add x_3 (1 : Int) = y ∧ x = x ∧ m = m ∧ D.ilen m = D.ilen m ∧ D.lt x (D.ilen m) = D.lt x (D.ilen m) ∧ True) ∧
    D.nlt (D.nat (D.sub (D.ilen (D.get m (D.nat x) (D.nil Int))) y)) (D.nat (D.sub (D.ilen (D.get m (D.nat x) (D.nil Int))) x_3)))) ∧ (D.lt x_3 (D.ilen (D.get m
    (D.nat x) (D.nil Int))) = false → inR IntKind.i64 (D.add x (1 : Int)) ∧ ∃ y, mildTo m y ∧ (m = m ∧ D.add x (1 : Int) = y ∧ True) ∧ D.nlt (D.nat (D.sub (D.ilen
    m) y)) (D.nat (D.sub (D.ilen m) x)))) ∧ (D.lt x (D.ilen m) = false → true = mildF m ∧ True))) :
    evF c10 (mildA m) 29 [.dat M m] ⟨cleanP m, .dat .bool (mildF m)⟩ := of_eq (by kernel_rfl) h

theorem oneTo_len {n k : Int} (h : upto k n) : (oneTo n k).length = k.toNat := by
  have := h.1; have := h.2
  simp only [oneTo, oneF, buildF, List.length_take, List.length_map, List.length_range]; omega
theorem oneRTo_len {n i k : Int} (h : upto k n) : (oneRTo n i k).length = k.toNat := by
  have := h.1; have := h.2
  simp only [oneRTo, List.length_take, List.length_map, List.length_range]; omega
theorem oneRTo_succ {n i k : Int} (h0 : 0 ≤ k) (hk : k < n) : oneRTo n i (k + 1) = oneRTo n i k ++ [one1 i k] := by
  unfold oneRTo
  rw [show (k + 1).toNat = k.toNat + 1 by omega, take_succ_getD _ 0 _ (by simp only [List.length_map, List.length_range]; omega)]
  congr 2
  rw [List.getD_eq_getElem?_getD, List.getElem?_map, List.getElem?_range (by omega)]
  simp [Int.toNat_of_nonneg h0]
theorem oneTo_succ {n k : Int} (h0 : 0 ≤ k) (hk : k < n) : oneTo n (k + 1) = oneTo n k ++ [oneRTo n k n] := by
  unfold oneTo
  rw [show (k + 1).toNat = k.toNat + 1 by omega, take_succ_getD _ [] _ (by simp only [oneF, buildF, List.length_map, List.length_range]; omega)]
  congr 2
  unfold oneF buildF oneRTo
  rw [List.getD_eq_getElem?_getD, List.getElem?_map, List.getElem?_range (by omega), List.take_of_length_le (by simp)]
  simp [Int.toNat_of_nonneg h0]
theorem s_one (n : Int) : SoundC Try.prog 13 [.dat I n] ⟨small n, .dat M (oneF n)⟩ := by
  refine sound_of_ev (c := c10m) KS10 hm (vc_one n ⟨rfl, rfl, fun hp => ?_⟩)
  unfold small at hp
  simp only [eq_self, true_and, and_true, imp_self, implies_true]
  refine ⟨⟨0, ⟨by omega, .inr rfl⟩, by simp [oneTo], by simp [oneTo], rfl, by simp [oneTo]⟩, fun x hx => ⟨fun hlt => ?_, fun hge => ?_⟩⟩
  · have hlt : x < n := of_decide_eq_true hlt
    have g0 := hx.1
    refine ⟨⟨0, ⟨by omega, .inr rfl⟩, by simp [oneRTo], rfl, by simp [oneRTo]⟩, fun y hy => ⟨fun hlt2 => ?_, fun hge => ?_⟩⟩
    · have hlt2 : y < n := of_decide_eq_true hlt2
      have h1 := hy.1
      have hy1 := oneRTo_len (i := x) hy
      have hy2 : upto (y + 1) n := ⟨by omega, .inl (by omega)⟩
      have hs := oneRTo_succ (i := x) h1 hlt2
      have hl := oneRTo_len (i := x) hy2
      have key : ∀ v, v = one1 x y → D.nle (D.nmul (D.nadd (D.len (oneRTo n x y)) (D.len [v])) 8) 140737488355328 ∧ D.nle (D.nadd (D.len (oneRTo n x y)) (D.len [v])) 9223372036854775807 ∧
          inR .i64 (D.add y 1) ∧ ∃ z, upto z n ∧ (D.nadd (D.len (oneRTo n x y)) (D.len [v]) = D.len (oneRTo n x z) ∧ D.add y 1 = z ∧ D.app (oneRTo n x y) [v] = oneRTo n x z) ∧ D.nlt (D.nat (D.sub n z)) (D.nat (D.sub n y)) := by
        intro v hv
        subst hv
        refine ⟨?_, ?_, by simp only [inR, D.add]; omega, y + 1, hy2, ⟨?_, rfl, hs.symm⟩, ?_⟩
        · simp only [D.nle, D.nmul, D.nadd, D.len, hy1, List.length_singleton]; omega
        · simp only [D.nle, D.nadd, D.len, hy1, List.length_singleton]; omega
        · simp only [D.nadd, D.len, hy1, hl, List.length_singleton]; omega
        · simp only [D.nlt, D.nat, D.sub]; omega
      refine ⟨fun he => key 0 ?_, fun he => key (-1099511627776) ?_⟩
      · have he : x = y := by simpa using he
        simp [one1, he]
      · have he : ¬ x = y := by simpa using he
        simp [one1, he]
    · have hge : ¬ y < n := by simpa using hge
      have hx1 := oneTo_len hx
      have hx2 : upto (x + 1) n := ⟨by omega, .inl (by omega)⟩
      have he : y = n := by have := hy.1; have := hy.2; omega
      subst he
      refine ⟨?_, ?_, by simp only [inR, D.add]; omega, x + 1, hx2, ⟨?_, rfl, (oneTo_succ g0 hlt).symm⟩, ?_⟩
      · simp only [D.nle, D.nmul, D.nadd, D.len, hx1, List.length_singleton]; omega
      · simp only [D.nle, D.nadd, D.len, hx1, List.length_singleton]; omega
      · simp only [D.nadd, D.len, hx1, oneTo_len hx2, List.length_singleton]; omega
      · simp only [D.nlt, D.nat, D.sub]; omega
  · have hge : ¬ x < n := by simpa using hge
    unfold oneTo
    rw [List.take_of_length_le]
    have := hx.1; have := hx.2
    simp only [oneF, buildF, List.length_map, List.length_range]; omega
theorem mild_cnd (x : Int) : D.cnd (D.not (infF x)) (D.cnd (D.lt x (-1000000)) true (D.gt x 1000000)) false = !mild1 x := by
  unfold mild1
  cases infF x
  · by_cases h1 : x < -1000000
    · have : ¬ (-1000000 ≤ x) := by omega
      simp [h1, this]
    · by_cases h2 : x > 1000000
      · have : ¬ (x ≤ 1000000) := by omega
        simp [h1, h2, this]
      · have : -1000000 ≤ x ∧ x ≤ 1000000 := by omega
        simp [h1, h2, this]
  · simp
theorem mildF_bad {m : List (List Int)} {x y : Int} (h0 : 0 ≤ x) (hx : x < m.length) (h1 : 0 ≤ y) (hy : y < (m.getD x.toNat []).length) (hb : mild1 ((m.getD x.toNat []).getD y.toNat 0) = false) : mildF m = false := by
  cases h : mildF m with
  | false => rfl
  | true =>
    have a := List.all_eq_true.1 h _ (getD_mem m [] x.toNat (by omega))
    have b := List.all_eq_true.1 a _ (getD_mem (m.getD x.toNat []) 0 y.toNat (by omega))
    rw [hb] at b; cases b
theorem s_mild (m : List (List Int)) : SoundC Try.prog 29 [.dat M m] ⟨cleanP m, .dat .bool (mildF m)⟩ := by
  refine sound_of_ev (c := c10) KS10 hm (vc_mild m ⟨rfl, rfl, fun hp => ?_⟩)
  simp only [mild_cnd]
  simp only [eq_self, true_and, and_true, imp_self, implies_true]
  have hlen := hp.1
  refine ⟨⟨0, ⟨by omega, by omega, by simp⟩, rfl⟩, fun x hx => ⟨fun hlt => ?_, fun hge => ?_⟩⟩
  · have hlt : x < m.length := of_decide_eq_true hlt
    obtain ⟨g0, g1, g2⟩ := hx
    have hrow : ((m.getD x.toNat []).length : Int) ≤ 1000000 := hp.2 _ (getD_mem _ _ _ (by omega))
    refine ⟨⟨0, ⟨by omega, by omega, by simp⟩, rfl⟩, fun y hy => ⟨g0, hlt, fun hlt2 => ?_, fun hge => ?_⟩⟩
    · have hlt2 : y < (m.getD x.toNat []).length := of_decide_eq_true hlt2
      obtain ⟨k0, k1, k2⟩ := hy
      refine ⟨g0, hlt, k0, hlt2, fun _ => g0, fun _ => hlt, fun _ => k0, fun _ => hlt2, fun _ => g0, fun _ => hlt, fun _ => k0, fun _ => hlt2, fun h => by simpa using h, fun ho => ?_, fun ho => ⟨?_, y + 1, ⟨by omega, by omega, ?_⟩, rfl, ?_⟩⟩
      · exact (mildF_bad g0 hlt k0 hlt2 (by simpa using ho)).symm
      · simp only [inR, D.add]; omega
      · rw [show (y + 1).toNat = y.toNat + 1 by omega, take_succ_getD _ 0 _ (by omega), List.all_append, k2]
        have : mild1 ((m.getD x.toNat []).getD y.toNat 0) = true := by simpa using ho
        simp only [List.all_cons, this, List.all_nil, Bool.and_self]
      · simp only [D.nlt, D.nat, D.sub, D.ilen, D.get, D.nil]; omega
    · have hge : ¬ y < (m.getD x.toNat []).length := by simpa using hge
      obtain ⟨k0, k1, k2⟩ := hy
      rw [List.take_of_length_le (by omega)] at k2
      refine ⟨by simp only [inR, D.add]; omega, x + 1, ⟨by omega, by omega, ?_⟩, rfl, ?_⟩
      · rw [show (x + 1).toNat = x.toNat + 1 by omega, take_succ_getD _ [] _ (by omega), List.all_append, g2]
        simp only [List.all_cons, k2, List.all_nil, Bool.and_self]
      · simp only [D.nlt, D.nat, D.sub, D.ilen]; omega
  · have hge : ¬ x < m.length := by simpa using hge
    obtain ⟨g0, g1, g2⟩ := hx
    rw [List.take_of_length_le (by omega)] at g2
    exact g2.symm
end Go.Eng.Mp
