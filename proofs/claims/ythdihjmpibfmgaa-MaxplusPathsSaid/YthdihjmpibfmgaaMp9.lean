/- PeMp9 -/
import Derived.Test.YthdihjmpibfmgaaEng18
import Derived.Test.YthdihjmpibfmgaaMp8
namespace Go.Eng.Mp
open Go.Proofs
abbrev B8 : Ty := .sl (.int .u8)
noncomputable def rowsLow (m : List (List Int)) (i k : Int) : Prop := ∀ x y : Int, 0 ≤ x → (x < i ∨ x = i ∧ y < k) → 0 ≤ y → y < m.length → at2 m x y ≤ 0
noncomputable def posWalk (m : List (List Int)) : Prop := ∃ i k j : Int, 0 ≤ i ∧ i < m.length ∧ 0 ≤ k ∧ k < m.length ∧ 0 ≤ j ∧ j < m.length ∧ (at2 m i i > 0 ∨ timesF (at2 m i k) (at2 m k i) > 0 ∨ timesF (timesF (at2 m i k) (at2 m k j)) (at2 m j i) > 0)
noncomputable def cyc1 (m : List (List Int)) (x : Int × Bool × Bool) : Prop := 0 ≤ x.1 ∧ x.1 ≤ m.length ∧ (x.2.1 = false → rowsLow m x.1 0) ∧ (x.2.2 = true → posWalk m)
noncomputable def cyc2 (m : List (List Int)) (i : Int) (x : Int × Bool × Bool) : Prop := 0 ≤ x.1 ∧ x.1 ≤ m.length ∧ (x.2.1 = false → rowsLow m i x.1) ∧ (x.2.2 = true → posWalk m)
noncomputable def cyc3 (m : List (List Int)) (x : Int × Bool) : Prop := 0 ≤ x.1 ∧ x.1 ≤ m.length ∧ (x.2 = true → posWalk m)
noncomputable def p1 (x : Int × Bool × Bool) : Int := x.1
noncomputable def p2 (x : Int × Bool × Bool) : Bool := x.2.1
noncomputable def p3 (x : Int × Bool × Bool) : Bool := x.2.2
noncomputable def q1 (x : Int × Bool) : Int := x.1
noncomputable def q2 (x : Int × Bool) : Bool := x.2
noncomputable def powF (m : List (List Int)) (k : Int) : List (List Int) := foldN prodF (fun _ => sumF (oneF m.length) m) (oneF m.length) k.toNat
noncomputable def stepAt (m : List (List Int)) (p : List Int) (k : Int) : Int := (p.getD k.toNat 0).tmod m.length
noncomputable def wtN (m : List (List Int)) (p : List Int) : Nat → Int
  | 0 => 0
  | k + 1 => timesF (wtN m p k) (at2 m (stepAt m p k) (stepAt m p (k + 1)))
noncomputable def wtF (m : List (List Int)) (p : List Int) (k : Int) : Int := wtN m p (k - 1).toNat
noncomputable def wtTo (p : List Int) (k : Int) : Prop := 1 ≤ k ∧ k ≤ p.length
noncomputable def K12 : Kt := fun f args => match f, args with
  | 30, [.dat (.int .i64) x, .dat (.int .i64) y] => some ⟨timesP x y, .dat I (timesF x y)⟩
  | _, _ => K11 f args
noncomputable def c12 : Cfg := ⟨Try.prog, K12, fun _ => false⟩
noncomputable def cycA (m : List (List Int)) : Ann := ⟨fun id s => match id with
  | 8 => some { α := Int × Bool × Bool, inv := fun x => cyc1 m x, st := fun x => put s [(8, .dat I (p1 x)), (6, .dat .bool (p2 x)), (7, .dat .bool (p3 x))], μ := fun x => D.nat (D.sub (D.ilen m) (p1 x)) }
  | 11 => match s.sig.T 8 with
    | .dat (.int .i64) i => some { α := Int × Bool × Bool, inv := fun x => cyc2 m i x, st := fun x => put s [(9, .dat I (p1 x)), (6, .dat .bool (p2 x)), (7, .dat .bool (p3 x))], μ := fun x => D.nat (D.sub (D.ilen m) (p1 x)) }
    | _ => none
  | 15 => some { α := Int × Bool, inv := fun x => cyc3 m x, st := fun x => put s [(10, .dat I (q1 x)), (7, .dat .bool (q2 x))], μ := fun x => D.nat (D.sub (D.ilen m) (q1 x)) }
  | _ => none, fun _ _ => none, fun _ _ => none⟩
noncomputable def pathA (m : List (List Int)) (p : List Int) : Ann := ⟨fun id s => match id with
  | 12 => some { α := Int, inv := fun k => kTo k (D.ilen m), st := fun k => put s [(10, .dat I k), (8, .dat M (powF m k))], μ := fun k => D.nat (D.sub (D.ilen m) k) }
  | 21 => some { α := Int, inv := fun k => wtTo p k, st := fun k => put s [(12, .dat I k), (11, .dat I (wtF m p k))], μ := fun k => D.nat (D.sub (D.ilen p) k) }
  | _ => none, fun _ _ => none, fun _ _ => none⟩
theorem vc_Cycles (m : List (List Int)) (h :
     true = true ∧ true = true ∧ (True → True ∧ True ∧ (D.not (fineF m) = true → true = true ∧ True) ∧ (D.not (fineF m) = false → starP m ∧ (∃ x, cyc1 m x ∧
    m = m ∧ false = false ∧ true = true ∧ starS m = starS m ∧ starE m = starE m ∧ false = p2 x ∧ false = p3 x ∧ (0 : Int) = p1 x ∧ true = true ∧ m = m ∧ fineF m =
    fineF m ∧ D.not (fineF m) = D.not (fineF m) ∧ starS m = starS m ∧ starE m = starE m ∧ m = m ∧ starS m = starS m ∧ starE m = starE m ∧ starS m = starS m ∧ starE
    m = starE m ∧ True) ∧ ∀ (x : Int × Bool × Bool), cyc1 m x → (D.lt (p1 x) (D.ilen m) = true → (∃ x_3, cyc2 m (p1 x) x_3 ∧ m = m ∧ false = false ∧ true = true ∧
    starS m = starS m ∧ starE m = starE m ∧ p2 x = p2 x_3 ∧ p3 x = p3 x_3 ∧ p1 x = p1 x ∧ (0 : Int) = p1 x_3 ∧ true = true ∧ m = m ∧ fineF m = fineF m ∧ D.not
    (fineF m) = D.not (fineF m) ∧ starS m = starS m ∧ starE m = starE m ∧ m = m ∧ starS m = starS m ∧ starE m = starE m ∧ starS m = starS m ∧ starE m = starE m ∧ p1
    x = p1 x ∧ m = m ∧ D.ilen m = D.ilen m ∧ D.lt (p1 x) (D.ilen m) = D.lt (p1 x) (D.ilen m) ∧ True) ∧ ∀ (x_3 : Int × Bool × Bool), cyc2 m (p1 x) x_3 → (D.lt (p1
    x_3) (D.ilen m) = true → (D.not (p2 x_3) = true → D.not (p2 x_3) = true → D.not (p2 x_3) = true) ∧ (D.not (p2 x_3) = true → D.not (p2 x_3) = true → D.not (p2
    x_3) = true) ∧ (D.not (p2 x_3) = true → D.ile (0 : Int) (p1 x)) ∧ (D.not (p2 x_3) = true → D.ilt (p1 x) (D.ilen m)) ∧ (D.not (p2 x_3) = true → D.not (p2 x_3) =
    true → D.not (p2 x_3) = true) ∧ (D.not (p2 x_3) = true → D.not (p2 x_3) = true → D.not (p2 x_3) = true) ∧ (D.not (p2 x_3) = true → D.not (p2 x_3) = true → D.not
    (p2 x_3) = true) ∧ (D.not (p2 x_3) = true → D.ile (0 : Int) (p1 x_3)) ∧ (D.not (p2 x_3) = true → D.ilt (p1 x_3) (D.ilen (D.get m (D.nat (p1 x)) (D.nil Int)))) ∧
    (D.not (p2 x_3) = true → D.not (p2 x_3) = true → D.not (p2 x_3) = true) ∧ (D.not (p2 x_3) = true → D.not (p2 x_3) = true → D.not (p2 x_3) = true) ∧ (D.and true
    (D.not (p2 x_3)) = true → D.not (p2 x_3) = true) ∧ (∃ x_6, cyc3 m x_6 ∧ m = m ∧ false = false ∧ true = true ∧ starS m = starS m ∧ starE m = starE m ∧ D.cnd (p2
    x_3) true (D.gt (D.get (D.get m (D.nat (p1 x)) (D.nil Int)) (D.nat (p1 x_3)) (0 : Int)) (0 : Int)) = D.cnd (p2 x_3) true (D.gt (D.get (D.get m (D.nat (p1 x))
    (D.nil Int)) (D.nat (p1 x_3)) (0 : Int)) (0 : Int)) ∧ p3 x_3 = q2 x_6 ∧ p1 x = p1 x ∧ p1 x_3 = p1 x_3 ∧ (0 : Int) = q1 x_6 ∧ true = true ∧ m = m ∧ fineF m =
    fineF m ∧ D.not (fineF m) = D.not (fineF m) ∧ starS m = starS m ∧ starE m = starE m ∧ m = m ∧ starS m = starS m ∧ starE m = starE m ∧ starS m = starS m ∧ starE
    m = starE m ∧ p1 x = p1 x ∧ m = m ∧ D.ilen m = D.ilen m ∧ D.lt (p1 x) (D.ilen m) = D.lt (p1 x) (D.ilen m) ∧ p1 x_3 = p1 x_3 ∧ m = m ∧ D.ilen m = D.ilen m ∧ D.lt
    (p1 x_3) (D.ilen m) = D.lt (p1 x_3) (D.ilen m) ∧ p2 x_3 = p2 x_3 ∧ p2 x_3 = p2 x_3 ∧ D.cnd (p2 x_3) true (D.gt (D.get (D.get m (D.nat (p1 x)) (D.nil Int))
    (D.nat (p1 x_3)) (0 : Int)) (0 : Int)) = D.cnd (p2 x_3) true (D.gt (D.get (D.get m (D.nat (p1 x)) (D.nil Int)) (D.nat (p1 x_3)) (0 : Int)) (0 : Int)) ∧ True) ∧
    ∀ (x_6 : Int × Bool), cyc3 m x_6 → (D.lt (q1 x_6) (D.ilen m) = true → (D.not (q2 x_6) = true → D.not (q2 x_6) = true → D.not (q2 x_6) = true) ∧ (D.not (q2 x_6)
    = true → D.not (q2 x_6) = true → D.not (q2 x_6) = true) ∧ (D.not (q2 x_6) = true → D.ile (0 : Int) (p1 x)) ∧ (D.not (q2 x_6) = true → D.ilt (p1 x) (D.ilen m)) ∧
    (D.not (q2 x_6) = true → D.not (q2 x_6) = true → D.not (q2 x_6) = true) ∧ (D.not (q2 x_6) = true → D.not (q2 x_6) = true → D.not (q2 x_6) = true) ∧ (D.not (q2
    x_6) = true → D.not (q2 x_6) = true → D.not (q2 x_6) = true) ∧ (D.not (q2 x_6) = true → D.ile (0 : Int) (p1 x)) ∧ (D.not (q2 x_6) = true → D.ilt (p1 x) (D.ilen
    (D.get m (D.nat (p1 x)) (D.nil Int)))) ∧ (D.not (q2 x_6) = true → D.not (q2 x_6) = true → D.not (q2 x_6) = true) ∧ (D.not (q2 x_6) = true → D.not (q2 x_6) =
    true → D.not (q2 x_6) = true) ∧ (D.and true (D.not (q2 x_6)) = true → D.not (q2 x_6) = true) ∧ (D.not (D.cnd (q2 x_6) true (D.gt (D.get (D.get m (D.nat (p1 x))
    (D.nil Int)) (D.nat (p1 x)) (0 : Int)) (0 : Int))) = true → D.not (D.cnd (q2 x_6) true (D.gt (D.get (D.get m (D.nat (p1 x)) (D.nil Int)) (D.nat (p1 x)) (0 :
    Int)) (0 : Int))) = true → D.not (D.cnd (q2 x_6) true (D.gt (D.get (D.get m (D.nat (p1 x)) (D.nil Int)) (D.nat (p1 x)) (0 : Int)) (0 : Int))) = true) ∧ (D.not
    (D.cnd (q2 x_6) true (D.gt (D.get (D.get m (D.nat (p1 x)) (D.nil Int)) (D.nat (p1 x)) (0 : Int)) (0 : Int))) = true → D.not (D.cnd (q2 x_6) true (D.gt (D.get
    (D.get m (D.nat (p1 x)) (D.nil Int)) (D.nat (p1 x)) (0 : Int)) (0 : Int))) = true → D.not (D.cnd (q2 x_6) true (D.gt (D.get (D.get m (D.nat (p1 x)) (D.nil Int))
    (D.nat (p1 x)) (0 : Int)) (0 : Int))) = true) ∧ (D.not (D.cnd (q2 x_6) true (D.gt (D.get (D.get m (D.nat (p1 x)) (D.nil Int)) (D.nat (p1 x)) (0 : Int)) (0 :
    Int))) = true → D.ile (0 : Int) (p1 x)) ∧ (D.not (D.cnd (q2 x_6) true (D.gt (D.get (D.get m (D.nat (p1 x)) (D.nil Int)) (D.nat (p1 x)) (0 : Int)) (0 : Int))) =
    true → D.ilt (p1 x) (D.ilen m)) ∧ (D.not (D.cnd (q2 x_6) true (D.gt (D.get (D.get m (D.nat (p1 x)) (D.nil Int)) (D.nat (p1 x)) (0 : Int)) (0 : Int))) = true →
    D.not (D.cnd (q2 x_6) true (D.gt (D.get (D.get m (D.nat (p1 x)) (D.nil Int)) (D.nat (p1 x)) (0 : Int)) (0 : Int))) = true → D.not (D.cnd (q2 x_6) true (D.gt
    (D.get (D.get m (D.nat (p1 x)) (D.nil Int)) (D.nat (p1 x)) (0 : Int)) (0 : Int))) = true) ∧ (D.not (D.cnd (q2 x_6) true (D.gt (D.get (D.get m (D.nat (p1 x))
    (D.nil Int)) (D.nat (p1 x)) (0 : Int)) (0 : Int))) = true → D.not (D.cnd (q2 x_6) true (D.gt (D.get (D.get m (D.nat (p1 x)) (D.nil Int)) (D.nat (p1 x)) (0 :
    Int)) (0 : Int))) = true → D.not (D.cnd (q2 x_6) true (D.gt (D.get (D.get m (D.nat (p1 x)) (D.nil Int)) (D.nat (p1 x)) (0 : Int)) (0 : Int))) = true) ∧ (D.not
    (D.cnd (q2 x_6) true (D.gt (D.get (D.get m (D.nat (p1 x)) (D.nil Int)) (D.nat (p1 x)) (0 : Int)) (0 : Int))) = true → D.not (D.cnd (q2 x_6) true (D.gt (D.get
    (D.get m (D.nat (p1 x)) (D.nil Int)) (D.nat (p1 x)) (0 : Int)) (0 : Int))) = true → D.not (D.cnd (q2 x_6) true (D.gt (D.get (D.get m (D.nat (p1 x)) (D.nil Int))
    (D.nat (p1 x)) (0 : Int)) (0 : Int))) = true) ∧ (D.not (D.cnd (q2 x_6) true (D.gt (D.get (D.get m (D.nat (p1 x)) (D.nil Int)) (D.nat (p1 x)) (0 : Int)) (0 :
    Int))) = true → D.ile (0 : Int) (p1 x_3)) ∧ (D.not (D.cnd (q2 x_6) true (D.gt (D.get (D.get m (D.nat (p1 x)) (D.nil Int)) (D.nat (p1 x)) (0 : Int)) (0 : Int)))
    = true → D.ilt (p1 x_3) (D.ilen (D.get m (D.nat (p1 x)) (D.nil Int)))) ∧ (D.not (D.cnd (q2 x_6) true (D.gt (D.get (D.get m (D.nat (p1 x)) (D.nil Int)) (D.nat
    (p1 x)) (0 : Int)) (0 : Int))) = true → D.not (D.cnd (q2 x_6) true (D.gt (D.get (D.get m (D.nat (p1 x)) (D.nil Int)) (D.nat (p1 x)) (0 : Int)) (0 : Int))) =
    true → D.not (D.cnd (q2 x_6) true (D.gt (D.get (D.get m (D.nat (p1 x)) (D.nil Int)) (D.nat (p1 x)) (0 : Int)) (0 : Int))) = true) ∧ (D.not (D.cnd (q2 x_6) true
    (D.gt (D.get (D.get m (D.nat (p1 x)) (D.nil Int)) (D.nat (p1 x)) (0 : Int)) (0 : Int))) = true → D.not (D.cnd (q2 x_6) true (D.gt (D.get (D.get m (D.nat (p1 x))
    (D.nil Int)) (D.nat (p1 x)) (0 : Int)) (0 : Int))) = true → D.not (D.cnd (q2 x_6) true (D.gt (D.get (D.get m (D.nat (p1 x)) (D.nil Int)) (D.nat (p1 x)) (0 :
    Int)) (0 : Int))) = true) ∧ (D.not (D.cnd (q2 x_6) true (D.gt (D.get (D.get m (D.nat (p1 x)) (D.nil Int)) (D.nat (p1 x)) (0 : Int)) (0 : Int))) = true → D.not
    (D.cnd (q2 x_6) true (D.gt (D.get (D.get m (D.nat (p1 x)) (D.nil Int)) (D.nat (p1 x)) (0 : Int)) (0 : Int))) = true → D.not (D.cnd (q2 x_6) true (D.gt (D.get
    (D.get m (D.nat (p1 x)) (D.nil Int)) (D.nat (p1 x)) (0 : Int)) (0 : Int))) = true) ∧ (D.not (D.cnd (q2 x_6) true (D.gt (D.get (D.get m (D.nat (p1 x)) (D.nil
    Int)) (D.nat (p1 x)) (0 : Int)) (0 : Int))) = true → D.ile (0 : Int) (p1 x_3)) ∧ (D.not (D.cnd (q2 x_6) true (D.gt (D.get (D.get m (D.nat (p1 x)) (D.nil Int))
    (D.nat (p1 x)) (0 : Int)) (0 : Int))) = true → D.ilt (p1 x_3) (D.ilen m)) ∧ (D.not (D.cnd (q2 x_6) true (D.gt (D.get (D.get m (D.nat (p1 x)) (D.nil Int)) (D.nat
    (p1 x)) (0 : Int)) (0 : Int))) = true → D.not (D.cnd (q2 x_6) true (D.gt (D.get (D.get m (D.nat (p1 x)) (D.nil Int)) (D.nat (p1 x)) (0 : Int)) (0 : Int))) =
    true → D.not (D.cnd (q2 x_6) true (D.gt (D.get (D.get m (D.nat (p1 x)) (D.nil Int)) (D.nat (p1 x)) (0 : Int)) (0 : Int))) = true) ∧ (D.not (D.cnd (q2 x_6) true
    (D.gt (D.get (D.get m (D.nat (p1 x)) (D.nil Int)) (D.nat (p1 x)) (0 : Int)) (0 : Int))) = true → D.not (D.cnd (q2 x_6) true (D.gt (D.get (D.get m (D.nat (p1 x))
    (D.nil Int)) (D.nat (p1 x)) (0 : Int)) (0 : Int))) = true → D.not (D.cnd (q2 x_6) true (D.gt (D.get (D.get m (D.nat (p1 x)) (D.nil Int)) (D.nat (p1 x)) (0 :
    Int)) (0 : Int))) = true) ∧ (D.not (D.cnd (q2 x_6) true (D.gt (D.get (D.get m (D.nat (p1 x)) (D.nil Int)) (D.nat (p1 x)) (0 : Int)) (0 : Int))) = true → D.not
    (D.cnd (q2 x_6) true (D.gt (D.get (D.get m (D.nat (p1 x)) (D.nil Int)) (D.nat (p1 x)) (0 : Int)) (0 : Int))) = true → D.not (D.cnd (q2 x_6) true (D.gt (D.get
    (D.get m (D.nat (p1 x)) (D.nil Int)) (D.nat (p1 x)) (0 : Int)) (0 : Int))) = true) ∧ (D.not (D.cnd (q2 x_6) true (D.gt (D.get (D.get m (D.nat (p1 x)) (D.nil
    Int)) (D.nat (p1 x)) (0 : Int)) (0 : Int))) = true → D.ile (0 : Int) (p1 x)) ∧ (D.not (D.cnd (q2 x_6) true (D.gt (D.get (D.get m (D.nat (p1 x)) (D.nil Int))
    (D.nat (p1 x)) (0 : Int)) (0 : Int))) = true → D.ilt (p1 x) (D.ilen (D.get m (D.nat (p1 x_3)) (D.nil Int)))) ∧ (D.not (D.cnd (q2 x_6) true (D.gt (D.get (D.get m
    (D.nat (p1 x)) (D.nil Int)) (D.nat (p1 x)) (0 : Int)) (0 : Int))) = true → D.not (D.cnd (q2 x_6) true (D.gt (D.get (D.get m (D.nat (p1 x)) (D.nil Int)) (D.nat
    (p1 x)) (0 : Int)) (0 : Int))) = true → D.not (D.cnd (q2 x_6) true (D.gt (D.get (D.get m (D.nat (p1 x)) (D.nil Int)) (D.nat (p1 x)) (0 : Int)) (0 : Int))) =
    true) ∧ (D.not (D.cnd (q2 x_6) true (D.gt (D.get (D.get m (D.nat (p1 x)) (D.nil Int)) (D.nat (p1 x)) (0 : Int)) (0 : Int))) = true → D.not (D.cnd (q2 x_6) true
    (D.gt (D.get (D.get m (D.nat (p1 x)) (D.nil Int)) (D.nat (p1 x)) (0 : Int)) (0 : Int))) = true → D.not (D.cnd (q2 x_6) true (D.gt (D.get (D.get m (D.nat (p1 x))
    (D.nil Int)) (D.nat (p1 x)) (0 : Int)) (0 : Int))) = true) ∧ (D.not (D.cnd (q2 x_6) true (D.gt (D.get (D.get m (D.nat (p1 x)) (D.nil Int)) (D.nat (p1 x)) (0 :
    Int)) (0 : Int))) = true → D.not (D.cnd (q2 x_6) true (D.gt (D.get (D.get m (D.nat (p1 x)) (D.nil Int)) (D.nat (p1 x)) (0 : Int)) (0 : Int))) = true → D.not
    (D.cnd (q2 x_6) true (D.gt (D.get (D.get m (D.nat (p1 x)) (D.nil Int)) (D.nat (p1 x)) (0 : Int)) (0 : Int))) = true) ∧ (D.not (D.cnd (q2 x_6) true (D.gt (D.get
    (D.get m (D.nat (p1 x)) (D.nil Int)) (D.nat (p1 x)) (0 : Int)) (0 : Int))) = true → timesP (D.get (D.get m (D.nat (p1 x)) (D.nil Int)) (D.nat (p1 x_3)) (0 :
    Int)) (D.get (D.get m (D.nat (p1 x_3)) (D.nil Int)) (D.nat (p1 x)) (0 : Int))) ∧ (D.not (D.cnd (q2 x_6) true (D.gt (D.get (D.get m (D.nat (p1 x)) (D.nil Int))
    (D.nat (p1 x)) (0 : Int)) (0 : Int))) = true → D.not (D.cnd (q2 x_6) true (D.gt (D.get (D.get m (D.nat (p1 x)) (D.nil Int)) (D.nat (p1 x)) (0 : Int)) (0 :
    Int))) = true → D.not (D.cnd (q2 x_6) true (D.gt (D.get (D.get m (D.nat (p1 x)) (D.nil Int)) (D.nat (p1 x)) (0 : Int)) (0 : Int))) = true) ∧ (D.and true (D.not
    (D.cnd (q2 x_6) true (D.gt (D.get (D.get m (D.nat (p1 x)) (D.nil Int)) (D.nat (p1 x)) (0 : Int)) (0 : Int)))) = true → D.not (D.cnd (q2 x_6) true (D.gt (D.get
    (D.get m (D.nat (p1 x)) (D.nil Int)) (D.nat (p1 x)) (0 : Int)) (0 : Int))) = true) ∧ (D.not (D.cnd (D.cnd (q2 x_6) true (D.gt (D.get (D.get m (D.nat (p1 x))
    (D.nil Int)) (D.nat (p1 x)) (0 : Int)) (0 : Int))) true (D.gt (timesF (D.get (D.get m (D.nat (p1 x)) (D.nil Int)) (D.nat (p1 x_3)) (0 : Int)) (D.get (D.get m
    (D.nat (p1 x_3)) (D.nil Int)) (D.nat (p1 x)) (0 : Int))) (0 : Int))) = true → D.not (D.cnd (D.cnd (q2 x_6) true (D.gt (D.get (D.get m (D.nat (p1 x)) (D.nil
    Int)) (D.nat (p1 x)) (0 : Int)) (0 : Int))) true (D.gt (timesF (D.get (D.get m (D.nat (p1 x)) (D.nil Int)) (D.nat (p1 x_3)) (0 : Int)) (D.get (D.get m (D.nat
    (p1 x_3)) (D.nil Int)) (D.nat (p1 x)) (0 : Int))) (0 : Int))) = true → D.not (D.cnd (D.cnd (q2 x_6) true (D.gt (D.get (D.get m (D.nat (p1 x)) (D.nil Int))
    (D.nat (p1 x)) (0 : Int)) (0 : Int))) true (D.gt (timesF (D.get (D.get m (D.nat (p1 x)) (D.nil Int)) (D.nat (p1 x_3)) (0 : Int)) (D.get (D.get m (D.nat (p1
    x_3)) (D.nil Int)) (D.nat (p1 x)) (0 : Int))) (0 : Int))) = true) ∧ (D.not (D.cnd (D.cnd (q2 x_6) true (D.gt (D.get (D.get m (D.nat (p1 x)) (D.nil Int)) (D.nat
    (p1 x)) (0 : Int)) (0 : Int))) true (D.gt (timesF (D.get (D.get m (D.nat (p1 x)) (D.nil Int)) (D.nat (p1 x_3)) (0 : Int)) (D.get (D.get m (D.nat (p1 x_3))
    (D.nil Int)) (D.nat (p1 x)) (0 : Int))) (0 : Int))) = true → D.not (D.cnd (D.cnd (q2 x_6) true (D.gt (D.get (D.get m (D.nat (p1 x)) (D.nil Int)) (D.nat (p1 x))
    (0 : Int)) (0 : Int))) true (D.gt (timesF (D.get (D.get m (D.nat (p1 x)) (D.nil Int)) (D.nat (p1 x_3)) (0 : Int)) (D.get (D.get m (D.nat (p1 x_3)) (D.nil Int))
    (D.nat (p1 x)) (0 : Int))) (0 : Int))) = true → D.not (D.cnd (D.cnd (q2 x_6) true (D.gt (D.get (D.get m (D.nat (p1 x)) (D.nil Int)) (D.nat (p1 x)) (0 : Int)) (0
    : Int))) true (D.gt (timesF (D.get (D.get m (D.nat (p1 x)) (D.nil Int)) (D.nat (p1 x_3)) (0 : Int)) (D.get (D.get m (D.nat (p1 x_3)) (D.nil Int)) (D.nat (p1 x))
    (0 : Int))) (0 : Int))) = true) ∧ (D.not (D.cnd (D.cnd (q2 x_6) true (D.gt (D.get (D.get m (D.nat (p1 x)) (D.nil Int)) (D.nat (p1 x)) (0 : Int)) (0 : Int)))
    true (D.gt (timesF (D.get (D.get m (D.nat (p1 x)) (D.nil Int)) (D.nat (p1 x_3)) (0 : Int)) (D.get (D.get m (D.nat (p1 x_3)) (D.nil Int)) (D.nat (p1 x)) (0 :
    Int))) (0 : Int))) = true → D.ile (0 : Int) (p1 x)) ∧ (D.not (D.cnd (D.cnd (q2 x_6) true (D.gt (D.get (D.get m (D.nat (p1 x)) (D.nil Int)) (D.nat (p1 x)) (0 :
    Int)) (0 : Int))) true (D.gt (timesF (D.get (D.get m (D.nat (p1 x)) (D.nil Int)) (D.nat (p1 x_3)) (0 : Int)) (D.get (D.get m (D.nat (p1 x_3)) (D.nil Int))
    (D.nat (p1 x)) (0 : Int))) (0 : Int))) = true → D.ilt (p1 x) (D.ilen m)) ∧ (D.not (D.cnd (D.cnd (q2 x_6) true (D.gt (D.get (D.get m (D.nat (p1 x)) (D.nil Int))
    (D.nat (p1 x)) (0 : Int)) (0 : Int))) true (D.gt (timesF (D.get (D.get m (D.nat (p1 x)) (D.nil Int)) (D.nat (p1 x_3)) (0 : Int)) (D.get (D.get m (D.nat (p1
    x_3)) (D.nil Int)) (D.nat (p1 x)) (0 : Int))) (0 : Int))) = true → D.not (D.cnd (D.cnd (q2 x_6) true (D.gt (D.get (D.get m (D.nat (p1 x)) (D.nil Int)) (D.nat
    (p1 x)) (0 : Int)) (0 : Int))) true (D.gt (timesF (D.get (D.get m (D.nat (p1 x)) (D.nil Int)) (D.nat (p1 x_3)) (0 : Int)) (D.get (D.get m (D.nat (p1 x_3))
    (D.nil Int)) (D.nat (p1 x)) (0 : Int))) (0 : Int))) = true → D.not (D.cnd (D.cnd (q2 x_6) true (D.gt (D.get (D.get m (D.nat (p1 x)) (D.nil Int)) (D.nat (p1 x))
    (0 : Int)) (0 : Int))) true (D.gt (timesF (D.get (D.get m (D.nat (p1 x)) (D.nil Int)) (D.nat (p1 x_3)) (0 : Int)) (D.get (D.get m (D.nat (p1 x_3)) (D.nil Int))
    (D.nat (p1 x)) (0 : Int))) (0 : Int))) = true) ∧ (D.not (D.cnd (D.cnd (q2 x_6) true (D.gt (D.get (D.get m (D.nat (p1 x)) (D.nil Int)) (D.nat (p1 x)) (0 : Int))
    (0 : Int))) true (D.gt (timesF (D.get (D.get m (D.nat (p1 x)) (D.nil Int)) (D.nat (p1 x_3)) (0 : Int)) (D.get (D.get m (D.nat (p1 x_3)) (D.nil Int)) (D.nat (p1
    x)) (0 : Int))) (0 : Int))) = true → D.not (D.cnd (D.cnd (q2 x_6) true (D.gt (D.get (D.get m (D.nat (p1 x)) (D.nil Int)) (D.nat (p1 x)) (0 : Int)) (0 : Int)))
    true (D.gt (timesF (D.get (D.get m (D.nat (p1 x)) (D.nil Int)) (D.nat (p1 x_3)) (0 : Int)) (D.get (D.get m (D.nat (p1 x_3)) (D.nil Int)) (D.nat (p1 x)) (0 :
    Int))) (0 : Int))) = true → D.not (D.cnd (D.cnd (q2 x_6) true (D.gt (D.get (D.get m (D.nat (p1 x)) (D.nil Int)) (D.nat (p1 x)) (0 : Int)) (0 : Int))) true (D.gt
    (timesF (D.get (D.get m (D.nat (p1 x)) (D.nil Int)) (D.nat (p1 x_3)) (0 : Int)) (D.get (D.get m (D.nat (p1 x_3)) (D.nil Int)) (D.nat (p1 x)) (0 : Int))) (0 :
    Int))) = true) ∧ (D.not (D.cnd (D.cnd (q2 x_6) true (D.gt (D.get (D.get m (D.nat (p1 x)) (D.nil Int)) (D.nat (p1 x)) (0 : Int)) (0 : Int))) true (D.gt (timesF
    (D.get (D.get m (D.nat (p1 x)) (D.nil Int)) (D.nat (p1 x_3)) (0 : Int)) (D.get (D.get m (D.nat (p1 x_3)) (D.nil Int)) (D.nat (p1 x)) (0 : Int))) (0 : Int))) =
    true → D.not (D.cnd (D.cnd (q2 x_6) true (D.gt (D.get (D.get m (D.nat (p1 x)) (D.nil Int)) (D.nat (p1 x)) (0 : Int)) (0 : Int))) true (D.gt (timesF (D.get
    (D.get m (D.nat (p1 x)) (D.nil Int)) (D.nat (p1 x_3)) (0 : Int)) (D.get (D.get m (D.nat (p1 x_3)) (D.nil Int)) (D.nat (p1 x)) (0 : Int))) (0 : Int))) = true →
    D.not (D.cnd (D.cnd (q2 x_6) true (D.gt (D.get (D.get m (D.nat (p1 x)) (D.nil Int)) (D.nat (p1 x)) (0 : Int)) (0 : Int))) true (D.gt (timesF (D.get (D.get m
    (D.nat (p1 x)) (D.nil Int)) (D.nat (p1 x_3)) (0 : Int)) (D.get (D.get m (D.nat (p1 x_3)) (D.nil Int)) (D.nat (p1 x)) (0 : Int))) (0 : Int))) = true) ∧ (D.not
    (D.cnd (D.cnd (q2 x_6) true (D.gt (D.get (D.get m (D.nat (p1 x)) (D.nil Int)) (D.nat (p1 x)) (0 : Int)) (0 : Int))) true (D.gt (timesF (D.get (D.get m (D.nat
    (p1 x)) (D.nil Int)) (D.nat (p1 x_3)) (0 : Int)) (D.get (D.get m (D.nat (p1 x_3)) (D.nil Int)) (D.nat (p1 x)) (0 : Int))) (0 : Int))) = true → D.ile (0 : Int)
    (p1 x_3)) ∧ (D.not (D.cnd (D.cnd (q2 x_6) true (D.gt (D.get (D.get m (D.nat (p1 x)) (D.nil Int)) (D.nat (p1 x)) (0 : Int)) (0 : Int))) true (D.gt (timesF (D.get
    (D.get m (D.nat (p1 x)) (D.nil Int)) (D.nat (p1 x_3)) (0 : Int)) (D.get (D.get m (D.nat (p1 x_3)) (D.nil Int)) (D.nat (p1 x)) (0 : Int))) (0 : Int))) = true →
    D.ilt (p1 x_3) (D.ilen (D.get m (D.nat (p1 x)) (D.nil Int)))) ∧ (D.not (D.cnd (D.cnd (q2 x_6) true (D.gt (D.get (D.get m (D.nat (p1 x)) (D.nil Int)) (D.nat (p1
    x)) (0 : Int)) (0 : Int))) true (D.gt (timesF (D.get (D.get m (D.nat (p1 x)) (D.nil Int)) (D.nat (p1 x_3)) (0 : Int)) (D.get (D.get m (D.nat (p1 x_3)) (D.nil
    Int)) (D.nat (p1 x)) (0 : Int))) (0 : Int))) = true → D.not (D.cnd (D.cnd (q2 x_6) true (D.gt (D.get (D.get m (D.nat (p1 x)) (D.nil Int)) (D.nat (p1 x)) (0 :
    Int)) (0 : Int))) true (D.gt (timesF (D.get (D.get m (D.nat (p1 x)) (D.nil Int)) (D.nat (p1 x_3)) (0 : Int)) (D.get (D.get m (D.nat (p1 x_3)) (D.nil Int))
    (D.nat (p1 x)) (0 : Int))) (0 : Int))) = true → D.not (D.cnd (D.cnd (q2 x_6) true (D.gt (D.get (D.get m (D.nat (p1 x)) (D.nil Int)) (D.nat (p1 x)) (0 : Int)) (0
    : Int))) true (D.gt (timesF (D.get (D.get m (D.nat (p1 x)) (D.nil Int)) (D.nat (p1 x_3)) (0 : Int)) (D.get (D.get m (D.nat (p1 x_3)) (D.nil Int)) (D.nat (p1 x))
    (0 : Int))) (0 : Int))) = true) ∧ (D.not (D.cnd (D.cnd (q2 x_6) true (D.gt (D.get (D.get m (D.nat (p1 x)) (D.nil Int)) (D.nat (p1 x)) (0 : Int)) (0 : Int)))
    true (D.gt (timesF (D.get (D.get m (D.nat (p1 x)) (D.nil Int)) (D.nat (p1 x_3)) (0 : Int)) (D.get (D.get m (D.nat (p1 x_3)) (D.nil Int)) (D.nat (p1 x)) (0 :
    Int))) (0 : Int))) = true → D.not (D.cnd (D.cnd (q2 x_6) true (D.gt (D.get (D.get m (D.nat (p1 x)) (D.nil Int)) (D.nat (p1 x)) (0 : Int)) (0 : Int))) true (D.gt
    (timesF (D.get (D.get m (D.nat (p1 x)) (D.nil Int)) (D.nat (p1 x_3)) (0 : Int)) (D.get (D.get m (D.nat (p1 x_3)) (D.nil Int)) (D.nat (p1 x)) (0 : Int))) (0 :
    Int))) = true → D.not (D.cnd (D.cnd (q2 x_6) true (D.gt (D.get (D.get m (D.nat (p1 x)) (D.nil Int)) (D.nat (p1 x)) (0 : Int)) (0 : Int))) true (D.gt (timesF
    (D.get (D.get m (D.nat (p1 x)) (D.nil Int)) (D.nat (p1 x_3)) (0 : Int)) (D.get (D.get m (D.nat (p1 x_3)) (D.nil Int)) (D.nat (p1 x)) (0 : Int))) (0 : Int))) =
    true) ∧ (D.not (D.cnd (D.cnd (q2 x_6) true (D.gt (D.get (D.get m (D.nat (p1 x)) (D.nil Int)) (D.nat (p1 x)) (0 : Int)) (0 : Int))) true (D.gt (timesF (D.get
    (D.get m (D.nat (p1 x)) (D.nil Int)) (D.nat (p1 x_3)) (0 : Int)) (D.get (D.get m (D.nat (p1 x_3)) (D.nil Int)) (D.nat (p1 x)) (0 : Int))) (0 : Int))) = true →
    D.not (D.cnd (D.cnd (q2 x_6) true (D.gt (D.get (D.get m (D.nat (p1 x)) (D.nil Int)) (D.nat (p1 x)) (0 : Int)) (0 : Int))) true (D.gt (timesF (D.get (D.get m
    (D.nat (p1 x)) (D.nil Int)) (D.nat (p1 x_3)) (0 : Int)) (D.get (D.get m (D.nat (p1 x_3)) (D.nil Int)) (D.nat (p1 x)) (0 : Int))) (0 : Int))) = true → D.not
    (D.cnd (D.cnd (q2 x_6) true (D.gt (D.get (D.get m (D.nat (p1 x)) (D.nil Int)) (D.nat (p1 x)) (0 : Int)) (0 : Int))) true (D.gt (timesF (D.get (D.get m (D.nat
    (p1 x)) (D.nil Int)) (D.nat (p1 x_3)) (0 : Int)) (D.get (D.get m (D.nat (p1 x_3)) (D.nil Int)) (D.nat (p1 x)) (0 : Int))) (0 : Int))) = true) ∧ (D.not (D.cnd
    (D.cnd (q2 x_6) true (D.gt (D.get (D.get m (D.nat (p1 x)) (D.nil Int)) (D.nat (p1 x)) (0 : Int)) (0 : Int))) true (D.gt (timesF (D.get (D.get m (D.nat (p1 x))
    (D.nil Int)) (D.nat (p1 x_3)) (0 : Int)) (D.get (D.get m (D.nat (p1 x_3)) (D.nil Int)) (D.nat (p1 x)) (0 : Int))) (0 : Int))) = true → D.ile (0 : Int) (p1 x_3))
    ∧ (D.not (D.cnd (D.cnd (q2 x_6) true (D.gt (D.get (D.get m (D.nat (p1 x)) (D.nil Int)) (D.nat (p1 x)) (0 : Int)) (0 : Int))) true (D.gt (timesF (D.get (D.get m
    (D.nat (p1 x)) (D.nil Int)) (D.nat (p1 x_3)) (0 : Int)) (D.get (D.get m (D.nat (p1 x_3)) (D.nil Int)) (D.nat (p1 x)) (0 : Int))) (0 : Int))) = true → D.ilt (p1
    x_3) (D.ilen m)) ∧ (D.not (D.cnd (D.cnd (q2 x_6) true (D.gt (D.get (D.get m (D.nat (p1 x)) (D.nil Int)) (D.nat (p1 x)) (0 : Int)) (0 : Int))) true (D.gt (timesF
    (D.get (D.get m (D.nat (p1 x)) (D.nil Int)) (D.nat (p1 x_3)) (0 : Int)) (D.get (D.get m (D.nat (p1 x_3)) (D.nil Int)) (D.nat (p1 x)) (0 : Int))) (0 : Int))) =
    true → D.not (D.cnd (D.cnd (q2 x_6) true (D.gt (D.get (D.get m (D.nat (p1 x)) (D.nil Int)) (D.nat (p1 x)) (0 : Int)) (0 : Int))) true (D.gt (timesF (D.get
    (D.get m (D.nat (p1 x)) (D.nil Int)) (D.nat (p1 x_3)) (0 : Int)) (D.get (D.get m (D.nat (p1 x_3)) (D.nil Int)) (D.nat (p1 x)) (0 : Int))) (0 : Int))) = true →
    D.not (D.cnd (D.cnd (q2 x_6) true (D.gt (D.get (D.get m (D.nat (p1 x)) (D.nil Int)) (D.nat (p1 x)) (0 : Int)) (0 : Int))) true (D.gt (timesF (D.get (D.get m
    (D.nat (p1 x)) (D.nil Int)) (D.nat (p1 x_3)) (0 : Int)) (D.get (D.get m (D.nat (p1 x_3)) (D.nil Int)) (D.nat (p1 x)) (0 : Int))) (0 : Int))) = true) ∧ (D.not
    (D.cnd (D.cnd (q2 x_6) true (D.gt (D.get (D.get m (D.nat (p1 x)) (D.nil Int)) (D.nat (p1 x)) (0 : Int)) (0 : Int))) true (D.gt (timesF (D.get (D.get m (D.nat
    (p1 x)) (D.nil Int)) (D.nat (p1 x_3)) (0 : Int)) (D.get (D.get m (D.nat (p1 x_3)) (D.nil Int)) (D.nat (p1 x)) (0 : Int))) (0 : Int))) = true → D.not (D.cnd
    (D.cnd (q2 x_6) true (D.gt (D.get (D.get m (D.nat (p1 x)) (D.nil Int)) (D.nat (p1 x)) (0 : Int)) (0 : Int))) true (D.gt (timesF (D.get (D.get m (D.nat (p1 x))
    (D.nil Int)) (D.nat (p1 x_3)) (0 : Int)) (D.get (D.get m (D.nat (p1 x_3)) (D.nil Int)) (D.nat (p1 x)) (0 : Int))) (0 : Int))) = true → D.not (D.cnd (D.cnd (q2
    x_6) true (D.gt (D.get (D.get m (D.nat (p1 x)) (D.nil Int)) (D.nat (p1 x)) (0 : Int)) (0 : Int))) true (D.gt (timesF (D.get (D.get m (D.nat (p1 x)) (D.nil Int))
    (D.nat (p1 x_3)) (0 : Int)) (D.get (D.get m (D.nat (p1 x_3)) (D.nil Int)) (D.nat (p1 x)) (0 : Int))) (0 : Int))) = true) ∧ (D.not (D.cnd (D.cnd (q2 x_6) true
    (D.gt (D.get (D.get m (D.nat (p1 x)) (D.nil Int)) (D.nat (p1 x)) (0 : Int)) (0 : Int))) true (D.gt (timesF (D.get (D.get m (D.nat (p1 x)) (D.nil Int)) (D.nat
    (p1 x_3)) (0 : Int)) (D.get (D.get m (D.nat (p1 x_3)) (D.nil Int)) (D.nat (p1 x)) (0 : Int))) (0 : Int))) = true → D.not (D.cnd (D.cnd (q2 x_6) true (D.gt
    (D.get (D.get m (D.nat (p1 x)) (D.nil Int)) (D.nat (p1 x)) (0 : Int)) (0 : Int))) true (D.gt (timesF (D.get (D.get m (D.nat (p1 x)) (D.nil Int)) (D.nat (p1
    x_3)) (0 : Int)) (D.get (D.get m (D.nat (p1 x_3)) (D.nil Int)) (D.nat (p1 x)) (0 : Int))) (0 : Int))) = true → D.not (D.cnd (D.cnd (q2 x_6) true (D.gt (D.get
    (D.get m (D.nat (p1 x)) (D.nil Int)) (D.nat (p1 x)) (0 : Int)) (0 : Int))) true (D.gt (timesF (D.get (D.get m (D.nat (p1 x)) (D.nil Int)) (D.nat (p1 x_3)) (0 :
    Int)) (D.get (D.get m (D.nat (p1 x_3)) (D.nil Int)) (D.nat (p1 x)) (0 : Int))) (0 : Int))) = true) ∧ (D.not (D.cnd (D.cnd (q2 x_6) true (D.gt (D.get (D.get m
    (D.nat (p1 x)) (D.nil Int)) (D.nat (p1 x)) (0 : Int)) (0 : Int))) true (D.gt (timesF (D.get (D.get m (D.nat (p1 x)) (D.nil Int)) (D.nat (p1 x_3)) (0 : Int))
    (D.get (D.get m (D.nat (p1 x_3)) (D.nil Int)) (D.nat (p1 x)) (0 : Int))) (0 : Int))) = true → D.ile (0 : Int) (q1 x_6)) ∧ (D.not (D.cnd (D.cnd (q2 x_6) true
    (D.gt (D.get (D.get m (D.nat (p1 x)) (D.nil Int)) (D.nat (p1 x)) (0 : Int)) (0 : Int))) true (D.gt (timesF (D.get (D.get m (D.nat (p1 x)) (D.nil Int)) (D.nat
    (p1 x_3)) (0 : Int)) (D.get (D.get m (D.nat (p1 x_3)) (D.nil Int)) (D.nat (p1 x)) (0 : Int))) (0 : Int))) = true → D.ilt (q1 x_6) (D.ilen (D.get m (D.nat (p1
    x_3)) (D.nil Int)))) ∧ (D.not (D.cnd (D.cnd (q2 x_6) true (D.gt (D.get (D.get m (D.nat (p1 x)) (D.nil Int)) (D.nat (p1 x)) (0 : Int)) (0 : Int))) true (D.gt
    (timesF (D.get (D.get m (D.nat (p1 x)) (D.nil Int)) (D.nat (p1 x_3)) (0 : Int)) (D.get (D.get m (D.nat (p1 x_3)) (D.nil Int)) (D.nat (p1 x)) (0 : Int))) (0 :
    Int))) = true → D.not (D.cnd (D.cnd (q2 x_6) true (D.gt (D.get (D.get m (D.nat (p1 x)) (D.nil Int)) (D.nat (p1 x)) (0 : Int)) (0 : Int))) true (D.gt (timesF
    (D.get (D.get m (D.nat (p1 x)) (D.nil Int)) (D.nat (p1 x_3)) (0 : Int)) (D.get (D.get m (D.nat (p1 x_3)) (D.nil Int)) (D.nat (p1 x)) (0 : Int))) (0 : Int))) =
    true → D.not (D.cnd (D.cnd (q2 x_6) true (D.gt (D.get (D.get m (D.nat (p1 x)) (D.nil Int)) (D.nat (p1 x)) (0 : Int)) (0 : Int))) true (D.gt (timesF (D.get
    (D.get m (D.nat (p1 x)) (D.nil Int)) (D.nat (p1 x_3)) (0 : Int)) (D.get (D.get m (D.nat (p1 x_3)) (D.nil Int)) (D.nat (p1 x)) (0 : Int))) (0 : Int))) = true) ∧
    (D.not (D.cnd (D.cnd (q2 x_6) true (D.gt (D.get (D.get m (D.nat (p1 x)) (D.nil Int)) (D.nat (p1 x)) (0 : Int)) (0 : Int))) true (D.gt (timesF (D.get (D.get m
    (D.nat (p1 x)) (D.nil Int)) (D.nat (p1 x_3)) (0 : Int)) (D.get (D.get m (D.nat (p1 x_3)) (D.nil Int)) (D.nat (p1 x)) (0 : Int))) (0 : Int))) = true → D.not
    (D.cnd (D.cnd (q2 x_6) true (D.gt (D.get (D.get m (D.nat (p1 x)) (D.nil Int)) (D.nat (p1 x)) (0 : Int)) (0 : Int))) true (D.gt (timesF (D.get (D.get m (D.nat
    (p1 x)) (D.nil Int)) (D.nat (p1 x_3)) (0 : Int)) (D.get (D.get m (D.nat (p1 x_3)) (D.nil Int)) (D.nat (p1 x)) (0 : Int))) (0 : Int))) = true → D.not (D.cnd
    (D.cnd (q2 x_6) true (D.gt (D.get (D.get m (D.nat (p1 x)) (D.nil Int)) (D.nat (p1 x)) (0 : Int)) (0 : Int))) true (D.gt (timesF (D.get (D.get m (D.nat (p1 x))
    (D.nil Int)) (D.nat (p1 x_3)) (0 : Int)) (D.get (D.get m (D.nat (p1 x_3)) (D.nil Int)) (D.nat (p1 x)) (0 : Int))) (0 : Int))) = true) ∧ (D.not (D.cnd (D.cnd (q2
    x_6) true (D.gt (D.get (D.get m (D.nat (p1 x)) (D.nil Int)) (D.nat (p1 x)) (0 : Int)) (0 : Int))) true (D.gt (timesF (D.get (D.get m (D.nat (p1 x)) (D.nil Int))
    (D.nat (p1 x_3)) (0 : Int)) (D.get (D.get m (D.nat (p1 x_3)) (D.nil Int)) (D.nat (p1 x)) (0 : Int))) (0 : Int))) = true → D.not (D.cnd (D.cnd (q2 x_6) true
    (D.gt (D.get (D.get m (D.nat (p1 x)) (D.nil Int)) (D.nat (p1 x)) (0 : Int)) (0 : Int))) true (D.gt (timesF (D.get (D.get m (D.nat (p1 x)) (D.nil Int)) (D.nat
    (p1 x_3)) (0 : Int)) (D.get (D.get m (D.nat (p1 x_3)) (D.nil Int)) (D.nat (p1 x)) (0 : Int))) (0 : Int))) = true → D.not (D.cnd (D.cnd (q2 x_6) true (D.gt
    (D.get (D.get m (D.nat (p1 x)) (D.nil Int)) (D.nat (p1 x)) (0 : Int)) (0 : Int))) true (D.gt (timesF (D.get (D.get m (D.nat (p1 x)) (D.nil Int)) (D.nat (p1
    x_3)) (0 : Int)) (D.get (D.get m (D.nat (p1 x_3)) (D.nil Int)) (D.nat (p1 x)) (0 : Int))) (0 : Int))) = true) ∧ (D.not (D.cnd (D.cnd (q2 x_6) true (D.gt (D.get
    (D.get m (D.nat (p1 x)) (D.nil Int)) (D.nat (p1 x)) (0 : Int)) (0 : Int))) true (D.gt (timesF (D.get (D.get m (D.nat (p1 x)) (D.nil Int)) (D.nat (p1 x_3)) (0 :
    Int)) (D.get (D.get m (D.nat (p1 x_3)) (D.nil Int)) (D.nat (p1 x)) (0 : Int))) (0 : Int))) = true → timesP (D.get (D.get m (D.nat (p1 x)) (D.nil Int)) (D.nat
    (p1 x_3)) (0 : Int)) (D.get (D.get m (D.nat (p1 x_3)) (D.nil Int)) (D.nat (q1 x_6)) (0 : Int))) ∧ (D.not (D.cnd (D.cnd (q2 x_6) true (D.gt (D.get (D.get m
    (D.nat (p1 x)) (D.nil Int)) (D.nat (p1 x)) (0 : Int)) (0 : Int))) true (D.gt (timesF (D.get (D.get m (D.nat (p1 x)) (D.nil Int)) (D.nat (p1 x_3)) (0 : Int))
    (D.get (D.get m (D.nat (p1 x_3)) (D.nil Int)) (D.nat (p1 x)) (0 : Int))) (0 : Int))) = true → D.not (D.cnd (D.cnd (q2 x_6) true (D.gt (D.get (D.get m (D.nat (p1
    x)) (D.nil Int)) (D.nat (p1 x)) (0 : Int)) (0 : Int))) true (D.gt (timesF (D.get (D.get m (D.nat (p1 x)) (D.nil Int)) (D.nat (p1 x_3)) (0 : Int)) (D.get (D.get
    m (D.nat (p1 x_3)) (D.nil Int)) (D.nat (p1 x)) (0 : Int))) (0 : Int))) = true → D.not (D.cnd (D.cnd (q2 x_6) true (D.gt (D.get (D.get m (D.nat (p1 x)) (D.nil
    Int)) (D.nat (p1 x)) (0 : Int)) (0 : Int))) true (D.gt (timesF (D.get (D.get m (D.nat (p1 x)) (D.nil Int)) (D.nat (p1 x_3)) (0 : Int)) (D.get (D.get m (D.nat
    (p1 x_3)) (D.nil Int)) (D.nat (p1 x)) (0 : Int))) (0 : Int))) = true) ∧ (D.not (D.cnd (D.cnd (q2 x_6) true (D.gt (D.get (D.get m (D.nat (p1 x)) (D.nil Int))
    (D.nat (p1 x)) (0 : Int)) (0 : Int))) true (D.gt (timesF (D.get (D.get m (D.nat (p1 x)) (D.nil Int)) (D.nat (p1 x_3)) (0 : Int)) (D.get (D.get m (D.nat (p1
    x_3)) (D.nil Int)) (D.nat (p1 x)) (0 : Int))) (0 : Int))) = true → D.not (D.cnd (D.cnd (q2 x_6) true (D.gt (D.get (D.get m (D.nat (p1 x)) (D.nil Int)) (D.nat
    (p1 x)) (0 : Int)) (0 : Int))) true (D.gt (timesF (D.get (D.get m (D.nat (p1 x)) (D.nil Int)) (D.nat (p1 x_3)) (0 : Int)) (D.get (D.get m (D.nat (p1 x_3))
    (D.nil Int)) (D.nat (p1 x)) (0 : Int))) (0 : Int))) = true → D.not (D.cnd (D.cnd (q2 x_6) true (D.gt (D.get (D.get m (D.nat (p1 x)) (D.nil Int)) (D.nat (p1 x))
    (0 : Int)) (0 : Int))) true (D.gt (timesF (D.get (D.get m (D.nat (p1 x)) (D.nil Int)) (D.nat (p1 x_3)) (0 : Int)) (D.get (D.get m (D.nat (p1 x_3)) (D.nil Int))
    (D.nat (p1 x)) (0 : Int))) (0 : Int))) = true) ∧ (D.not (D.cnd (D.cnd (q2 x_6) true (D.gt (D.get (D.get m (D.nat (p1 x)) (D.nil Int)) (D.nat (p1 x)) (0 : Int))
    (0 : Int))) true (D.gt (timesF (D.get (D.get m (D.nat (p1 x)) (D.nil Int)) (D.nat (p1 x_3)) (0 : Int)) (D.get (D.get m (D.nat (p1 x_3)) (D.nil Int)) (D.nat (p1
    x)) (0 : Int))) (0 : Int))) = true → D.ile (0 : Int) (q1 x_6)) ∧ (D.not (D.cnd (D.cnd (q2 x_6) true (D.gt (D.get (D.get m (D.nat (p1 x)) (D.nil Int)) (D.nat (p1
    x)) (0 : Int)) (0 : Int))) true (D.gt (timesF (D.get (D.get m (D.nat (p1 x)) (D.nil Int)) (D.nat (p1 x_3)) (0 : Int)) (D.get (D.get m (D.nat (p1 x_3)) (D.nil
    Int)) (D.nat (p1 x)) (0 : Int))) (0 : Int))) = true → D.ilt (q1 x_6) (D.ilen m)) ∧ (D.not (D.cnd (D.cnd (q2 x_6) true (D.gt (D.get (D.get m (D.nat (p1 x))
    (D.nil Int)) (D.nat (p1 x)) (0 : Int)) (0 : Int))) true (D.gt (timesF (D.get (D.get m (D.nat (p1 x)) (D.nil Int)) (D.nat (p1 x_3)) (0 : Int)) (D.get (D.get m
    (D.nat (p1 x_3)) (D.nil Int)) (D.nat (p1 x)) (0 : Int))) (0 : Int))) = true → D.not (D.cnd (D.cnd (q2 x_6) true (D.gt (D.get (D.get m (D.nat (p1 x)) (D.nil
    Int)) (D.nat (p1 x)) (0 : Int)) (0 : Int))) true (D.gt (timesF (D.get (D.get m (D.nat (p1 x)) (D.nil Int)) (D.nat (p1 x_3)) (0 : Int)) (D.get (D.get m (D.nat
    (p1 x_3)) (D.nil Int)) (D.nat (p1 x)) (0 : Int))) (0 : Int))) = true → D.not (D.cnd (D.cnd (q2 x_6) true (D.gt (D.get (D.get m (D.nat (p1 x)) (D.nil Int))
    (D.nat (p1 x)) (0 : Int)) (0 : Int))) true (D.gt (timesF (D.get (D.get m (D.nat (p1 x)) (D.nil Int)) (D.nat (p1 x_3)) (0 : Int)) (D.get (D.get m (D.nat (p1
    x_3)) (D.nil Int)) (D.nat (p1 x)) (0 : Int))) (0 : Int))) = true) ∧ (D.not (D.cnd (D.cnd (q2 x_6) true (D.gt (D.get (D.get m (D.nat (p1 x)) (D.nil Int)) (D.nat
    (p1 x)) (0 : Int)) (0 : Int))) true (D.gt (timesF (D.get (D.get m (D.nat (p1 x)) (D.nil Int)) (D.nat (p1 x_3)) (0 : Int)) (D.get (D.get m (D.nat (p1 x_3))
    (D.nil Int)) (D.nat (p1 x)) (0 : Int))) (0 : Int))) = true → D.not (D.cnd (D.cnd (q2 x_6) true (D.gt (D.get (D.get m (D.nat (p1 x)) (D.nil Int)) (D.nat (p1 x))
    (0 : Int)) (0 : Int))) true (D.gt (timesF (D.get (D.get m (D.nat (p1 x)) (D.nil Int)) (D.nat (p1 x_3)) (0 : Int)) (D.get (D.get m (D.nat (p1 x_3)) (D.nil Int))
    (D.nat (p1 x)) (0 : Int))) (0 : Int))) = true → D.not (D.cnd (D.cnd (q2 x_6) true (D.gt (D.get (D.get m (D.nat (p1 x)) (D.nil Int)) (D.nat (p1 x)) (0 : Int)) (0
    : Int))) true (D.gt (timesF (D.get (D.get m (D.nat (p1 x)) (D.nil Int)) (D.nat (p1 x_3)) (0 : Int)) (D.get (D.get m (D.nat (p1 x_3)) (D.nil Int)) (D.nat (p1 x))
    (0 : Int))) (0 : Int))) = true) ∧ (D.not (D.cnd (D.cnd (q2 x_6) true (D.gt (D.get (D.get m (D.nat (p1 x)) (D.nil Int)) (D.nat (p1 x)) (0 : Int)) (0 : Int)))
    true (D.gt (timesF (D.get (D.get m (D.nat (p1 x)) (D.nil Int)) (D.nat (p1 x_3)) (0 : Int)) (D.get (D.get m (D.nat (p1 x_3)) (D.nil Int)) (D.nat (p1 x)) (0 :
    Int))) (0 : Int))) = true → D.not (D.cnd (D.cnd (q2 x_6) true (D.gt (D.get (D.get m (D.nat (p1 x)) (D.nil Int)) (D.nat (p1 x)) (0 : Int)) (0 : Int))) true (D.gt
    (timesF (D.get (D.get m (D.nat (p1 x)) (D.nil Int)) (D.nat (p1 x_3)) (0 : Int)) (D.get (D.get m (D.nat (p1 x_3)) (D.nil Int)) (D.nat (p1 x)) (0 : Int))) (0 :
    Int))) = true → D.not (D.cnd (D.cnd (q2 x_6) true (D.gt (D.get (D.get m (D.nat (p1 x)) (D.nil Int)) (D.nat (p1 x)) (0 : Int)) (0 : Int))) true (D.gt (timesF
    (D.get (D.get m (D.nat (p1 x)) (D.nil Int)) (D.nat (p1 x_3)) (0 : Int)) (D.get (D.get m (D.nat (p1 x_3)) (D.nil Int)) (D.nat (p1 x)) (0 : Int))) (0 : Int))) =
    true) ∧ (D.not (D.cnd (D.cnd (q2 x_6) true (D.gt (D.get (D.get m (D.nat (p1 x)) (D.nil Int)) (D.nat (p1 x)) (0 : Int)) (0 : Int))) true (D.gt (timesF (D.get
    (D.get m (D.nat (p1 x)) (D.nil Int)) (D.nat (p1 x_3)) (0 : Int)) (D.get (D.get m (D.nat (p1 x_3)) (D.nil Int)) (D.nat (p1 x)) (0 : Int))) (0 : Int))) = true →
    D.ile (0 : Int) (p1 x)) ∧ (D.not (D.cnd (D.cnd (q2 x_6) true (D.gt (D.get (D.get m (D.nat (p1 x)) (D.nil Int)) (D.nat (p1 x)) (0 : Int)) (0 : Int))) true (D.gt
    (timesF (D.get (D.get m (D.nat (p1 x)) (D.nil Int)) (D.nat (p1 x_3)) (0 : Int)) (D.get (D.get m (D.nat (p1 x_3)) (D.nil Int)) (D.nat (p1 x)) (0 : Int))) (0 :
    Int))) = true → D.ilt (p1 x) (D.ilen (D.get m (D.nat (q1 x_6)) (D.nil Int)))) ∧ (D.not (D.cnd (D.cnd (q2 x_6) true (D.gt (D.get (D.get m (D.nat (p1 x)) (D.nil
    Int)) (D.nat (p1 x)) (0 : Int)) (0 : Int))) true (D.gt (timesF (D.get (D.get m (D.nat (p1 x)) (D.nil Int)) (D.nat (p1 x_3)) (0 : Int)) (D.get (D.get m (D.nat
    (p1 x_3)) (D.nil Int)) (D.nat (p1 x)) (0 : Int))) (0 : Int))) = true → D.not (D.cnd (D.cnd (q2 x_6) true (D.gt (D.get (D.get m (D.nat (p1 x)) (D.nil Int))
    (D.nat (p1 x)) (0 : Int)) (0 : Int))) true (D.gt (timesF (D.get (D.get m (D.nat (p1 x)) (D.nil Int)) (D.nat (p1 x_3)) (0 : Int)) (D.get (D.get m (D.nat (p1
    x_3)) (D.nil Int)) (D.nat (p1 x)) (0 : Int))) (0 : Int))) = true → D.not (D.cnd (D.cnd (q2 x_6) true (D.gt (D.get (D.get m (D.nat (p1 x)) (D.nil Int)) (D.nat
    (p1 x)) (0 : Int)) (0 : Int))) true (D.gt (timesF (D.get (D.get m (D.nat (p1 x)) (D.nil Int)) (D.nat (p1 x_3)) (0 : Int)) (D.get (D.get m (D.nat (p1 x_3))
    (D.nil Int)) (D.nat (p1 x)) (0 : Int))) (0 : Int))) = true) ∧ (D.not (D.cnd (D.cnd (q2 x_6) true (D.gt (D.get (D.get m (D.nat (p1 x)) (D.nil Int)) (D.nat (p1
    x)) (0 : Int)) (0 : Int))) true (D.gt (timesF (D.get (D.get m (D.nat (p1 x)) (D.nil Int)) (D.nat (p1 x_3)) (0 : Int)) (D.get (D.get m (D.nat (p1 x_3)) (D.nil
    Int)) (D.nat (p1 x)) (0 : Int))) (0 : Int))) = true → D.not (D.cnd (D.cnd (q2 x_6) true (D.gt (D.get (D.get m (D.nat (p1 x)) (D.nil Int)) (D.nat (p1 x)) (0 :
    Int)) (0 : Int))) true (D.gt (timesF (D.get (D.get m (D.nat (p1 x)) (D.nil Int)) (D.nat (p1 x_3)) (0 : Int)) (D.get (D.get m (D.nat (p1 x_3)) (D.nil Int))
    (D.nat (p1 x)) (0 : Int))) (0 : Int))) = true → D.not (D.cnd (D.cnd (q2 x_6) true (D.gt (D.get (D.get m (D.nat (p1 x)) (D.nil Int)) (D.nat (p1 x)) (0 : Int)) (0
    : Int))) true (D.gt (timesF (D.get (D.get m (D.nat (p1 x)) (D.nil Int)) (D.nat (p1 x_3)) (0 : Int)) (D.get (D.get m (D.nat (p1 x_3)) (D.nil Int)) (D.nat (p1 x))
    (0 : Int))) (0 : Int))) = true) ∧ (D.not (D.cnd (D.cnd (q2 x_6) true (D.gt (D.get (D.get m (D.nat (p1 x)) (D.nil Int)) (D.nat (p1 x)) (0 : Int)) (0 : Int)))
    true (D.gt (timesF (D.get (D.get m (D.nat (p1 x)) (D.nil Int)) (D.nat (p1 x_3)) (0 : Int)) (D.get (D.get m (D.nat (p1 x_3)) (D.nil Int)) (D.nat (p1 x)) (0 :
    Int))) (0 : Int))) = true → D.not (D.cnd (D.cnd (q2 x_6) true (D.gt (D.get (D.get m (D.nat (p1 x)) (D.nil Int)) (D.nat (p1 x)) (0 : Int)) (0 : Int))) true (D.gt
    (timesF (D.get (D.get m (D.nat (p1 x)) (D.nil Int)) (D.nat (p1 x_3)) (0 : Int)) (D.get (D.get m (D.nat (p1 x_3)) (D.nil Int)) (D.nat (p1 x)) (0 : Int))) (0 :
    Int))) = true → D.not (D.cnd (D.cnd (q2 x_6) true (D.gt (D.get (D.get m (D.nat (p1 x)) (D.nil Int)) (D.nat (p1 x)) (0 : Int)) (0 : Int))) true (D.gt (timesF
    (D.get (D.get m (D.nat (p1 x)) (D.nil Int)) (D.nat (p1 x_3)) (0 : Int)) (D.get (D.get m (D.nat (p1 x_3)) (D.nil Int)) (D.nat (p1 x)) (0 : Int))) (0 : Int))) =
    true) ∧ (D.not (D.cnd (D.cnd (q2 x_6) true (D.gt (D.get (D.get m (D.nat (p1 x)) (D.nil Int)) (D.nat (p1 x)) (0 : Int)) (0 : Int))) true (D.gt (timesF (D.get
    (D.get m (D.nat (p1 x)) (D.nil Int)) (D.nat (p1 x_3)) (0 : Int)) (D.get (D.get m (D.nat (p1 x_3)) (D.nil Int)) (D.nat (p1 x)) (0 : Int))) (0 : Int))) = true →
    timesP (timesF (D.get (D.get m (D.nat (p1 x)) (D.nil Int)) (D.nat (p1 x_3)) (0 : Int)) (D.get (D.get m (D.nat (p1 x_3)) (D.nil Int)) (D.nat (q1 x_6)) (0 :
    Int))) (D.get (D.get m (D.nat (q1 x_6)) (D.nil Int)) (D.nat (p1 x)) (0 : Int))) ∧ (D.not (D.cnd (D.cnd (q2 x_6) true (D.gt (D.get (D.get m (D.nat (p1 x)) (D.nil
    Int)) (D.nat (p1 x)) (0 : Int)) (0 : Int))) true (D.gt (timesF (D.get (D.get m (D.nat (p1 x)) (D.nil Int)) (D.nat (p1 x_3)) (0 : Int)) (D.get (D.get m (D.nat
    (p1 x_3)) (D.nil Int)) (D.nat (p1 x)) (0 : Int))) (0 : Int))) = true → D.not (D.cnd (D.cnd (q2 x_6) true (D.gt (D.get (D.get m (D.nat (p1 x)) (D.nil Int))
    (D.nat (p1 x)) (0 : Int)) (0 : Int))) true (D.gt (timesF (D.get (D.get m (D.nat (p1 x)) (D.nil Int)) (D.nat (p1 x_3)) (0 : Int)) (D.get (D.get m (D.nat (p1
    x_3)) (D.nil Int)) (D.nat (p1 x)) (0 : Int))) (0 : Int))) = true → D.not (D.cnd (D.cnd (q2 x_6) true (D.gt (D.get (D.get m (D.nat (p1 x)) (D.nil Int)) (D.nat
    (p1 x)) (0 : Int)) (0 : Int))) true (D.gt (timesF (D.get (D.get m (D.nat (p1 x)) (D.nil Int)) (D.nat (p1 x_3)) (0 : Int)) (D.get (D.get m (D.nat (p1 x_3))
    (D.nil Int)) (D.nat (p1 x)) (0 : Int))) (0 : Int))) = true) ∧ (D.and true (D.not (D.cnd (D.cnd (q2 x_6) true (D.gt (D.get (D.get m (D.nat (p1 x)) (D.nil Int))
    (D.nat (p1 x)) (0 : Int)) (0 : Int))) true (D.gt (timesF (D.get (D.get m (D.nat (p1 x)) (D.nil Int)) (D.nat (p1 x_3)) (0 : Int)) (D.get (D.get m (D.nat (p1
    x_3)) (D.nil Int)) (D.nat (p1 x)) (0 : Int))) (0 : Int)))) = true → D.not (D.cnd (D.cnd (q2 x_6) true (D.gt (D.get (D.get m (D.nat (p1 x)) (D.nil Int)) (D.nat
    (p1 x)) (0 : Int)) (0 : Int))) true (D.gt (timesF (D.get (D.get m (D.nat (p1 x)) (D.nil Int)) (D.nat (p1 x_3)) (0 : Int)) (D.get (D.get m (D.nat (p1 x_3))
    (D.nil Int)) (D.nat (p1 x)) (0 : Int))) (0 : Int))) = true) ∧ inR IntKind.i64 (D.add (q1 x_6) (1 : Int)) ∧ ∃ y, cyc3 m y ∧ (m = m ∧ false = false ∧ true = true
    ∧ starS m = starS m ∧ starE m = starE m ∧ D.cnd (p2 x_3) true (D.gt (D.get (D.get m (D.nat (p1 x)) (D.nil Int)) (D.nat (p1 x_3)) (0 : Int)) (0 : Int)) = D.cnd
    (p2 x_3) true (D.gt (D.get (D.get m (D.nat (p1 x)) (D.nil Int)) (D.nat (p1 x_3)) (0 : Int)) (0 : Int)) ∧ D.cnd (D.cnd (D.cnd (q2 x_6) true (D.gt (D.get (D.get m
    (D.nat (p1 x)) (D.nil Int)) (D.nat (p1 x)) (0 : Int)) (0 : Int))) true (D.gt (timesF (D.get (D.get m (D.nat (p1 x)) (D.nil Int)) (D.nat (p1 x_3)) (0 : Int))
    (D.get (D.get m (D.nat (p1 x_3)) (D.nil Int)) (D.nat (p1 x)) (0 : Int))) (0 : Int))) true (D.gt (timesF (timesF (D.get (D.get m (D.nat (p1 x)) (D.nil Int))
    (D.nat (p1 x_3)) (0 : Int)) (D.get (D.get m (D.nat (p1 x_3)) (D.nil Int)) (D.nat (q1 x_6)) (0 : Int))) (D.get (D.get m (D.nat (q1 x_6)) (D.nil Int)) (D.nat (p1
    x)) (0 : Int))) (0 : Int)) = q2 y ∧ p1 x = p1 x ∧ p1 x_3 = p1 x_3 ∧ D.add (q1 x_6) (1 : Int) = q1 y ∧ true = true ∧ m = m ∧ fineF m = fineF m ∧ D.not (fineF m)
    = D.not (fineF m) ∧ starS m = starS m ∧ starE m = starE m ∧ m = m ∧ starS m = starS m ∧ starE m = starE m ∧ starS m = starS m ∧ starE m = starE m ∧ p1 x = p1 x
    ∧ m = m ∧ D.ilen m = D.ilen m ∧ D.lt (p1 x) (D.ilen m) = D.lt (p1 x) (D.ilen m) ∧ p1 x_3 = p1 x_3 ∧ m = m ∧ D.ilen m = D.ilen m ∧ D.lt (p1 x_3) (D.ilen m) =
    D.lt (p1 x_3) (D.ilen m) ∧ p2 x_3 = p2 x_3 ∧ p2 x_3 = p2 x_3 ∧ D.cnd (p2 x_3) true (D.gt (D.get (D.get m (D.nat (p1 x)) (D.nil Int)) (D.nat (p1 x_3)) (0 : Int))
    (0 : Int)) = D.cnd (p2 x_3) true (D.gt (D.get (D.get m (D.nat (p1 x)) (D.nil Int)) (D.nat (p1 x_3)) (0 : Int)) (0 : Int)) ∧ True) ∧ D.nlt (D.nat (D.sub (D.ilen
    m) (q1 y))) (D.nat (D.sub (D.ilen m) (q1 x_6)))) ∧ (D.lt (q1 x_6) (D.ilen m) = false → inR IntKind.i64 (D.add (p1 x_3) (1 : Int)) ∧ ∃ y, cyc2 m (p1 x) y ∧ (m =
    m ∧ false = false ∧ true = true ∧ starS m = starS m ∧ starE m = starE m ∧ D.cnd (p2 x_3) true (D.gt (D.get (D.get m (D.nat (p1 x)) (D.nil Int)) (D.nat (p1 x_3))
    (0 : Int)) (0 : Int)) = p2 y ∧ q2 x_6 = p3 y ∧ p1 x = p1 x ∧ D.add (p1 x_3) (1 : Int) = p1 y ∧ true = true ∧ m = m ∧ fineF m = fineF m ∧ D.not (fineF m) = D.not
    (fineF m) ∧ starS m = starS m ∧ starE m = starE m ∧ m = m ∧ starS m = starS m ∧ starE m = starE m ∧ starS m = starS m ∧ starE m = starE m ∧ p1 x = p1 x ∧ m = m
    ∧ D.ilen m = D.ilen m ∧ D.lt (p1 x) (D.ilen m) = D.lt (p1 x) (D.ilen m) ∧ True) ∧ D.nlt (D.nat (D.sub (D.ilen m) (p1 y))) (D.nat (D.sub (D.ilen m) (p1 x_3)))))
    ∧ (D.lt (p1 x_3) (D.ilen m) = false → inR IntKind.i64 (D.add (p1 x) (1 : Int)) ∧ ∃ y, cyc1 m y ∧ (m = m ∧ false = false ∧ true = true ∧ starS m = starS m ∧
    starE m = starE m ∧ p2 x_3 = p2 y ∧ p3 x_3 = p3 y ∧ D.add (p1 x) (1 : Int) = p1 y ∧ true = true ∧ m = m ∧ fineF m = fineF m ∧ D.not (fineF m) = D.not (fineF m)
    ∧ starS m = starS m ∧ starE m = starE m ∧ m = m ∧ starS m = starS m ∧ starE m = starE m ∧ starS m = starS m ∧ starE m = starE m ∧ True) ∧ D.nlt (D.nat (D.sub
    (D.ilen m) (p1 y))) (D.nat (D.sub (D.ilen m) (p1 x))))) ∧ (D.lt (p1 x) (D.ilen m) = false → (true = true → true = true → true = true) ∧ (true = true → true =
    true → true = true) ∧ (D.and true (D.not (D.eq (starE m) (0 : Int))) = true → D.and true (D.not (D.eq (starE m) (0 : Int))) = true → D.and true (D.not (D.eq
    (starE m) (0 : Int))) = true) ∧ (true = true → true = true → true = true) ∧ (true = true → D.and true (D.not (D.eq (starE m) (0 : Int))) = true → D.and true
    (D.not (D.eq (starE m) (0 : Int))) = true) ∧ (D.and true true = true → true = true) ∧ (D.cnd true (D.cnd (D.eq (starE m) (0 : Int)) true (D.eq (starE m) (120 :
    Int))) false = true → D.cnd true (D.cnd (D.eq (starE m) (0 : Int)) true (D.eq (starE m) (120 : Int))) false = true → D.cnd true (D.cnd (D.eq (starE m) (0 :
    Int)) true (D.eq (starE m) (120 : Int))) false = true) ∧ (D.and (D.cnd true (D.cnd (D.eq (starE m) (0 : Int)) true (D.eq (starE m) (120 : Int))) false) (D.not
    (p2 x)) = true → D.and (D.cnd true (D.cnd (D.eq (starE m) (0 : Int)) true (D.eq (starE m) (120 : Int))) false) (D.not (p2 x)) = true → D.and (D.cnd true (D.cnd
    (D.eq (starE m) (0 : Int)) true (D.eq (starE m) (120 : Int))) false) (D.not (p2 x)) = true) ∧ (D.cnd true (D.cnd (D.eq (starE m) (0 : Int)) true (D.eq (starE m)
    (120 : Int))) false = true → D.cnd true (D.cnd (D.eq (starE m) (0 : Int)) true (D.eq (starE m) (120 : Int))) false = true → D.cnd true (D.cnd (D.eq (starE m) (0
    : Int)) true (D.eq (starE m) (120 : Int))) false = true) ∧ (D.cnd true (D.cnd (D.eq (starE m) (0 : Int)) true (D.eq (starE m) (120 : Int))) false = true → D.and
    (D.cnd true (D.cnd (D.eq (starE m) (0 : Int)) true (D.eq (starE m) (120 : Int))) false) (D.not (p2 x)) = true → D.and (D.cnd true (D.cnd (D.eq (starE m) (0 :
    Int)) true (D.eq (starE m) (120 : Int))) false) (D.not (p2 x)) = true) ∧ (D.and true (D.cnd true (D.cnd (D.eq (starE m) (0 : Int)) true (D.eq (starE m) (120 :
    Int))) false) = true → D.cnd true (D.cnd (D.eq (starE m) (0 : Int)) true (D.eq (starE m) (120 : Int))) false = true) ∧ (D.cnd (D.cnd true (D.cnd (D.eq (starE m)
    (0 : Int)) true (D.eq (starE m) (120 : Int))) false) (D.cnd (p2 x) true (D.eq (starE m) (0 : Int))) false = true → D.cnd (D.cnd true (D.cnd (D.eq (starE m) (0 :
    Int)) true (D.eq (starE m) (120 : Int))) false) (D.cnd (p2 x) true (D.eq (starE m) (0 : Int))) false = true → D.cnd (D.cnd true (D.cnd (D.eq (starE m) (0 :
    Int)) true (D.eq (starE m) (120 : Int))) false) (D.cnd (p2 x) true (D.eq (starE m) (0 : Int))) false = true) ∧ (D.cnd (D.cnd true (D.cnd (D.eq (starE m) (0 :
    Int)) true (D.eq (starE m) (120 : Int))) false) (D.cnd (p2 x) true (D.eq (starE m) (0 : Int))) false = true → D.cnd (D.cnd true (D.cnd (D.eq (starE m) (0 :
    Int)) true (D.eq (starE m) (120 : Int))) false) (D.cnd (p2 x) true (D.eq (starE m) (0 : Int))) false = true → D.cnd (D.cnd true (D.cnd (D.eq (starE m) (0 :
    Int)) true (D.eq (starE m) (120 : Int))) false) (D.cnd (p2 x) true (D.eq (starE m) (0 : Int))) false = true) ∧ (D.and (D.cnd (D.cnd true (D.cnd (D.eq (starE m)
    (0 : Int)) true (D.eq (starE m) (120 : Int))) false) (D.cnd (p2 x) true (D.eq (starE m) (0 : Int))) false) (D.not (D.not (p3 x))) = true → D.and (D.cnd (D.cnd
    true (D.cnd (D.eq (starE m) (0 : Int)) true (D.eq (starE m) (120 : Int))) false) (D.cnd (p2 x) true (D.eq (starE m) (0 : Int))) false) (D.not (D.not (p3 x))) =
    true → D.and (D.cnd (D.cnd true (D.cnd (D.eq (starE m) (0 : Int)) true (D.eq (starE m) (120 : Int))) false) (D.cnd (p2 x) true (D.eq (starE m) (0 : Int)))
    false) (D.not (D.not (p3 x))) = true) ∧ (D.cnd (D.cnd true (D.cnd (D.eq (starE m) (0 : Int)) true (D.eq (starE m) (120 : Int))) false) (D.cnd (p2 x) true (D.eq
    (starE m) (0 : Int))) false = true → D.cnd (D.cnd true (D.cnd (D.eq (starE m) (0 : Int)) true (D.eq (starE m) (120 : Int))) false) (D.cnd (p2 x) true (D.eq
    (starE m) (0 : Int))) false = true → D.cnd (D.cnd true (D.cnd (D.eq (starE m) (0 : Int)) true (D.eq (starE m) (120 : Int))) false) (D.cnd (p2 x) true (D.eq
    (starE m) (0 : Int))) false = true) ∧ (D.cnd (D.cnd true (D.cnd (D.eq (starE m) (0 : Int)) true (D.eq (starE m) (120 : Int))) false) (D.cnd (p2 x) true (D.eq
    (starE m) (0 : Int))) false = true → D.and (D.cnd (D.cnd true (D.cnd (D.eq (starE m) (0 : Int)) true (D.eq (starE m) (120 : Int))) false) (D.cnd (p2 x) true
    (D.eq (starE m) (0 : Int))) false) (D.not (D.not (p3 x))) = true → D.and (D.cnd (D.cnd true (D.cnd (D.eq (starE m) (0 : Int)) true (D.eq (starE m) (120 : Int)))
    false) (D.cnd (p2 x) true (D.eq (starE m) (0 : Int))) false) (D.not (D.not (p3 x))) = true) ∧ (D.and true (D.cnd (D.cnd true (D.cnd (D.eq (starE m) (0 : Int))
    true (D.eq (starE m) (120 : Int))) false) (D.cnd (p2 x) true (D.eq (starE m) (0 : Int))) false) = true → D.cnd (D.cnd true (D.cnd (D.eq (starE m) (0 : Int))
    true (D.eq (starE m) (120 : Int))) false) (D.cnd (p2 x) true (D.eq (starE m) (0 : Int))) false = true) ∧ D.cnd (D.cnd (D.cnd true (D.cnd (D.eq (starE m) (0 :
    Int)) true (D.eq (starE m) (120 : Int))) false) (D.cnd (p2 x) true (D.eq (starE m) (0 : Int))) false) (D.cnd (D.not (p3 x)) true (D.eq (starE m) (120 : Int)))
    false = true ∧ True)))) :
    evF c12 (cycA m) 9 [.dat M m] ⟨True, .dat .bool true⟩ := of_eq (by kernel_rfl) h

theorem vc_Paths (m : List (List Int)) (p : List Int) (h :
     true = true ∧ true = true ∧ (True → True ∧ True ∧ (D.not (D.not (fineF m)) = true → D.not (D.not (fineF m)) = true → D.not (D.not (fineF m)) = true) ∧
    (D.not (D.not (fineF m)) = true → cleanP m) ∧ (D.not (D.not (fineF m)) = true → D.not (D.not (fineF m)) = true → D.not (D.not (fineF m)) = true) ∧ (D.and true
    (D.not (D.not (fineF m))) = true → D.not (D.not (fineF m)) = true) ∧ (D.not (D.cnd (D.not (fineF m)) true (D.not (mildF m))) = true → D.not (D.cnd (D.not (fineF
    m)) true (D.not (mildF m))) = true → D.not (D.cnd (D.not (fineF m)) true (D.not (mildF m))) = true) ∧ (D.not (D.cnd (D.not (fineF m)) true (D.not (mildF m))) =
    true → D.not (D.cnd (D.not (fineF m)) true (D.not (mildF m))) = true → D.not (D.cnd (D.not (fineF m)) true (D.not (mildF m))) = true) ∧ (D.and true (D.not
    (D.cnd (D.not (fineF m)) true (D.not (mildF m)))) = true → D.not (D.cnd (D.not (fineF m)) true (D.not (mildF m))) = true) ∧ (D.cnd (D.cnd (D.not (fineF m)) true
    (D.not (mildF m))) true (D.gt (D.ilen p) (20 : Int)) = true → true = true ∧ True) ∧ (D.cnd (D.cnd (D.not (fineF m)) true (D.not (mildF m))) true (D.gt (D.ilen
    p) (20 : Int)) = false → starP m ∧ (D.not (D.ne (starE m) (0 : Int)) = true → D.not (D.ne (starE m) (0 : Int)) = true → D.not (D.ne (starE m) (0 : Int)) = true)
    ∧ (D.not (D.ne (starE m) (0 : Int)) = true → D.not (D.ne (starE m) (0 : Int)) = true → D.not (D.ne (starE m) (0 : Int)) = true) ∧ (D.and true (D.not (D.ne
    (starE m) (0 : Int))) = true → D.not (D.ne (starE m) (0 : Int)) = true) ∧ (D.cnd (D.ne (starE m) (0 : Int)) true (D.eq (D.ilen m) (0 : Int)) = true → true =
    true ∧ True) ∧ (D.cnd (D.ne (starE m) (0 : Int)) true (D.eq (D.ilen m) (0 : Int)) = false → (D.ne (D.ilen (starS m)) (D.ilen m) = true → false = true ∧ True) ∧
    (D.ne (D.ilen (starS m)) (D.ilen m) = false → small (D.ilen m) ∧ small (D.ilen m) ∧ True ∧ (∃ x, kTo x (D.ilen m) ∧ m = m ∧ p = p ∧ false = false ∧ true = true
    ∧ starS m = starS m ∧ starE m = starE m ∧ oneF (D.ilen m) = powF m x ∧ sumF (oneF (D.ilen m)) m = sumF (oneF (D.ilen m)) m ∧ (0 : Int) = x ∧ true = true ∧ m = m
    ∧ fineF m = fineF m ∧ D.not (fineF m) = D.not (fineF m) ∧ D.not (fineF m) = D.not (fineF m) ∧ D.cnd (D.not (fineF m)) true (D.not (mildF m)) = D.cnd (D.not
    (fineF m)) true (D.not (mildF m)) ∧ D.cnd (D.not (fineF m)) true (D.not (mildF m)) = D.cnd (D.not (fineF m)) true (D.not (mildF m)) ∧ D.cnd (D.cnd (D.not (fineF
    m)) true (D.not (mildF m))) true (D.gt (D.ilen p) (20 : Int)) = D.cnd (D.cnd (D.not (fineF m)) true (D.not (mildF m))) true (D.gt (D.ilen p) (20 : Int)) ∧ starS
    m = starS m ∧ starE m = starE m ∧ m = m ∧ starS m = starS m ∧ starE m = starE m ∧ starS m = starS m ∧ starE m = starE m ∧ starE m = starE m ∧ D.ne (starE m) (0
    : Int) = D.ne (starE m) (0 : Int) ∧ D.ne (starE m) (0 : Int) = D.ne (starE m) (0 : Int) ∧ D.cnd (D.ne (starE m) (0 : Int)) true (D.eq (D.ilen m) (0 : Int)) =
    D.cnd (D.ne (starE m) (0 : Int)) true (D.eq (D.ilen m) (0 : Int)) ∧ starS m = starS m ∧ D.ilen (starS m) = D.ilen (starS m) ∧ m = m ∧ D.ilen m = D.ilen m ∧ D.ne
    (D.ilen (starS m)) (D.ilen m) = D.ne (D.ilen (starS m)) (D.ilen m) ∧ m = m ∧ D.ilen m = D.ilen m ∧ oneF (D.ilen m) = oneF (D.ilen m) ∧ m = m ∧ D.ilen m = D.ilen
    m ∧ oneF (D.ilen m) = oneF (D.ilen m) ∧ m = m ∧ sumF (oneF (D.ilen m)) m = sumF (oneF (D.ilen m)) m ∧ True) ∧ ∀ (x : Int), kTo x (D.ilen m) → (D.lt x (D.ilen m)
    = true → True ∧ inR IntKind.i64 (D.add x (1 : Int)) ∧ ∃ y, kTo y (D.ilen m) ∧ (m = m ∧ p = p ∧ false = false ∧ true = true ∧ starS m = starS m ∧ starE m = starE
    m ∧ prodF (powF m x) (sumF (oneF (D.ilen m)) m) = powF m y ∧ sumF (oneF (D.ilen m)) m = sumF (oneF (D.ilen m)) m ∧ D.add x (1 : Int) = y ∧ true = true ∧ m = m ∧
    fineF m = fineF m ∧ D.not (fineF m) = D.not (fineF m) ∧ D.not (fineF m) = D.not (fineF m) ∧ D.cnd (D.not (fineF m)) true (D.not (mildF m)) = D.cnd (D.not (fineF
    m)) true (D.not (mildF m)) ∧ D.cnd (D.not (fineF m)) true (D.not (mildF m)) = D.cnd (D.not (fineF m)) true (D.not (mildF m)) ∧ D.cnd (D.cnd (D.not (fineF m))
    true (D.not (mildF m))) true (D.gt (D.ilen p) (20 : Int)) = D.cnd (D.cnd (D.not (fineF m)) true (D.not (mildF m))) true (D.gt (D.ilen p) (20 : Int)) ∧ starS m =
    starS m ∧ starE m = starE m ∧ m = m ∧ starS m = starS m ∧ starE m = starE m ∧ starS m = starS m ∧ starE m = starE m ∧ starE m = starE m ∧ D.ne (starE m) (0 :
    Int) = D.ne (starE m) (0 : Int) ∧ D.ne (starE m) (0 : Int) = D.ne (starE m) (0 : Int) ∧ D.cnd (D.ne (starE m) (0 : Int)) true (D.eq (D.ilen m) (0 : Int)) =
    D.cnd (D.ne (starE m) (0 : Int)) true (D.eq (D.ilen m) (0 : Int)) ∧ starS m = starS m ∧ D.ilen (starS m) = D.ilen (starS m) ∧ m = m ∧ D.ilen m = D.ilen m ∧ D.ne
    (D.ilen (starS m)) (D.ilen m) = D.ne (D.ilen (starS m)) (D.ilen m) ∧ m = m ∧ D.ilen m = D.ilen m ∧ oneF (D.ilen m) = oneF (D.ilen m) ∧ m = m ∧ D.ilen m = D.ilen
    m ∧ oneF (D.ilen m) = oneF (D.ilen m) ∧ m = m ∧ sumF (oneF (D.ilen m)) m = sumF (oneF (D.ilen m)) m ∧ True) ∧ D.nlt (D.nat (D.sub (D.ilen m) y)) (D.nat (D.sub
    (D.ilen m) x))) ∧ (D.lt x (D.ilen m) = false → lensOk (powF m x) ∧ (D.not (sameF (powF m x) (starS m)) = true → false = true ∧ True) ∧ (D.not (sameF (powF m x)
    (starS m)) = false → (D.eq (D.ilen p) (0 : Int) = true → true = true ∧ True) ∧ (D.eq (D.ilen p) (0 : Int) = false → (∃ x_5, wtTo p x_5 ∧ m = m ∧ p = p ∧ false =
    false ∧ true = true ∧ starS m = starS m ∧ starE m = starE m ∧ powF m x = powF m x ∧ sumF (oneF (D.ilen m)) m = sumF (oneF (D.ilen m)) m ∧ x = x ∧ (0 : Int) =
    wtF m p x_5 ∧ (1 : Int) = x_5 ∧ true = true ∧ m = m ∧ fineF m = fineF m ∧ D.not (fineF m) = D.not (fineF m) ∧ D.not (fineF m) = D.not (fineF m) ∧ D.cnd (D.not
    (fineF m)) true (D.not (mildF m)) = D.cnd (D.not (fineF m)) true (D.not (mildF m)) ∧ D.cnd (D.not (fineF m)) true (D.not (mildF m)) = D.cnd (D.not (fineF m))
    true (D.not (mildF m)) ∧ D.cnd (D.cnd (D.not (fineF m)) true (D.not (mildF m))) true (D.gt (D.ilen p) (20 : Int)) = D.cnd (D.cnd (D.not (fineF m)) true (D.not
    (mildF m))) true (D.gt (D.ilen p) (20 : Int)) ∧ starS m = starS m ∧ starE m = starE m ∧ m = m ∧ starS m = starS m ∧ starE m = starE m ∧ starS m = starS m ∧
    starE m = starE m ∧ starE m = starE m ∧ D.ne (starE m) (0 : Int) = D.ne (starE m) (0 : Int) ∧ D.ne (starE m) (0 : Int) = D.ne (starE m) (0 : Int) ∧ D.cnd (D.ne
    (starE m) (0 : Int)) true (D.eq (D.ilen m) (0 : Int)) = D.cnd (D.ne (starE m) (0 : Int)) true (D.eq (D.ilen m) (0 : Int)) ∧ starS m = starS m ∧ D.ilen (starS m)
    = D.ilen (starS m) ∧ m = m ∧ D.ilen m = D.ilen m ∧ D.ne (D.ilen (starS m)) (D.ilen m) = D.ne (D.ilen (starS m)) (D.ilen m) ∧ m = m ∧ D.ilen m = D.ilen m ∧ oneF
    (D.ilen m) = oneF (D.ilen m) ∧ m = m ∧ D.ilen m = D.ilen m ∧ oneF (D.ilen m) = oneF (D.ilen m) ∧ m = m ∧ sumF (oneF (D.ilen m)) m = sumF (oneF (D.ilen m)) m ∧ x
    = x ∧ m = m ∧ D.ilen m = D.ilen m ∧ D.lt x (D.ilen m) = D.lt x (D.ilen m) ∧ powF m x = powF m x ∧ starS m = starS m ∧ sameF (powF m x) (starS m) = sameF (powF m
    x) (starS m) ∧ D.not (sameF (powF m x) (starS m)) = D.not (sameF (powF m x) (starS m)) ∧ p = p ∧ D.ilen p = D.ilen p ∧ D.eq (D.ilen p) (0 : Int) = D.eq (D.ilen
    p) (0 : Int) ∧ True) ∧ ∀ (x_5 : Int), wtTo p x_5 → (D.lt x_5 (D.ilen p) = true → inR IntKind.i64 (D.sub x_5 (1 : Int)) ∧ D.ile (0 : Int) (D.sub x_5 (1 : Int)) ∧
    D.ilt (D.sub x_5 (1 : Int)) (D.ilen p) ∧ inR IntKind.i64 (D.get p (D.nat (D.sub x_5 (1 : Int))) (0 : Int)) ∧ D.ine (D.ilen m) (0 : Int) ∧ D.ile (0 : Int) (D.rem
    (D.get p (D.nat (D.sub x_5 (1 : Int))) (0 : Int)) (D.ilen m)) ∧ D.ilt (D.rem (D.get p (D.nat (D.sub x_5 (1 : Int))) (0 : Int)) (D.ilen m)) (D.ilen m) ∧ D.ile (0
    : Int) x_5 ∧ D.ilt x_5 (D.ilen p) ∧ inR IntKind.i64 (D.get p (D.nat x_5) (0 : Int)) ∧ D.ine (D.ilen m) (0 : Int) ∧ D.ile (0 : Int) (D.rem (D.get p (D.nat x_5)
    (0 : Int)) (D.ilen m)) ∧ D.ilt (D.rem (D.get p (D.nat x_5) (0 : Int)) (D.ilen m)) (D.ilen (D.get m (D.nat (D.rem (D.get p (D.nat (D.sub x_5 (1 : Int))) (0 :
    Int)) (D.ilen m))) (D.nil Int))) ∧ timesP (wtF m p x_5) (D.get (D.get m (D.nat (D.rem (D.get p (D.nat (D.sub x_5 (1 : Int))) (0 : Int)) (D.ilen m))) (D.nil
    Int)) (D.nat (D.rem (D.get p (D.nat x_5) (0 : Int)) (D.ilen m))) (0 : Int)) ∧ inR IntKind.i64 (D.add x_5 (1 : Int)) ∧ ∃ y, wtTo p y ∧ (m = m ∧ p = p ∧ false =
    false ∧ true = true ∧ starS m = starS m ∧ starE m = starE m ∧ powF m x = powF m x ∧ sumF (oneF (D.ilen m)) m = sumF (oneF (D.ilen m)) m ∧ x = x ∧ timesF (wtF m
    p x_5) (D.get (D.get m (D.nat (D.rem (D.get p (D.nat (D.sub x_5 (1 : Int))) (0 : Int)) (D.ilen m))) (D.nil Int)) (D.nat (D.rem (D.get p (D.nat x_5) (0 : Int))
    (D.ilen m))) (0 : Int)) = wtF m p y ∧ D.add x_5 (1 : Int) = y ∧ true = true ∧ m = m ∧ fineF m = fineF m ∧ D.not (fineF m) = D.not (fineF m) ∧ D.not (fineF m) =
    D.not (fineF m) ∧ D.cnd (D.not (fineF m)) true (D.not (mildF m)) = D.cnd (D.not (fineF m)) true (D.not (mildF m)) ∧ D.cnd (D.not (fineF m)) true (D.not (mildF
    m)) = D.cnd (D.not (fineF m)) true (D.not (mildF m)) ∧ D.cnd (D.cnd (D.not (fineF m)) true (D.not (mildF m))) true (D.gt (D.ilen p) (20 : Int)) = D.cnd (D.cnd
    (D.not (fineF m)) true (D.not (mildF m))) true (D.gt (D.ilen p) (20 : Int)) ∧ starS m = starS m ∧ starE m = starE m ∧ m = m ∧ starS m = starS m ∧ starE m =
    starE m ∧ starS m = starS m ∧ starE m = starE m ∧ starE m = starE m ∧ D.ne (starE m) (0 : Int) = D.ne (starE m) (0 : Int) ∧ D.ne (starE m) (0 : Int) = D.ne
    (starE m) (0 : Int) ∧ D.cnd (D.ne (starE m) (0 : Int)) true (D.eq (D.ilen m) (0 : Int)) = D.cnd (D.ne (starE m) (0 : Int)) true (D.eq (D.ilen m) (0 : Int)) ∧
    starS m = starS m ∧ D.ilen (starS m) = D.ilen (starS m) ∧ m = m ∧ D.ilen m = D.ilen m ∧ D.ne (D.ilen (starS m)) (D.ilen m) = D.ne (D.ilen (starS m)) (D.ilen m)
    ∧ m = m ∧ D.ilen m = D.ilen m ∧ oneF (D.ilen m) = oneF (D.ilen m) ∧ m = m ∧ D.ilen m = D.ilen m ∧ oneF (D.ilen m) = oneF (D.ilen m) ∧ m = m ∧ sumF (oneF (D.ilen
    m)) m = sumF (oneF (D.ilen m)) m ∧ x = x ∧ m = m ∧ D.ilen m = D.ilen m ∧ D.lt x (D.ilen m) = D.lt x (D.ilen m) ∧ powF m x = powF m x ∧ starS m = starS m ∧ sameF
    (powF m x) (starS m) = sameF (powF m x) (starS m) ∧ D.not (sameF (powF m x) (starS m)) = D.not (sameF (powF m x) (starS m)) ∧ p = p ∧ D.ilen p = D.ilen p ∧ D.eq
    (D.ilen p) (0 : Int) = D.eq (D.ilen p) (0 : Int) ∧ True) ∧ D.nlt (D.nat (D.sub (D.ilen p) y)) (D.nat (D.sub (D.ilen p) x_5))) ∧ (D.lt x_5 (D.ilen p) = false →
    D.ile (0 : Int) (0 : Int) ∧ D.ilt (0 : Int) (D.ilen p) ∧ inR IntKind.i64 (D.get p (D.nat (0 : Int)) (0 : Int)) ∧ D.ine (D.ilen m) (0 : Int) ∧ inR IntKind.i64
    (D.sub (D.ilen p) (1 : Int)) ∧ D.ile (0 : Int) (D.sub (D.ilen p) (1 : Int)) ∧ D.ilt (D.sub (D.ilen p) (1 : Int)) (D.ilen p) ∧ inR IntKind.i64 (D.get p (D.nat
    (D.sub (D.ilen p) (1 : Int))) (0 : Int)) ∧ D.ine (D.ilen m) (0 : Int) ∧ (true = true → true = true → true = true) ∧ (true = true → true = true → true = true) ∧
    (true = true → D.ile (0 : Int) (D.rem (D.get p (D.nat (0 : Int)) (0 : Int)) (D.ilen m))) ∧ (true = true → D.ilt (D.rem (D.get p (D.nat (0 : Int)) (0 : Int))
    (D.ilen m)) (D.ilen (starS m))) ∧ (true = true → true = true → true = true) ∧ (true = true → true = true → true = true) ∧ (true = true → true = true → true =
    true) ∧ (true = true → true = true → true = true) ∧ (true = true → true = true → true = true) ∧ (D.and true true = true → true = true) ∧ (D.cnd true (D.eq
    (D.ilen (D.get (starS m) (D.nat (D.rem (D.get p (D.nat (0 : Int)) (0 : Int)) (D.ilen m))) (D.nil Int))) (D.ilen m)) false = true → D.cnd true (D.eq (D.ilen
    (D.get (starS m) (D.nat (D.rem (D.get p (D.nat (0 : Int)) (0 : Int)) (D.ilen m))) (D.nil Int))) (D.ilen m)) false = true → D.cnd true (D.eq (D.ilen (D.get
    (starS m) (D.nat (D.rem (D.get p (D.nat (0 : Int)) (0 : Int)) (D.ilen m))) (D.nil Int))) (D.ilen m)) false = true) ∧ (D.cnd true (D.eq (D.ilen (D.get (starS m)
    (D.nat (D.rem (D.get p (D.nat (0 : Int)) (0 : Int)) (D.ilen m))) (D.nil Int))) (D.ilen m)) false = true → True) ∧ (D.cnd true (D.eq (D.ilen (D.get (starS m)
    (D.nat (D.rem (D.get p (D.nat (0 : Int)) (0 : Int)) (D.ilen m))) (D.nil Int))) (D.ilen m)) false = true → D.cnd true (D.eq (D.ilen (D.get (starS m) (D.nat
    (D.rem (D.get p (D.nat (0 : Int)) (0 : Int)) (D.ilen m))) (D.nil Int))) (D.ilen m)) false = true → D.cnd true (D.eq (D.ilen (D.get (starS m) (D.nat (D.rem
    (D.get p (D.nat (0 : Int)) (0 : Int)) (D.ilen m))) (D.nil Int))) (D.ilen m)) false = true) ∧ (D.and (D.cnd true (D.eq (D.ilen (D.get (starS m) (D.nat (D.rem
    (D.get p (D.nat (0 : Int)) (0 : Int)) (D.ilen m))) (D.nil Int))) (D.ilen m)) false) (D.not (infF (wtF m p x_5))) = true → D.and (D.cnd true (D.eq (D.ilen (D.get
    (starS m) (D.nat (D.rem (D.get p (D.nat (0 : Int)) (0 : Int)) (D.ilen m))) (D.nil Int))) (D.ilen m)) false) (D.not (infF (wtF m p x_5))) = true → D.and (D.cnd
    true (D.eq (D.ilen (D.get (starS m) (D.nat (D.rem (D.get p (D.nat (0 : Int)) (0 : Int)) (D.ilen m))) (D.nil Int))) (D.ilen m)) false) (D.not (infF (wtF m p
    x_5))) = true) ∧ (D.and (D.cnd true (D.eq (D.ilen (D.get (starS m) (D.nat (D.rem (D.get p (D.nat (0 : Int)) (0 : Int)) (D.ilen m))) (D.nil Int))) (D.ilen m))
    false) (D.not (infF (wtF m p x_5))) = true → D.and (D.cnd true (D.eq (D.ilen (D.get (starS m) (D.nat (D.rem (D.get p (D.nat (0 : Int)) (0 : Int)) (D.ilen m)))
    (D.nil Int))) (D.ilen m)) false) (D.not (infF (wtF m p x_5))) = true → D.and (D.cnd true (D.eq (D.ilen (D.get (starS m) (D.nat (D.rem (D.get p (D.nat (0 : Int))
    (0 : Int)) (D.ilen m))) (D.nil Int))) (D.ilen m)) false) (D.not (infF (wtF m p x_5))) = true) ∧ (D.and (D.cnd true (D.eq (D.ilen (D.get (starS m) (D.nat (D.rem
    (D.get p (D.nat (0 : Int)) (0 : Int)) (D.ilen m))) (D.nil Int))) (D.ilen m)) false) (D.not (infF (wtF m p x_5))) = true → D.ile (0 : Int) (D.rem (D.get p (D.nat
    (0 : Int)) (0 : Int)) (D.ilen m))) ∧ (D.and (D.cnd true (D.eq (D.ilen (D.get (starS m) (D.nat (D.rem (D.get p (D.nat (0 : Int)) (0 : Int)) (D.ilen m))) (D.nil
    Int))) (D.ilen m)) false) (D.not (infF (wtF m p x_5))) = true → D.ilt (D.rem (D.get p (D.nat (0 : Int)) (0 : Int)) (D.ilen m)) (D.ilen (starS m))) ∧ (D.and
    (D.cnd true (D.eq (D.ilen (D.get (starS m) (D.nat (D.rem (D.get p (D.nat (0 : Int)) (0 : Int)) (D.ilen m))) (D.nil Int))) (D.ilen m)) false) (D.not (infF (wtF m
    p x_5))) = true → D.and (D.cnd true (D.eq (D.ilen (D.get (starS m) (D.nat (D.rem (D.get p (D.nat (0 : Int)) (0 : Int)) (D.ilen m))) (D.nil Int))) (D.ilen m))
    false) (D.not (infF (wtF m p x_5))) = true → D.and (D.cnd true (D.eq (D.ilen (D.get (starS m) (D.nat (D.rem (D.get p (D.nat (0 : Int)) (0 : Int)) (D.ilen m)))
    (D.nil Int))) (D.ilen m)) false) (D.not (infF (wtF m p x_5))) = true) ∧ (D.and (D.cnd true (D.eq (D.ilen (D.get (starS m) (D.nat (D.rem (D.get p (D.nat (0 :
    Int)) (0 : Int)) (D.ilen m))) (D.nil Int))) (D.ilen m)) false) (D.not (infF (wtF m p x_5))) = true → D.and (D.cnd true (D.eq (D.ilen (D.get (starS m) (D.nat
    (D.rem (D.get p (D.nat (0 : Int)) (0 : Int)) (D.ilen m))) (D.nil Int))) (D.ilen m)) false) (D.not (infF (wtF m p x_5))) = true → D.and (D.cnd true (D.eq (D.ilen
    (D.get (starS m) (D.nat (D.rem (D.get p (D.nat (0 : Int)) (0 : Int)) (D.ilen m))) (D.nil Int))) (D.ilen m)) false) (D.not (infF (wtF m p x_5))) = true) ∧ (D.and
    (D.cnd true (D.eq (D.ilen (D.get (starS m) (D.nat (D.rem (D.get p (D.nat (0 : Int)) (0 : Int)) (D.ilen m))) (D.nil Int))) (D.ilen m)) false) (D.not (infF (wtF m
    p x_5))) = true → D.and (D.cnd true (D.eq (D.ilen (D.get (starS m) (D.nat (D.rem (D.get p (D.nat (0 : Int)) (0 : Int)) (D.ilen m))) (D.nil Int))) (D.ilen m))
    false) (D.not (infF (wtF m p x_5))) = true → D.and (D.cnd true (D.eq (D.ilen (D.get (starS m) (D.nat (D.rem (D.get p (D.nat (0 : Int)) (0 : Int)) (D.ilen m)))
    (D.nil Int))) (D.ilen m)) false) (D.not (infF (wtF m p x_5))) = true) ∧ (D.and (D.cnd true (D.eq (D.ilen (D.get (starS m) (D.nat (D.rem (D.get p (D.nat (0 :
    Int)) (0 : Int)) (D.ilen m))) (D.nil Int))) (D.ilen m)) false) (D.not (infF (wtF m p x_5))) = true → D.ile (0 : Int) (D.rem (D.get p (D.nat (D.sub (D.ilen p) (1
    : Int))) (0 : Int)) (D.ilen m))) ∧ (D.and (D.cnd true (D.eq (D.ilen (D.get (starS m) (D.nat (D.rem (D.get p (D.nat (0 : Int)) (0 : Int)) (D.ilen m))) (D.nil
    Int))) (D.ilen m)) false) (D.not (infF (wtF m p x_5))) = true → D.ilt (D.rem (D.get p (D.nat (D.sub (D.ilen p) (1 : Int))) (0 : Int)) (D.ilen m)) (D.ilen (D.get
    (starS m) (D.nat (D.rem (D.get p (D.nat (0 : Int)) (0 : Int)) (D.ilen m))) (D.nil Int)))) ∧ (D.and (D.cnd true (D.eq (D.ilen (D.get (starS m) (D.nat (D.rem
    (D.get p (D.nat (0 : Int)) (0 : Int)) (D.ilen m))) (D.nil Int))) (D.ilen m)) false) (D.not (infF (wtF m p x_5))) = true → D.and (D.cnd true (D.eq (D.ilen (D.get
    (starS m) (D.nat (D.rem (D.get p (D.nat (0 : Int)) (0 : Int)) (D.ilen m))) (D.nil Int))) (D.ilen m)) false) (D.not (infF (wtF m p x_5))) = true → D.and (D.cnd
    true (D.eq (D.ilen (D.get (starS m) (D.nat (D.rem (D.get p (D.nat (0 : Int)) (0 : Int)) (D.ilen m))) (D.nil Int))) (D.ilen m)) false) (D.not (infF (wtF m p
    x_5))) = true) ∧ (D.and (D.cnd true (D.eq (D.ilen (D.get (starS m) (D.nat (D.rem (D.get p (D.nat (0 : Int)) (0 : Int)) (D.ilen m))) (D.nil Int))) (D.ilen m))
    false) (D.not (infF (wtF m p x_5))) = true → D.and (D.cnd true (D.eq (D.ilen (D.get (starS m) (D.nat (D.rem (D.get p (D.nat (0 : Int)) (0 : Int)) (D.ilen m)))
    (D.nil Int))) (D.ilen m)) false) (D.not (infF (wtF m p x_5))) = true → D.and (D.cnd true (D.eq (D.ilen (D.get (starS m) (D.nat (D.rem (D.get p (D.nat (0 : Int))
    (0 : Int)) (D.ilen m))) (D.nil Int))) (D.ilen m)) false) (D.not (infF (wtF m p x_5))) = true) ∧ (D.and (D.cnd true (D.eq (D.ilen (D.get (starS m) (D.nat (D.rem
    (D.get p (D.nat (0 : Int)) (0 : Int)) (D.ilen m))) (D.nil Int))) (D.ilen m)) false) (D.not (infF (wtF m p x_5))) = true → D.and (D.cnd true (D.eq (D.ilen (D.get
    (starS m) (D.nat (D.rem (D.get p (D.nat (0 : Int)) (0 : Int)) (D.ilen m))) (D.nil Int))) (D.ilen m)) false) (D.not (infF (wtF m p x_5))) = true → D.and (D.cnd
    true (D.eq (D.ilen (D.get (starS m) (D.nat (D.rem (D.get p (D.nat (0 : Int)) (0 : Int)) (D.ilen m))) (D.nil Int))) (D.ilen m)) false) (D.not (infF (wtF m p
    x_5))) = true) ∧ (D.cnd true (D.eq (D.ilen (D.get (starS m) (D.nat (D.rem (D.get p (D.nat (0 : Int)) (0 : Int)) (D.ilen m))) (D.nil Int))) (D.ilen m)) false =
    true → D.cnd true (D.eq (D.ilen (D.get (starS m) (D.nat (D.rem (D.get p (D.nat (0 : Int)) (0 : Int)) (D.ilen m))) (D.nil Int))) (D.ilen m)) false = true → D.cnd
    true (D.eq (D.ilen (D.get (starS m) (D.nat (D.rem (D.get p (D.nat (0 : Int)) (0 : Int)) (D.ilen m))) (D.nil Int))) (D.ilen m)) false = true) ∧ (D.cnd true (D.eq
    (D.ilen (D.get (starS m) (D.nat (D.rem (D.get p (D.nat (0 : Int)) (0 : Int)) (D.ilen m))) (D.nil Int))) (D.ilen m)) false = true → D.and (D.cnd true (D.eq
    (D.ilen (D.get (starS m) (D.nat (D.rem (D.get p (D.nat (0 : Int)) (0 : Int)) (D.ilen m))) (D.nil Int))) (D.ilen m)) false) (D.not (infF (wtF m p x_5))) = true →
    D.and (D.cnd true (D.eq (D.ilen (D.get (starS m) (D.nat (D.rem (D.get p (D.nat (0 : Int)) (0 : Int)) (D.ilen m))) (D.nil Int))) (D.ilen m)) false) (D.not (infF
    (wtF m p x_5))) = true) ∧ (D.and true (D.cnd true (D.eq (D.ilen (D.get (starS m) (D.nat (D.rem (D.get p (D.nat (0 : Int)) (0 : Int)) (D.ilen m))) (D.nil Int)))
    (D.ilen m)) false) = true → D.cnd true (D.eq (D.ilen (D.get (starS m) (D.nat (D.rem (D.get p (D.nat (0 : Int)) (0 : Int)) (D.ilen m))) (D.nil Int))) (D.ilen m))
    false = true) ∧ D.cnd (D.cnd true (D.eq (D.ilen (D.get (starS m) (D.nat (D.rem (D.get p (D.nat (0 : Int)) (0 : Int)) (D.ilen m))) (D.nil Int))) (D.ilen m))
    false) (D.cnd (infF (wtF m p x_5)) true (D.ge (D.get (D.get (starS m) (D.nat (D.rem (D.get p (D.nat (0 : Int)) (0 : Int)) (D.ilen m))) (D.nil Int)) (D.nat
    (D.rem (D.get p (D.nat (D.sub (D.ilen p) (1 : Int))) (0 : Int)) (D.ilen m))) (0 : Int)) (wtF m p x_5))) false = true ∧ True))))))))) :
    evF c12 (pathA m p) 10 [.dat M m, .dat B8 p] ⟨True, .dat .bool true⟩ := of_eq (by kernel_rfl) h

theorem KS12 : KSound Try.prog K12 := by
  intro f args c h
  unfold K12 at h
  split at h
  · cases h; exact s_rtimes _ _
  · exact KS11 _ _ _ h
end Go.Eng.Mp
