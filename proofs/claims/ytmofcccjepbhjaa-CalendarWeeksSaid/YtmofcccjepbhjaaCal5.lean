/- PeCal5 -/
import Derived.Test.YtmofcccjepbhjaaW21
import Derived.Test.YtmofcccjepbhjaaCal4
set_option linter.unusedSimpArgs false
set_option linter.unusedVariables false
namespace Go.Eng.Cal
open Go.Proofs

abbrev S32 : Ty := .int .i32
abbrev U8 : Ty := .int .u8
noncomputable def r32 (a : Int) : Prop := -2147483648 ≤ a ∧ a ≤ 2147483647
noncomputable def r8 (a : Int) : Prop := 0 ≤ a ∧ a ≤ 255
noncomputable def nextTo (w : List Bool) (h : List Int) (d0 d : Int) : Prop := d0 ≤ d ∧ d ≤ d0 + 60 ∧ ∀ x, nextO w h d0 = some x → d ≤ x
noncomputable def trueTo (w : List Bool) (i : Int) : Nat := ((w.take i.toNat).filter id).length
noncomputable def upTo (w : List Bool) (i : Int) : Prop := 0 ≤ i ∧ i ≤ w.length

noncomputable def K7 : Kt := fun f args m => match f, args, m with
  | 10, [], [] => some ⟨True, .dat .bool true, []⟩
  | _, _, _ => K5 f args m

noncomputable def lawNextA (w : List Bool) (h : List Int) (r : Int) : Ann := ⟨fun id s => match id with
  | 9 => some { α := Int, inv := fun d => nextTo w h (D.rem r 900001) d, st := fun d => put s [(9, .dat I d)], μ := fun d => D.nat (D.sub (D.add (D.rem r 900001) 60) d) }
  | _ => none, fun _ _ => none, fun _ _ => none⟩
noncomputable def lawCountA (w : List Bool) (h : List Int) (a e : Int) : Ann := ⟨fun id s => match id with
  | 9 => some { α := Int, inv := fun d => daysTo (D.add a 1) (D.sub e a) d, st := fun d => put s [(15, .dat I (D.ofN (cntTo w h (D.add a 1) d))), (16, .dat I d)], μ := fun d => D.nat (D.sub (D.add e 1) d) }
  | _ => none, fun _ _ => none, fun _ _ => none⟩
noncomputable def lawWeekA (w : List Bool) : Ann := ⟨fun id s => match id with
  | 8 => some { α := Int, inv := fun i => upTo w i, st := fun i => put s [(7, .dat I (D.ofN (trueTo w i))), (8, .dat I i)], μ := fun i => D.nat (D.sub (D.ilen w) i) }
  | _ => none, fun _ _ => none, fun _ _ => none⟩

theorem vc_ldays (z : Int) (w : List Bool) (h : List Int) (a b : Int) (hvc :
     true = true ∧ (r32 a ∧ r32 b → True ∧ inR IntKind.i64 a ∧ D.ine (1000000001 : Int) (0 : Int) ∧ inR IntKind.i64 b ∧ D.ine (1000000001 : Int) (0 :
    Int) ∧ True ∧ (D.not (fineF z w h) = true → true = true ∧ True) ∧ (D.not (fineF z w h) = false → okLocal z w h (D.rem a (1000000001 : Int)) ∧ okLocal z w h
    (D.rem b (1000000001 : Int)) ∧ inR IntKind.i64 (D.add (D.rem a (1000000001 : Int)) (1440 : Int)) ∧ okLocal z w h (D.add (D.rem a (1000000001 : Int)) (1440 :
    Int)) ∧ (D.not (D.lt (minF z (D.rem a (1000000001 : Int))) (0 : Int)) = true → D.not (D.lt (minF z (D.rem a (1000000001 : Int))) (0 : Int)) = true → D.not (D.lt
    (minF z (D.rem a (1000000001 : Int))) (0 : Int)) = true) ∧ (D.and true (D.not (D.lt (minF z (D.rem a (1000000001 : Int))) (0 : Int))) = true → D.not (D.lt (minF
    z (D.rem a (1000000001 : Int))) (0 : Int)) = true) ∧ (D.not (D.cnd (D.lt (minF z (D.rem a (1000000001 : Int))) (0 : Int)) true (D.gt (minF z (D.rem a
    (1000000001 : Int))) (1439 : Int))) = true → D.not (D.cnd (D.lt (minF z (D.rem a (1000000001 : Int))) (0 : Int)) true (D.gt (minF z (D.rem a (1000000001 :
    Int))) (1439 : Int))) = true → D.not (D.cnd (D.lt (minF z (D.rem a (1000000001 : Int))) (0 : Int)) true (D.gt (minF z (D.rem a (1000000001 : Int))) (1439 :
    Int))) = true) ∧ (D.not (D.cnd (D.lt (minF z (D.rem a (1000000001 : Int))) (0 : Int)) true (D.gt (minF z (D.rem a (1000000001 : Int))) (1439 : Int))) = true →
    D.not (D.cnd (D.lt (minF z (D.rem a (1000000001 : Int))) (0 : Int)) true (D.gt (minF z (D.rem a (1000000001 : Int))) (1439 : Int))) = true → D.not (D.cnd (D.lt
    (minF z (D.rem a (1000000001 : Int))) (0 : Int)) true (D.gt (minF z (D.rem a (1000000001 : Int))) (1439 : Int))) = true) ∧ (D.not (D.cnd (D.lt (minF z (D.rem a
    (1000000001 : Int))) (0 : Int)) true (D.gt (minF z (D.rem a (1000000001 : Int))) (1439 : Int))) = true → D.not (D.cnd (D.lt (minF z (D.rem a (1000000001 :
    Int))) (0 : Int)) true (D.gt (minF z (D.rem a (1000000001 : Int))) (1439 : Int))) = true → D.not (D.cnd (D.lt (minF z (D.rem a (1000000001 : Int))) (0 : Int))
    true (D.gt (minF z (D.rem a (1000000001 : Int))) (1439 : Int))) = true) ∧ (D.not (D.cnd (D.lt (minF z (D.rem a (1000000001 : Int))) (0 : Int)) true (D.gt (minF
    z (D.rem a (1000000001 : Int))) (1439 : Int))) = true → okTime z w h (dayF z (D.rem a (1000000001 : Int))) (minF z (D.rem a (1000000001 : Int)))) ∧ (D.not
    (D.cnd (D.lt (minF z (D.rem a (1000000001 : Int))) (0 : Int)) true (D.gt (minF z (D.rem a (1000000001 : Int))) (1439 : Int))) = true → D.not (D.cnd (D.lt (minF
    z (D.rem a (1000000001 : Int))) (0 : Int)) true (D.gt (minF z (D.rem a (1000000001 : Int))) (1439 : Int))) = true → D.not (D.cnd (D.lt (minF z (D.rem a
    (1000000001 : Int))) (0 : Int)) true (D.gt (minF z (D.rem a (1000000001 : Int))) (1439 : Int))) = true) ∧ (D.not (D.cnd (D.lt (minF z (D.rem a (1000000001 :
    Int))) (0 : Int)) true (D.gt (minF z (D.rem a (1000000001 : Int))) (1439 : Int))) = true → D.not (D.cnd (D.lt (minF z (D.rem a (1000000001 : Int))) (0 : Int))
    true (D.gt (minF z (D.rem a (1000000001 : Int))) (1439 : Int))) = true → D.not (D.cnd (D.lt (minF z (D.rem a (1000000001 : Int))) (0 : Int)) true (D.gt (minF z
    (D.rem a (1000000001 : Int))) (1439 : Int))) = true) ∧ (D.and true (D.not (D.cnd (D.lt (minF z (D.rem a (1000000001 : Int))) (0 : Int)) true (D.gt (minF z
    (D.rem a (1000000001 : Int))) (1439 : Int)))) = true → D.not (D.cnd (D.lt (minF z (D.rem a (1000000001 : Int))) (0 : Int)) true (D.gt (minF z (D.rem a
    (1000000001 : Int))) (1439 : Int))) = true) ∧ (D.not (D.cnd (D.cnd (D.lt (minF z (D.rem a (1000000001 : Int))) (0 : Int)) true (D.gt (minF z (D.rem a
    (1000000001 : Int))) (1439 : Int))) true (D.ne (timeF z (dayF z (D.rem a (1000000001 : Int))) (minF z (D.rem a (1000000001 : Int)))) (D.rem a (1000000001 :
    Int)))) = true → D.not (D.cnd (D.cnd (D.lt (minF z (D.rem a (1000000001 : Int))) (0 : Int)) true (D.gt (minF z (D.rem a (1000000001 : Int))) (1439 : Int))) true
    (D.ne (timeF z (dayF z (D.rem a (1000000001 : Int))) (minF z (D.rem a (1000000001 : Int)))) (D.rem a (1000000001 : Int)))) = true → D.not (D.cnd (D.cnd (D.lt
    (minF z (D.rem a (1000000001 : Int))) (0 : Int)) true (D.gt (minF z (D.rem a (1000000001 : Int))) (1439 : Int))) true (D.ne (timeF z (dayF z (D.rem a
    (1000000001 : Int))) (minF z (D.rem a (1000000001 : Int)))) (D.rem a (1000000001 : Int)))) = true) ∧ (D.not (D.cnd (D.cnd (D.lt (minF z (D.rem a (1000000001 :
    Int))) (0 : Int)) true (D.gt (minF z (D.rem a (1000000001 : Int))) (1439 : Int))) true (D.ne (timeF z (dayF z (D.rem a (1000000001 : Int))) (minF z (D.rem a
    (1000000001 : Int)))) (D.rem a (1000000001 : Int)))) = true → inR IntKind.i64 (D.add (dayF z (D.rem a (1000000001 : Int))) (1 : Int))) ∧ (D.not (D.cnd (D.cnd
    (D.lt (minF z (D.rem a (1000000001 : Int))) (0 : Int)) true (D.gt (minF z (D.rem a (1000000001 : Int))) (1439 : Int))) true (D.ne (timeF z (dayF z (D.rem a
    (1000000001 : Int))) (minF z (D.rem a (1000000001 : Int)))) (D.rem a (1000000001 : Int)))) = true → D.not (D.cnd (D.cnd (D.lt (minF z (D.rem a (1000000001 :
    Int))) (0 : Int)) true (D.gt (minF z (D.rem a (1000000001 : Int))) (1439 : Int))) true (D.ne (timeF z (dayF z (D.rem a (1000000001 : Int))) (minF z (D.rem a
    (1000000001 : Int)))) (D.rem a (1000000001 : Int)))) = true → D.not (D.cnd (D.cnd (D.lt (minF z (D.rem a (1000000001 : Int))) (0 : Int)) true (D.gt (minF z
    (D.rem a (1000000001 : Int))) (1439 : Int))) true (D.ne (timeF z (dayF z (D.rem a (1000000001 : Int))) (minF z (D.rem a (1000000001 : Int)))) (D.rem a
    (1000000001 : Int)))) = true) ∧ (D.not (D.cnd (D.cnd (D.lt (minF z (D.rem a (1000000001 : Int))) (0 : Int)) true (D.gt (minF z (D.rem a (1000000001 : Int)))
    (1439 : Int))) true (D.ne (timeF z (dayF z (D.rem a (1000000001 : Int))) (minF z (D.rem a (1000000001 : Int)))) (D.rem a (1000000001 : Int)))) = true → D.not
    (D.cnd (D.cnd (D.lt (minF z (D.rem a (1000000001 : Int))) (0 : Int)) true (D.gt (minF z (D.rem a (1000000001 : Int))) (1439 : Int))) true (D.ne (timeF z (dayF z
    (D.rem a (1000000001 : Int))) (minF z (D.rem a (1000000001 : Int)))) (D.rem a (1000000001 : Int)))) = true → D.not (D.cnd (D.cnd (D.lt (minF z (D.rem a
    (1000000001 : Int))) (0 : Int)) true (D.gt (minF z (D.rem a (1000000001 : Int))) (1439 : Int))) true (D.ne (timeF z (dayF z (D.rem a (1000000001 : Int))) (minF
    z (D.rem a (1000000001 : Int)))) (D.rem a (1000000001 : Int)))) = true) ∧ (D.and true (D.not (D.cnd (D.cnd (D.lt (minF z (D.rem a (1000000001 : Int))) (0 :
    Int)) true (D.gt (minF z (D.rem a (1000000001 : Int))) (1439 : Int))) true (D.ne (timeF z (dayF z (D.rem a (1000000001 : Int))) (minF z (D.rem a (1000000001 :
    Int)))) (D.rem a (1000000001 : Int))))) = true → D.not (D.cnd (D.cnd (D.lt (minF z (D.rem a (1000000001 : Int))) (0 : Int)) true (D.gt (minF z (D.rem a
    (1000000001 : Int))) (1439 : Int))) true (D.ne (timeF z (dayF z (D.rem a (1000000001 : Int))) (minF z (D.rem a (1000000001 : Int)))) (D.rem a (1000000001 :
    Int)))) = true) ∧ (D.not (D.cnd (D.cnd (D.cnd (D.lt (minF z (D.rem a (1000000001 : Int))) (0 : Int)) true (D.gt (minF z (D.rem a (1000000001 : Int))) (1439 :
    Int))) true (D.ne (timeF z (dayF z (D.rem a (1000000001 : Int))) (minF z (D.rem a (1000000001 : Int)))) (D.rem a (1000000001 : Int)))) true (D.ne (dayF z (D.add
    (D.rem a (1000000001 : Int)) (1440 : Int))) (D.add (dayF z (D.rem a (1000000001 : Int))) (1 : Int)))) = true → D.not (D.cnd (D.cnd (D.cnd (D.lt (minF z (D.rem a
    (1000000001 : Int))) (0 : Int)) true (D.gt (minF z (D.rem a (1000000001 : Int))) (1439 : Int))) true (D.ne (timeF z (dayF z (D.rem a (1000000001 : Int))) (minF
    z (D.rem a (1000000001 : Int)))) (D.rem a (1000000001 : Int)))) true (D.ne (dayF z (D.add (D.rem a (1000000001 : Int)) (1440 : Int))) (D.add (dayF z (D.rem a
    (1000000001 : Int))) (1 : Int)))) = true → D.not (D.cnd (D.cnd (D.cnd (D.lt (minF z (D.rem a (1000000001 : Int))) (0 : Int)) true (D.gt (minF z (D.rem a
    (1000000001 : Int))) (1439 : Int))) true (D.ne (timeF z (dayF z (D.rem a (1000000001 : Int))) (minF z (D.rem a (1000000001 : Int)))) (D.rem a (1000000001 :
    Int)))) true (D.ne (dayF z (D.add (D.rem a (1000000001 : Int)) (1440 : Int))) (D.add (dayF z (D.rem a (1000000001 : Int))) (1 : Int)))) = true) ∧ (D.not (D.cnd
    (D.cnd (D.cnd (D.lt (minF z (D.rem a (1000000001 : Int))) (0 : Int)) true (D.gt (minF z (D.rem a (1000000001 : Int))) (1439 : Int))) true (D.ne (timeF z (dayF z
    (D.rem a (1000000001 : Int))) (minF z (D.rem a (1000000001 : Int)))) (D.rem a (1000000001 : Int)))) true (D.ne (dayF z (D.add (D.rem a (1000000001 : Int)) (1440
    : Int))) (D.add (dayF z (D.rem a (1000000001 : Int))) (1 : Int)))) = true → D.not (D.cnd (D.cnd (D.cnd (D.lt (minF z (D.rem a (1000000001 : Int))) (0 : Int))
    true (D.gt (minF z (D.rem a (1000000001 : Int))) (1439 : Int))) true (D.ne (timeF z (dayF z (D.rem a (1000000001 : Int))) (minF z (D.rem a (1000000001 : Int))))
    (D.rem a (1000000001 : Int)))) true (D.ne (dayF z (D.add (D.rem a (1000000001 : Int)) (1440 : Int))) (D.add (dayF z (D.rem a (1000000001 : Int))) (1 : Int)))) =
    true → D.not (D.cnd (D.cnd (D.cnd (D.lt (minF z (D.rem a (1000000001 : Int))) (0 : Int)) true (D.gt (minF z (D.rem a (1000000001 : Int))) (1439 : Int))) true
    (D.ne (timeF z (dayF z (D.rem a (1000000001 : Int))) (minF z (D.rem a (1000000001 : Int)))) (D.rem a (1000000001 : Int)))) true (D.ne (dayF z (D.add (D.rem a
    (1000000001 : Int)) (1440 : Int))) (D.add (dayF z (D.rem a (1000000001 : Int))) (1 : Int)))) = true) ∧ (D.and true (D.not (D.cnd (D.cnd (D.cnd (D.lt (minF z
    (D.rem a (1000000001 : Int))) (0 : Int)) true (D.gt (minF z (D.rem a (1000000001 : Int))) (1439 : Int))) true (D.ne (timeF z (dayF z (D.rem a (1000000001 :
    Int))) (minF z (D.rem a (1000000001 : Int)))) (D.rem a (1000000001 : Int)))) true (D.ne (dayF z (D.add (D.rem a (1000000001 : Int)) (1440 : Int))) (D.add (dayF
    z (D.rem a (1000000001 : Int))) (1 : Int))))) = true → D.not (D.cnd (D.cnd (D.cnd (D.lt (minF z (D.rem a (1000000001 : Int))) (0 : Int)) true (D.gt (minF z
    (D.rem a (1000000001 : Int))) (1439 : Int))) true (D.ne (timeF z (dayF z (D.rem a (1000000001 : Int))) (minF z (D.rem a (1000000001 : Int)))) (D.rem a
    (1000000001 : Int)))) true (D.ne (dayF z (D.add (D.rem a (1000000001 : Int)) (1440 : Int))) (D.add (dayF z (D.rem a (1000000001 : Int))) (1 : Int)))) = true) ∧
    (D.cnd (D.cnd (D.cnd (D.cnd (D.lt (minF z (D.rem a (1000000001 : Int))) (0 : Int)) true (D.gt (minF z (D.rem a (1000000001 : Int))) (1439 : Int))) true (D.ne
    (timeF z (dayF z (D.rem a (1000000001 : Int))) (minF z (D.rem a (1000000001 : Int)))) (D.rem a (1000000001 : Int)))) true (D.ne (dayF z (D.add (D.rem a
    (1000000001 : Int)) (1440 : Int))) (D.add (dayF z (D.rem a (1000000001 : Int))) (1 : Int)))) true (D.ne (minF z (D.add (D.rem a (1000000001 : Int)) (1440 :
    Int))) (minF z (D.rem a (1000000001 : Int)))) = true → false = true ∧ True) ∧ (D.cnd (D.cnd (D.cnd (D.cnd (D.lt (minF z (D.rem a (1000000001 : Int))) (0 : Int))
    true (D.gt (minF z (D.rem a (1000000001 : Int))) (1439 : Int))) true (D.ne (timeF z (dayF z (D.rem a (1000000001 : Int))) (minF z (D.rem a (1000000001 : Int))))
    (D.rem a (1000000001 : Int)))) true (D.ne (dayF z (D.add (D.rem a (1000000001 : Int)) (1440 : Int))) (D.add (dayF z (D.rem a (1000000001 : Int))) (1 : Int))))
    true (D.ne (minF z (D.add (D.rem a (1000000001 : Int)) (1440 : Int))) (minF z (D.rem a (1000000001 : Int)))) = false → (D.not (D.gt (dayF z (D.rem b (1000000001
    : Int))) (dayF z (D.rem a (1000000001 : Int)))) = true → D.not (D.gt (dayF z (D.rem b (1000000001 : Int))) (dayF z (D.rem a (1000000001 : Int)))) = true → D.not
    (D.gt (dayF z (D.rem b (1000000001 : Int))) (dayF z (D.rem a (1000000001 : Int)))) = true) ∧ (D.not (D.gt (dayF z (D.rem b (1000000001 : Int))) (dayF z (D.rem a
    (1000000001 : Int)))) = true → D.not (D.gt (dayF z (D.rem b (1000000001 : Int))) (dayF z (D.rem a (1000000001 : Int)))) = true → D.not (D.gt (dayF z (D.rem b
    (1000000001 : Int))) (dayF z (D.rem a (1000000001 : Int)))) = true) ∧ (D.not (D.gt (dayF z (D.rem b (1000000001 : Int))) (dayF z (D.rem a (1000000001 : Int))))
    = true → D.not (D.gt (dayF z (D.rem b (1000000001 : Int))) (dayF z (D.rem a (1000000001 : Int)))) = true → D.not (D.gt (dayF z (D.rem b (1000000001 : Int)))
    (dayF z (D.rem a (1000000001 : Int)))) = true) ∧ (D.and (D.not (D.gt (dayF z (D.rem b (1000000001 : Int))) (dayF z (D.rem a (1000000001 : Int))))) (D.eq (dayF z
    (D.rem b (1000000001 : Int))) (dayF z (D.rem a (1000000001 : Int)))) = true → D.and (D.not (D.gt (dayF z (D.rem b (1000000001 : Int))) (dayF z (D.rem a
    (1000000001 : Int))))) (D.eq (dayF z (D.rem b (1000000001 : Int))) (dayF z (D.rem a (1000000001 : Int)))) = true → D.and (D.not (D.gt (dayF z (D.rem b
    (1000000001 : Int))) (dayF z (D.rem a (1000000001 : Int))))) (D.eq (dayF z (D.rem b (1000000001 : Int))) (dayF z (D.rem a (1000000001 : Int)))) = true) ∧ (D.and
    (D.not (D.gt (dayF z (D.rem b (1000000001 : Int))) (dayF z (D.rem a (1000000001 : Int))))) (D.eq (dayF z (D.rem b (1000000001 : Int))) (dayF z (D.rem a
    (1000000001 : Int)))) = true → D.and (D.not (D.gt (dayF z (D.rem b (1000000001 : Int))) (dayF z (D.rem a (1000000001 : Int))))) (D.eq (dayF z (D.rem b
    (1000000001 : Int))) (dayF z (D.rem a (1000000001 : Int)))) = true → D.and (D.not (D.gt (dayF z (D.rem b (1000000001 : Int))) (dayF z (D.rem a (1000000001 :
    Int))))) (D.eq (dayF z (D.rem b (1000000001 : Int))) (dayF z (D.rem a (1000000001 : Int)))) = true) ∧ (D.not (D.gt (dayF z (D.rem b (1000000001 : Int))) (dayF z
    (D.rem a (1000000001 : Int)))) = true → D.not (D.gt (dayF z (D.rem b (1000000001 : Int))) (dayF z (D.rem a (1000000001 : Int)))) = true → D.not (D.gt (dayF z
    (D.rem b (1000000001 : Int))) (dayF z (D.rem a (1000000001 : Int)))) = true) ∧ (D.not (D.gt (dayF z (D.rem b (1000000001 : Int))) (dayF z (D.rem a (1000000001 :
    Int)))) = true → D.and (D.not (D.gt (dayF z (D.rem b (1000000001 : Int))) (dayF z (D.rem a (1000000001 : Int))))) (D.eq (dayF z (D.rem b (1000000001 : Int)))
    (dayF z (D.rem a (1000000001 : Int)))) = true → D.and (D.not (D.gt (dayF z (D.rem b (1000000001 : Int))) (dayF z (D.rem a (1000000001 : Int))))) (D.eq (dayF z
    (D.rem b (1000000001 : Int))) (dayF z (D.rem a (1000000001 : Int)))) = true) ∧ (D.and true (D.not (D.gt (dayF z (D.rem b (1000000001 : Int))) (dayF z (D.rem a
    (1000000001 : Int))))) = true → D.not (D.gt (dayF z (D.rem b (1000000001 : Int))) (dayF z (D.rem a (1000000001 : Int)))) = true) ∧ (true = true → true = true →
    true = true) ∧ (true = true → true = true → true = true) ∧ (true = true → true = true → true = true) ∧ (true = true → true = true → true = true) ∧ (D.and true
    true = true → true = true) ∧ (D.cnd true (D.beq (D.cnd (D.gt (dayF z (D.rem b (1000000001 : Int))) (dayF z (D.rem a (1000000001 : Int)))) true (D.cnd (D.eq
    (dayF z (D.rem b (1000000001 : Int))) (dayF z (D.rem a (1000000001 : Int)))) (D.gt (minF z (D.rem b (1000000001 : Int))) (minF z (D.rem a (1000000001 : Int))))
    false)) (D.gt (D.rem b (1000000001 : Int)) (D.rem a (1000000001 : Int)))) false = true → D.cnd true (D.beq (D.cnd (D.gt (dayF z (D.rem b (1000000001 : Int)))
    (dayF z (D.rem a (1000000001 : Int)))) true (D.cnd (D.eq (dayF z (D.rem b (1000000001 : Int))) (dayF z (D.rem a (1000000001 : Int)))) (D.gt (minF z (D.rem b
    (1000000001 : Int))) (minF z (D.rem a (1000000001 : Int)))) false)) (D.gt (D.rem b (1000000001 : Int)) (D.rem a (1000000001 : Int)))) false = true → D.cnd true
    (D.beq (D.cnd (D.gt (dayF z (D.rem b (1000000001 : Int))) (dayF z (D.rem a (1000000001 : Int)))) true (D.cnd (D.eq (dayF z (D.rem b (1000000001 : Int))) (dayF z
    (D.rem a (1000000001 : Int)))) (D.gt (minF z (D.rem b (1000000001 : Int))) (minF z (D.rem a (1000000001 : Int)))) false)) (D.gt (D.rem b (1000000001 : Int))
    (D.rem a (1000000001 : Int)))) false = true) ∧ (D.cnd true (D.beq (D.cnd (D.gt (dayF z (D.rem b (1000000001 : Int))) (dayF z (D.rem a (1000000001 : Int)))) true
    (D.cnd (D.eq (dayF z (D.rem b (1000000001 : Int))) (dayF z (D.rem a (1000000001 : Int)))) (D.gt (minF z (D.rem b (1000000001 : Int))) (minF z (D.rem a
    (1000000001 : Int)))) false)) (D.gt (D.rem b (1000000001 : Int)) (D.rem a (1000000001 : Int)))) false = true → D.cnd true (D.beq (D.cnd (D.gt (dayF z (D.rem b
    (1000000001 : Int))) (dayF z (D.rem a (1000000001 : Int)))) true (D.cnd (D.eq (dayF z (D.rem b (1000000001 : Int))) (dayF z (D.rem a (1000000001 : Int)))) (D.gt
    (minF z (D.rem b (1000000001 : Int))) (minF z (D.rem a (1000000001 : Int)))) false)) (D.gt (D.rem b (1000000001 : Int)) (D.rem a (1000000001 : Int)))) false =
    true → D.cnd true (D.beq (D.cnd (D.gt (dayF z (D.rem b (1000000001 : Int))) (dayF z (D.rem a (1000000001 : Int)))) true (D.cnd (D.eq (dayF z (D.rem b
    (1000000001 : Int))) (dayF z (D.rem a (1000000001 : Int)))) (D.gt (minF z (D.rem b (1000000001 : Int))) (minF z (D.rem a (1000000001 : Int)))) false)) (D.gt
    (D.rem b (1000000001 : Int)) (D.rem a (1000000001 : Int)))) false = true) ∧ (D.cnd true (D.beq (D.cnd (D.gt (dayF z (D.rem b (1000000001 : Int))) (dayF z (D.rem
    a (1000000001 : Int)))) true (D.cnd (D.eq (dayF z (D.rem b (1000000001 : Int))) (dayF z (D.rem a (1000000001 : Int)))) (D.gt (minF z (D.rem b (1000000001 :
    Int))) (minF z (D.rem a (1000000001 : Int)))) false)) (D.gt (D.rem b (1000000001 : Int)) (D.rem a (1000000001 : Int)))) false = true → D.cnd true (D.beq (D.cnd
    (D.gt (dayF z (D.rem b (1000000001 : Int))) (dayF z (D.rem a (1000000001 : Int)))) true (D.cnd (D.eq (dayF z (D.rem b (1000000001 : Int))) (dayF z (D.rem a
    (1000000001 : Int)))) (D.gt (minF z (D.rem b (1000000001 : Int))) (minF z (D.rem a (1000000001 : Int)))) false)) (D.gt (D.rem b (1000000001 : Int)) (D.rem a
    (1000000001 : Int)))) false = true → D.cnd true (D.beq (D.cnd (D.gt (dayF z (D.rem b (1000000001 : Int))) (dayF z (D.rem a (1000000001 : Int)))) true (D.cnd
    (D.eq (dayF z (D.rem b (1000000001 : Int))) (dayF z (D.rem a (1000000001 : Int)))) (D.gt (minF z (D.rem b (1000000001 : Int))) (minF z (D.rem a (1000000001 :
    Int)))) false)) (D.gt (D.rem b (1000000001 : Int)) (D.rem a (1000000001 : Int)))) false = true) ∧ (D.and (D.cnd true (D.beq (D.cnd (D.gt (dayF z (D.rem b
    (1000000001 : Int))) (dayF z (D.rem a (1000000001 : Int)))) true (D.cnd (D.eq (dayF z (D.rem b (1000000001 : Int))) (dayF z (D.rem a (1000000001 : Int)))) (D.gt
    (minF z (D.rem b (1000000001 : Int))) (minF z (D.rem a (1000000001 : Int)))) false)) (D.gt (D.rem b (1000000001 : Int)) (D.rem a (1000000001 : Int)))) false)
    (D.eq (dayF z (D.rem b (1000000001 : Int))) (dayF z (D.rem a (1000000001 : Int)))) = true → D.and (D.cnd true (D.beq (D.cnd (D.gt (dayF z (D.rem b (1000000001 :
    Int))) (dayF z (D.rem a (1000000001 : Int)))) true (D.cnd (D.eq (dayF z (D.rem b (1000000001 : Int))) (dayF z (D.rem a (1000000001 : Int)))) (D.gt (minF z
    (D.rem b (1000000001 : Int))) (minF z (D.rem a (1000000001 : Int)))) false)) (D.gt (D.rem b (1000000001 : Int)) (D.rem a (1000000001 : Int)))) false) (D.eq
    (dayF z (D.rem b (1000000001 : Int))) (dayF z (D.rem a (1000000001 : Int)))) = true → D.and (D.cnd true (D.beq (D.cnd (D.gt (dayF z (D.rem b (1000000001 :
    Int))) (dayF z (D.rem a (1000000001 : Int)))) true (D.cnd (D.eq (dayF z (D.rem b (1000000001 : Int))) (dayF z (D.rem a (1000000001 : Int)))) (D.gt (minF z
    (D.rem b (1000000001 : Int))) (minF z (D.rem a (1000000001 : Int)))) false)) (D.gt (D.rem b (1000000001 : Int)) (D.rem a (1000000001 : Int)))) false) (D.eq
    (dayF z (D.rem b (1000000001 : Int))) (dayF z (D.rem a (1000000001 : Int)))) = true) ∧ (D.and (D.cnd true (D.beq (D.cnd (D.gt (dayF z (D.rem b (1000000001 :
    Int))) (dayF z (D.rem a (1000000001 : Int)))) true (D.cnd (D.eq (dayF z (D.rem b (1000000001 : Int))) (dayF z (D.rem a (1000000001 : Int)))) (D.gt (minF z
    (D.rem b (1000000001 : Int))) (minF z (D.rem a (1000000001 : Int)))) false)) (D.gt (D.rem b (1000000001 : Int)) (D.rem a (1000000001 : Int)))) false) (D.eq
    (dayF z (D.rem b (1000000001 : Int))) (dayF z (D.rem a (1000000001 : Int)))) = true → D.and (D.cnd true (D.beq (D.cnd (D.gt (dayF z (D.rem b (1000000001 :
    Int))) (dayF z (D.rem a (1000000001 : Int)))) true (D.cnd (D.eq (dayF z (D.rem b (1000000001 : Int))) (dayF z (D.rem a (1000000001 : Int)))) (D.gt (minF z
    (D.rem b (1000000001 : Int))) (minF z (D.rem a (1000000001 : Int)))) false)) (D.gt (D.rem b (1000000001 : Int)) (D.rem a (1000000001 : Int)))) false) (D.eq
    (dayF z (D.rem b (1000000001 : Int))) (dayF z (D.rem a (1000000001 : Int)))) = true → D.and (D.cnd true (D.beq (D.cnd (D.gt (dayF z (D.rem b (1000000001 :
    Int))) (dayF z (D.rem a (1000000001 : Int)))) true (D.cnd (D.eq (dayF z (D.rem b (1000000001 : Int))) (dayF z (D.rem a (1000000001 : Int)))) (D.gt (minF z
    (D.rem b (1000000001 : Int))) (minF z (D.rem a (1000000001 : Int)))) false)) (D.gt (D.rem b (1000000001 : Int)) (D.rem a (1000000001 : Int)))) false) (D.eq
    (dayF z (D.rem b (1000000001 : Int))) (dayF z (D.rem a (1000000001 : Int)))) = true) ∧ (D.cnd true (D.beq (D.cnd (D.gt (dayF z (D.rem b (1000000001 : Int)))
    (dayF z (D.rem a (1000000001 : Int)))) true (D.cnd (D.eq (dayF z (D.rem b (1000000001 : Int))) (dayF z (D.rem a (1000000001 : Int)))) (D.gt (minF z (D.rem b
    (1000000001 : Int))) (minF z (D.rem a (1000000001 : Int)))) false)) (D.gt (D.rem b (1000000001 : Int)) (D.rem a (1000000001 : Int)))) false = true → D.cnd true
    (D.beq (D.cnd (D.gt (dayF z (D.rem b (1000000001 : Int))) (dayF z (D.rem a (1000000001 : Int)))) true (D.cnd (D.eq (dayF z (D.rem b (1000000001 : Int))) (dayF z
    (D.rem a (1000000001 : Int)))) (D.gt (minF z (D.rem b (1000000001 : Int))) (minF z (D.rem a (1000000001 : Int)))) false)) (D.gt (D.rem b (1000000001 : Int))
    (D.rem a (1000000001 : Int)))) false = true → D.cnd true (D.beq (D.cnd (D.gt (dayF z (D.rem b (1000000001 : Int))) (dayF z (D.rem a (1000000001 : Int)))) true
    (D.cnd (D.eq (dayF z (D.rem b (1000000001 : Int))) (dayF z (D.rem a (1000000001 : Int)))) (D.gt (minF z (D.rem b (1000000001 : Int))) (minF z (D.rem a
    (1000000001 : Int)))) false)) (D.gt (D.rem b (1000000001 : Int)) (D.rem a (1000000001 : Int)))) false = true) ∧ (D.cnd true (D.beq (D.cnd (D.gt (dayF z (D.rem b
    (1000000001 : Int))) (dayF z (D.rem a (1000000001 : Int)))) true (D.cnd (D.eq (dayF z (D.rem b (1000000001 : Int))) (dayF z (D.rem a (1000000001 : Int)))) (D.gt
    (minF z (D.rem b (1000000001 : Int))) (minF z (D.rem a (1000000001 : Int)))) false)) (D.gt (D.rem b (1000000001 : Int)) (D.rem a (1000000001 : Int)))) false =
    true → D.and (D.cnd true (D.beq (D.cnd (D.gt (dayF z (D.rem b (1000000001 : Int))) (dayF z (D.rem a (1000000001 : Int)))) true (D.cnd (D.eq (dayF z (D.rem b
    (1000000001 : Int))) (dayF z (D.rem a (1000000001 : Int)))) (D.gt (minF z (D.rem b (1000000001 : Int))) (minF z (D.rem a (1000000001 : Int)))) false)) (D.gt
    (D.rem b (1000000001 : Int)) (D.rem a (1000000001 : Int)))) false) (D.eq (dayF z (D.rem b (1000000001 : Int))) (dayF z (D.rem a (1000000001 : Int)))) = true →
    D.and (D.cnd true (D.beq (D.cnd (D.gt (dayF z (D.rem b (1000000001 : Int))) (dayF z (D.rem a (1000000001 : Int)))) true (D.cnd (D.eq (dayF z (D.rem b
    (1000000001 : Int))) (dayF z (D.rem a (1000000001 : Int)))) (D.gt (minF z (D.rem b (1000000001 : Int))) (minF z (D.rem a (1000000001 : Int)))) false)) (D.gt
    (D.rem b (1000000001 : Int)) (D.rem a (1000000001 : Int)))) false) (D.eq (dayF z (D.rem b (1000000001 : Int))) (dayF z (D.rem a (1000000001 : Int)))) = true) ∧
    (D.cnd true (D.beq (D.cnd (D.gt (dayF z (D.rem b (1000000001 : Int))) (dayF z (D.rem a (1000000001 : Int)))) true (D.cnd (D.eq (dayF z (D.rem b (1000000001 :
    Int))) (dayF z (D.rem a (1000000001 : Int)))) (D.gt (minF z (D.rem b (1000000001 : Int))) (minF z (D.rem a (1000000001 : Int)))) false)) (D.gt (D.rem b
    (1000000001 : Int)) (D.rem a (1000000001 : Int)))) false = true → D.cnd true (D.beq (D.cnd (D.gt (dayF z (D.rem b (1000000001 : Int))) (dayF z (D.rem a
    (1000000001 : Int)))) true (D.cnd (D.eq (dayF z (D.rem b (1000000001 : Int))) (dayF z (D.rem a (1000000001 : Int)))) (D.gt (minF z (D.rem b (1000000001 : Int)))
    (minF z (D.rem a (1000000001 : Int)))) false)) (D.gt (D.rem b (1000000001 : Int)) (D.rem a (1000000001 : Int)))) false = true → D.cnd true (D.beq (D.cnd (D.gt
    (dayF z (D.rem b (1000000001 : Int))) (dayF z (D.rem a (1000000001 : Int)))) true (D.cnd (D.eq (dayF z (D.rem b (1000000001 : Int))) (dayF z (D.rem a
    (1000000001 : Int)))) (D.gt (minF z (D.rem b (1000000001 : Int))) (minF z (D.rem a (1000000001 : Int)))) false)) (D.gt (D.rem b (1000000001 : Int)) (D.rem a
    (1000000001 : Int)))) false = true) ∧ (D.cnd true (D.beq (D.cnd (D.gt (dayF z (D.rem b (1000000001 : Int))) (dayF z (D.rem a (1000000001 : Int)))) true (D.cnd
    (D.eq (dayF z (D.rem b (1000000001 : Int))) (dayF z (D.rem a (1000000001 : Int)))) (D.gt (minF z (D.rem b (1000000001 : Int))) (minF z (D.rem a (1000000001 :
    Int)))) false)) (D.gt (D.rem b (1000000001 : Int)) (D.rem a (1000000001 : Int)))) false = true → D.cnd true (D.beq (D.cnd (D.gt (dayF z (D.rem b (1000000001 :
    Int))) (dayF z (D.rem a (1000000001 : Int)))) true (D.cnd (D.eq (dayF z (D.rem b (1000000001 : Int))) (dayF z (D.rem a (1000000001 : Int)))) (D.gt (minF z
    (D.rem b (1000000001 : Int))) (minF z (D.rem a (1000000001 : Int)))) false)) (D.gt (D.rem b (1000000001 : Int)) (D.rem a (1000000001 : Int)))) false = true →
    D.cnd true (D.beq (D.cnd (D.gt (dayF z (D.rem b (1000000001 : Int))) (dayF z (D.rem a (1000000001 : Int)))) true (D.cnd (D.eq (dayF z (D.rem b (1000000001 :
    Int))) (dayF z (D.rem a (1000000001 : Int)))) (D.gt (minF z (D.rem b (1000000001 : Int))) (minF z (D.rem a (1000000001 : Int)))) false)) (D.gt (D.rem b
    (1000000001 : Int)) (D.rem a (1000000001 : Int)))) false = true) ∧ (D.cnd true (D.beq (D.cnd (D.gt (dayF z (D.rem b (1000000001 : Int))) (dayF z (D.rem a
    (1000000001 : Int)))) true (D.cnd (D.eq (dayF z (D.rem b (1000000001 : Int))) (dayF z (D.rem a (1000000001 : Int)))) (D.gt (minF z (D.rem b (1000000001 : Int)))
    (minF z (D.rem a (1000000001 : Int)))) false)) (D.gt (D.rem b (1000000001 : Int)) (D.rem a (1000000001 : Int)))) false = true → D.cnd true (D.beq (D.cnd (D.gt
    (dayF z (D.rem b (1000000001 : Int))) (dayF z (D.rem a (1000000001 : Int)))) true (D.cnd (D.eq (dayF z (D.rem b (1000000001 : Int))) (dayF z (D.rem a
    (1000000001 : Int)))) (D.gt (minF z (D.rem b (1000000001 : Int))) (minF z (D.rem a (1000000001 : Int)))) false)) (D.gt (D.rem b (1000000001 : Int)) (D.rem a
    (1000000001 : Int)))) false = true → D.cnd true (D.beq (D.cnd (D.gt (dayF z (D.rem b (1000000001 : Int))) (dayF z (D.rem a (1000000001 : Int)))) true (D.cnd
    (D.eq (dayF z (D.rem b (1000000001 : Int))) (dayF z (D.rem a (1000000001 : Int)))) (D.gt (minF z (D.rem b (1000000001 : Int))) (minF z (D.rem a (1000000001 :
    Int)))) false)) (D.gt (D.rem b (1000000001 : Int)) (D.rem a (1000000001 : Int)))) false = true) ∧ (D.cnd true (D.beq (D.cnd (D.gt (dayF z (D.rem b (1000000001 :
    Int))) (dayF z (D.rem a (1000000001 : Int)))) true (D.cnd (D.eq (dayF z (D.rem b (1000000001 : Int))) (dayF z (D.rem a (1000000001 : Int)))) (D.gt (minF z
    (D.rem b (1000000001 : Int))) (minF z (D.rem a (1000000001 : Int)))) false)) (D.gt (D.rem b (1000000001 : Int)) (D.rem a (1000000001 : Int)))) false = true →
    D.cnd true (D.beq (D.cnd (D.gt (dayF z (D.rem b (1000000001 : Int))) (dayF z (D.rem a (1000000001 : Int)))) true (D.cnd (D.eq (dayF z (D.rem b (1000000001 :
    Int))) (dayF z (D.rem a (1000000001 : Int)))) (D.gt (minF z (D.rem b (1000000001 : Int))) (minF z (D.rem a (1000000001 : Int)))) false)) (D.gt (D.rem b
    (1000000001 : Int)) (D.rem a (1000000001 : Int)))) false = true → D.cnd true (D.beq (D.cnd (D.gt (dayF z (D.rem b (1000000001 : Int))) (dayF z (D.rem a
    (1000000001 : Int)))) true (D.cnd (D.eq (dayF z (D.rem b (1000000001 : Int))) (dayF z (D.rem a (1000000001 : Int)))) (D.gt (minF z (D.rem b (1000000001 : Int)))
    (minF z (D.rem a (1000000001 : Int)))) false)) (D.gt (D.rem b (1000000001 : Int)) (D.rem a (1000000001 : Int)))) false = true) ∧ (D.and true (D.cnd true (D.beq
    (D.cnd (D.gt (dayF z (D.rem b (1000000001 : Int))) (dayF z (D.rem a (1000000001 : Int)))) true (D.cnd (D.eq (dayF z (D.rem b (1000000001 : Int))) (dayF z (D.rem
    a (1000000001 : Int)))) (D.gt (minF z (D.rem b (1000000001 : Int))) (minF z (D.rem a (1000000001 : Int)))) false)) (D.gt (D.rem b (1000000001 : Int)) (D.rem a
    (1000000001 : Int)))) false) = true → D.cnd true (D.beq (D.cnd (D.gt (dayF z (D.rem b (1000000001 : Int))) (dayF z (D.rem a (1000000001 : Int)))) true (D.cnd
    (D.eq (dayF z (D.rem b (1000000001 : Int))) (dayF z (D.rem a (1000000001 : Int)))) (D.gt (minF z (D.rem b (1000000001 : Int))) (minF z (D.rem a (1000000001 :
    Int)))) false)) (D.gt (D.rem b (1000000001 : Int)) (D.rem a (1000000001 : Int)))) false = true) ∧ D.cnd (D.cnd true (D.beq (D.cnd (D.gt (dayF z (D.rem b
    (1000000001 : Int))) (dayF z (D.rem a (1000000001 : Int)))) true (D.cnd (D.eq (dayF z (D.rem b (1000000001 : Int))) (dayF z (D.rem a (1000000001 : Int)))) (D.gt
    (minF z (D.rem b (1000000001 : Int))) (minF z (D.rem a (1000000001 : Int)))) false)) (D.gt (D.rem b (1000000001 : Int)) (D.rem a (1000000001 : Int)))) false)
    (D.beq (D.cnd (D.eq (dayF z (D.rem b (1000000001 : Int))) (dayF z (D.rem a (1000000001 : Int)))) (D.eq (minF z (D.rem b (1000000001 : Int))) (minF z (D.rem a
    (1000000001 : Int)))) false) (D.eq (D.rem b (1000000001 : Int)) (D.rem a (1000000001 : Int)))) false = true ∧ True)))) :
    evF (mkc K7) noAnn 3 [cal z w h, .dat S32 a, .dat S32 b] [] ⟨r32 a ∧ r32 b, .dat .bool true, []⟩ := of_eq (by kernel_rfl) hvc

theorem vc_lnext (z : Int) (w : List Bool) (h : List Int) (r : Int) (hvc :
     true = true ∧ (r32 r → True ∧ inR IntKind.i64 r ∧ D.ine (900001 : Int) (0 : Int) ∧ True ∧ (D.not (fineF z w h) = true → true = true ∧ True) ∧
    (D.not (fineF z w h) = false → argP z w h (D.rem r (900001 : Int)) ∧ (D.ne (nextE w h (D.rem r (900001 : Int))) (0 : Int) = true → D.ne (nextE w h (D.rem r
    (900001 : Int))) (0 : Int) = true → D.ne (nextE w h (D.rem r (900001 : Int))) (0 : Int) = true) ∧ (D.ne (nextE w h (D.rem r (900001 : Int))) (0 : Int) = true →
    D.ne (nextE w h (D.rem r (900001 : Int))) (0 : Int) = true → D.ne (nextE w h (D.rem r (900001 : Int))) (0 : Int) = true) ∧ (D.and (D.ne (nextE w h (D.rem r
    (900001 : Int))) (0 : Int)) (D.not (D.ne (nextE w h (D.rem r (900001 : Int))) (20 : Int))) = true → D.and (D.ne (nextE w h (D.rem r (900001 : Int))) (0 : Int))
    (D.not (D.ne (nextE w h (D.rem r (900001 : Int))) (20 : Int))) = true → D.and (D.ne (nextE w h (D.rem r (900001 : Int))) (0 : Int)) (D.not (D.ne (nextE w h
    (D.rem r (900001 : Int))) (20 : Int))) = true) ∧ (D.ne (nextE w h (D.rem r (900001 : Int))) (0 : Int) = true → D.ne (nextE w h (D.rem r (900001 : Int))) (0 :
    Int) = true → D.ne (nextE w h (D.rem r (900001 : Int))) (0 : Int) = true) ∧ (D.ne (nextE w h (D.rem r (900001 : Int))) (0 : Int) = true → D.and (D.ne (nextE w h
    (D.rem r (900001 : Int))) (0 : Int)) (D.not (D.ne (nextE w h (D.rem r (900001 : Int))) (20 : Int))) = true → D.and (D.ne (nextE w h (D.rem r (900001 : Int))) (0
    : Int)) (D.not (D.ne (nextE w h (D.rem r (900001 : Int))) (20 : Int))) = true) ∧ (D.and true (D.ne (nextE w h (D.rem r (900001 : Int))) (0 : Int)) = true → D.ne
    (nextE w h (D.rem r (900001 : Int))) (0 : Int) = true) ∧ (D.not (D.cnd (D.ne (nextE w h (D.rem r (900001 : Int))) (0 : Int)) (D.cnd (D.ne (nextE w h (D.rem r
    (900001 : Int))) (20 : Int)) true (D.ne (nextD w h (D.rem r (900001 : Int))) (0 : Int))) false) = true → D.not (D.cnd (D.ne (nextE w h (D.rem r (900001 : Int)))
    (0 : Int)) (D.cnd (D.ne (nextE w h (D.rem r (900001 : Int))) (20 : Int)) true (D.ne (nextD w h (D.rem r (900001 : Int))) (0 : Int))) false) = true → D.not
    (D.cnd (D.ne (nextE w h (D.rem r (900001 : Int))) (0 : Int)) (D.cnd (D.ne (nextE w h (D.rem r (900001 : Int))) (20 : Int)) true (D.ne (nextD w h (D.rem r
    (900001 : Int))) (0 : Int))) false) = true) ∧ (D.not (D.cnd (D.ne (nextE w h (D.rem r (900001 : Int))) (0 : Int)) (D.cnd (D.ne (nextE w h (D.rem r (900001 :
    Int))) (20 : Int)) true (D.ne (nextD w h (D.rem r (900001 : Int))) (0 : Int))) false) = true → D.not (D.cnd (D.ne (nextE w h (D.rem r (900001 : Int))) (0 :
    Int)) (D.cnd (D.ne (nextE w h (D.rem r (900001 : Int))) (20 : Int)) true (D.ne (nextD w h (D.rem r (900001 : Int))) (0 : Int))) false) = true → D.not (D.cnd
    (D.ne (nextE w h (D.rem r (900001 : Int))) (0 : Int)) (D.cnd (D.ne (nextE w h (D.rem r (900001 : Int))) (20 : Int)) true (D.ne (nextD w h (D.rem r (900001 :
    Int))) (0 : Int))) false) = true) ∧ (D.and (D.not (D.cnd (D.ne (nextE w h (D.rem r (900001 : Int))) (0 : Int)) (D.cnd (D.ne (nextE w h (D.rem r (900001 : Int)))
    (20 : Int)) true (D.ne (nextD w h (D.rem r (900001 : Int))) (0 : Int))) false)) (D.eq (nextE w h (D.rem r (900001 : Int))) (0 : Int)) = true → D.and (D.not
    (D.cnd (D.ne (nextE w h (D.rem r (900001 : Int))) (0 : Int)) (D.cnd (D.ne (nextE w h (D.rem r (900001 : Int))) (20 : Int)) true (D.ne (nextD w h (D.rem r
    (900001 : Int))) (0 : Int))) false)) (D.eq (nextE w h (D.rem r (900001 : Int))) (0 : Int)) = true → D.and (D.not (D.cnd (D.ne (nextE w h (D.rem r (900001 :
    Int))) (0 : Int)) (D.cnd (D.ne (nextE w h (D.rem r (900001 : Int))) (20 : Int)) true (D.ne (nextD w h (D.rem r (900001 : Int))) (0 : Int))) false)) (D.eq (nextE
    w h (D.rem r (900001 : Int))) (0 : Int)) = true) ∧ (D.and (D.not (D.cnd (D.ne (nextE w h (D.rem r (900001 : Int))) (0 : Int)) (D.cnd (D.ne (nextE w h (D.rem r
    (900001 : Int))) (20 : Int)) true (D.ne (nextD w h (D.rem r (900001 : Int))) (0 : Int))) false)) (D.eq (nextE w h (D.rem r (900001 : Int))) (0 : Int)) = true →
    D.and (D.not (D.cnd (D.ne (nextE w h (D.rem r (900001 : Int))) (0 : Int)) (D.cnd (D.ne (nextE w h (D.rem r (900001 : Int))) (20 : Int)) true (D.ne (nextD w h
    (D.rem r (900001 : Int))) (0 : Int))) false)) (D.eq (nextE w h (D.rem r (900001 : Int))) (0 : Int)) = true → D.and (D.not (D.cnd (D.ne (nextE w h (D.rem r
    (900001 : Int))) (0 : Int)) (D.cnd (D.ne (nextE w h (D.rem r (900001 : Int))) (20 : Int)) true (D.ne (nextD w h (D.rem r (900001 : Int))) (0 : Int))) false))
    (D.eq (nextE w h (D.rem r (900001 : Int))) (0 : Int)) = true) ∧ (D.and (D.not (D.cnd (D.ne (nextE w h (D.rem r (900001 : Int))) (0 : Int)) (D.cnd (D.ne (nextE w
    h (D.rem r (900001 : Int))) (20 : Int)) true (D.ne (nextD w h (D.rem r (900001 : Int))) (0 : Int))) false)) (D.eq (nextE w h (D.rem r (900001 : Int))) (0 :
    Int)) = true → D.and (D.not (D.cnd (D.ne (nextE w h (D.rem r (900001 : Int))) (0 : Int)) (D.cnd (D.ne (nextE w h (D.rem r (900001 : Int))) (20 : Int)) true
    (D.ne (nextD w h (D.rem r (900001 : Int))) (0 : Int))) false)) (D.eq (nextE w h (D.rem r (900001 : Int))) (0 : Int)) = true → D.and (D.not (D.cnd (D.ne (nextE w
    h (D.rem r (900001 : Int))) (0 : Int)) (D.cnd (D.ne (nextE w h (D.rem r (900001 : Int))) (20 : Int)) true (D.ne (nextD w h (D.rem r (900001 : Int))) (0 : Int)))
    false)) (D.eq (nextE w h (D.rem r (900001 : Int))) (0 : Int)) = true) ∧ (D.and (D.and (D.not (D.cnd (D.ne (nextE w h (D.rem r (900001 : Int))) (0 : Int)) (D.cnd
    (D.ne (nextE w h (D.rem r (900001 : Int))) (20 : Int)) true (D.ne (nextD w h (D.rem r (900001 : Int))) (0 : Int))) false)) (D.eq (nextE w h (D.rem r (900001 :
    Int))) (0 : Int))) (D.not (D.lt (nextD w h (D.rem r (900001 : Int))) (D.rem r (900001 : Int)))) = true → D.and (D.and (D.not (D.cnd (D.ne (nextE w h (D.rem r
    (900001 : Int))) (0 : Int)) (D.cnd (D.ne (nextE w h (D.rem r (900001 : Int))) (20 : Int)) true (D.ne (nextD w h (D.rem r (900001 : Int))) (0 : Int))) false))
    (D.eq (nextE w h (D.rem r (900001 : Int))) (0 : Int))) (D.not (D.lt (nextD w h (D.rem r (900001 : Int))) (D.rem r (900001 : Int)))) = true → D.and (D.and (D.not
    (D.cnd (D.ne (nextE w h (D.rem r (900001 : Int))) (0 : Int)) (D.cnd (D.ne (nextE w h (D.rem r (900001 : Int))) (20 : Int)) true (D.ne (nextD w h (D.rem r
    (900001 : Int))) (0 : Int))) false)) (D.eq (nextE w h (D.rem r (900001 : Int))) (0 : Int))) (D.not (D.lt (nextD w h (D.rem r (900001 : Int))) (D.rem r (900001 :
    Int)))) = true) ∧ (D.and (D.and (D.not (D.cnd (D.ne (nextE w h (D.rem r (900001 : Int))) (0 : Int)) (D.cnd (D.ne (nextE w h (D.rem r (900001 : Int))) (20 :
    Int)) true (D.ne (nextD w h (D.rem r (900001 : Int))) (0 : Int))) false)) (D.eq (nextE w h (D.rem r (900001 : Int))) (0 : Int))) (D.not (D.lt (nextD w h (D.rem
    r (900001 : Int))) (D.rem r (900001 : Int)))) = true → inR IntKind.i64 (D.add (D.rem r (900001 : Int)) (60 : Int))) ∧ (D.and (D.and (D.not (D.cnd (D.ne (nextE w
    h (D.rem r (900001 : Int))) (0 : Int)) (D.cnd (D.ne (nextE w h (D.rem r (900001 : Int))) (20 : Int)) true (D.ne (nextD w h (D.rem r (900001 : Int))) (0 : Int)))
    false)) (D.eq (nextE w h (D.rem r (900001 : Int))) (0 : Int))) (D.not (D.lt (nextD w h (D.rem r (900001 : Int))) (D.rem r (900001 : Int)))) = true → D.and
    (D.and (D.not (D.cnd (D.ne (nextE w h (D.rem r (900001 : Int))) (0 : Int)) (D.cnd (D.ne (nextE w h (D.rem r (900001 : Int))) (20 : Int)) true (D.ne (nextD w h
    (D.rem r (900001 : Int))) (0 : Int))) false)) (D.eq (nextE w h (D.rem r (900001 : Int))) (0 : Int))) (D.not (D.lt (nextD w h (D.rem r (900001 : Int))) (D.rem r
    (900001 : Int)))) = true → D.and (D.and (D.not (D.cnd (D.ne (nextE w h (D.rem r (900001 : Int))) (0 : Int)) (D.cnd (D.ne (nextE w h (D.rem r (900001 : Int)))
    (20 : Int)) true (D.ne (nextD w h (D.rem r (900001 : Int))) (0 : Int))) false)) (D.eq (nextE w h (D.rem r (900001 : Int))) (0 : Int))) (D.not (D.lt (nextD w h
    (D.rem r (900001 : Int))) (D.rem r (900001 : Int)))) = true) ∧ (D.and (D.and (D.not (D.cnd (D.ne (nextE w h (D.rem r (900001 : Int))) (0 : Int)) (D.cnd (D.ne
    (nextE w h (D.rem r (900001 : Int))) (20 : Int)) true (D.ne (nextD w h (D.rem r (900001 : Int))) (0 : Int))) false)) (D.eq (nextE w h (D.rem r (900001 : Int)))
    (0 : Int))) (D.not (D.lt (nextD w h (D.rem r (900001 : Int))) (D.rem r (900001 : Int)))) = true → D.and (D.and (D.not (D.cnd (D.ne (nextE w h (D.rem r (900001 :
    Int))) (0 : Int)) (D.cnd (D.ne (nextE w h (D.rem r (900001 : Int))) (20 : Int)) true (D.ne (nextD w h (D.rem r (900001 : Int))) (0 : Int))) false)) (D.eq (nextE
    w h (D.rem r (900001 : Int))) (0 : Int))) (D.not (D.lt (nextD w h (D.rem r (900001 : Int))) (D.rem r (900001 : Int)))) = true → D.and (D.and (D.not (D.cnd (D.ne
    (nextE w h (D.rem r (900001 : Int))) (0 : Int)) (D.cnd (D.ne (nextE w h (D.rem r (900001 : Int))) (20 : Int)) true (D.ne (nextD w h (D.rem r (900001 : Int))) (0
    : Int))) false)) (D.eq (nextE w h (D.rem r (900001 : Int))) (0 : Int))) (D.not (D.lt (nextD w h (D.rem r (900001 : Int))) (D.rem r (900001 : Int)))) = true) ∧
    (D.and (D.not (D.cnd (D.ne (nextE w h (D.rem r (900001 : Int))) (0 : Int)) (D.cnd (D.ne (nextE w h (D.rem r (900001 : Int))) (20 : Int)) true (D.ne (nextD w h
    (D.rem r (900001 : Int))) (0 : Int))) false)) (D.eq (nextE w h (D.rem r (900001 : Int))) (0 : Int)) = true → D.and (D.not (D.cnd (D.ne (nextE w h (D.rem r
    (900001 : Int))) (0 : Int)) (D.cnd (D.ne (nextE w h (D.rem r (900001 : Int))) (20 : Int)) true (D.ne (nextD w h (D.rem r (900001 : Int))) (0 : Int))) false))
    (D.eq (nextE w h (D.rem r (900001 : Int))) (0 : Int)) = true → D.and (D.not (D.cnd (D.ne (nextE w h (D.rem r (900001 : Int))) (0 : Int)) (D.cnd (D.ne (nextE w h
    (D.rem r (900001 : Int))) (20 : Int)) true (D.ne (nextD w h (D.rem r (900001 : Int))) (0 : Int))) false)) (D.eq (nextE w h (D.rem r (900001 : Int))) (0 : Int))
    = true) ∧ (D.and (D.not (D.cnd (D.ne (nextE w h (D.rem r (900001 : Int))) (0 : Int)) (D.cnd (D.ne (nextE w h (D.rem r (900001 : Int))) (20 : Int)) true (D.ne
    (nextD w h (D.rem r (900001 : Int))) (0 : Int))) false)) (D.eq (nextE w h (D.rem r (900001 : Int))) (0 : Int)) = true → D.and (D.and (D.not (D.cnd (D.ne (nextE
    w h (D.rem r (900001 : Int))) (0 : Int)) (D.cnd (D.ne (nextE w h (D.rem r (900001 : Int))) (20 : Int)) true (D.ne (nextD w h (D.rem r (900001 : Int))) (0 :
    Int))) false)) (D.eq (nextE w h (D.rem r (900001 : Int))) (0 : Int))) (D.not (D.lt (nextD w h (D.rem r (900001 : Int))) (D.rem r (900001 : Int)))) = true →
    D.and (D.and (D.not (D.cnd (D.ne (nextE w h (D.rem r (900001 : Int))) (0 : Int)) (D.cnd (D.ne (nextE w h (D.rem r (900001 : Int))) (20 : Int)) true (D.ne (nextD
    w h (D.rem r (900001 : Int))) (0 : Int))) false)) (D.eq (nextE w h (D.rem r (900001 : Int))) (0 : Int))) (D.not (D.lt (nextD w h (D.rem r (900001 : Int)))
    (D.rem r (900001 : Int)))) = true) ∧ (D.not (D.cnd (D.ne (nextE w h (D.rem r (900001 : Int))) (0 : Int)) (D.cnd (D.ne (nextE w h (D.rem r (900001 : Int))) (20 :
    Int)) true (D.ne (nextD w h (D.rem r (900001 : Int))) (0 : Int))) false) = true → D.not (D.cnd (D.ne (nextE w h (D.rem r (900001 : Int))) (0 : Int)) (D.cnd
    (D.ne (nextE w h (D.rem r (900001 : Int))) (20 : Int)) true (D.ne (nextD w h (D.rem r (900001 : Int))) (0 : Int))) false) = true → D.not (D.cnd (D.ne (nextE w h
    (D.rem r (900001 : Int))) (0 : Int)) (D.cnd (D.ne (nextE w h (D.rem r (900001 : Int))) (20 : Int)) true (D.ne (nextD w h (D.rem r (900001 : Int))) (0 : Int)))
    false) = true) ∧ (D.not (D.cnd (D.ne (nextE w h (D.rem r (900001 : Int))) (0 : Int)) (D.cnd (D.ne (nextE w h (D.rem r (900001 : Int))) (20 : Int)) true (D.ne
    (nextD w h (D.rem r (900001 : Int))) (0 : Int))) false) = true → D.and (D.not (D.cnd (D.ne (nextE w h (D.rem r (900001 : Int))) (0 : Int)) (D.cnd (D.ne (nextE w
    h (D.rem r (900001 : Int))) (20 : Int)) true (D.ne (nextD w h (D.rem r (900001 : Int))) (0 : Int))) false)) (D.eq (nextE w h (D.rem r (900001 : Int))) (0 :
    Int)) = true → D.and (D.not (D.cnd (D.ne (nextE w h (D.rem r (900001 : Int))) (0 : Int)) (D.cnd (D.ne (nextE w h (D.rem r (900001 : Int))) (20 : Int)) true
    (D.ne (nextD w h (D.rem r (900001 : Int))) (0 : Int))) false)) (D.eq (nextE w h (D.rem r (900001 : Int))) (0 : Int)) = true) ∧ (D.and true (D.not (D.cnd (D.ne
    (nextE w h (D.rem r (900001 : Int))) (0 : Int)) (D.cnd (D.ne (nextE w h (D.rem r (900001 : Int))) (20 : Int)) true (D.ne (nextD w h (D.rem r (900001 : Int))) (0
    : Int))) false)) = true → D.not (D.cnd (D.ne (nextE w h (D.rem r (900001 : Int))) (0 : Int)) (D.cnd (D.ne (nextE w h (D.rem r (900001 : Int))) (20 : Int)) true
    (D.ne (nextD w h (D.rem r (900001 : Int))) (0 : Int))) false) = true) ∧ (D.cnd (D.cnd (D.ne (nextE w h (D.rem r (900001 : Int))) (0 : Int)) (D.cnd (D.ne (nextE
    w h (D.rem r (900001 : Int))) (20 : Int)) true (D.ne (nextD w h (D.rem r (900001 : Int))) (0 : Int))) false) true (D.cnd (D.eq (nextE w h (D.rem r (900001 :
    Int))) (0 : Int)) (D.cnd (D.lt (nextD w h (D.rem r (900001 : Int))) (D.rem r (900001 : Int))) true (D.ge (nextD w h (D.rem r (900001 : Int))) (D.add (D.rem r
    (900001 : Int)) (60 : Int)))) false) = true → false = true ∧ True) ∧ (D.cnd (D.cnd (D.ne (nextE w h (D.rem r (900001 : Int))) (0 : Int)) (D.cnd (D.ne (nextE w h
    (D.rem r (900001 : Int))) (20 : Int)) true (D.ne (nextD w h (D.rem r (900001 : Int))) (0 : Int))) false) true (D.cnd (D.eq (nextE w h (D.rem r (900001 : Int)))
    (0 : Int)) (D.cnd (D.lt (nextD w h (D.rem r (900001 : Int))) (D.rem r (900001 : Int))) true (D.ge (nextD w h (D.rem r (900001 : Int))) (D.add (D.rem r (900001 :
    Int)) (60 : Int)))) false) = false → (∃ x, nextTo w h (D.rem r (900001 : Int)) x ∧ z = z ∧ w = w ∧ h = h ∧ r = r ∧ (z, w, h) = (z, w, h) ∧ true = true ∧ D.rem r
    (900001 : Int) = D.rem r (900001 : Int) ∧ nextD w h (D.rem r (900001 : Int)) = nextD w h (D.rem r (900001 : Int)) ∧ nextE w h (D.rem r (900001 : Int)) = nextE w
    h (D.rem r (900001 : Int)) ∧ D.rem r (900001 : Int) = x ∧ true = true ∧ r = r ∧ r = r ∧ D.rem r (900001 : Int) = D.rem r (900001 : Int) ∧ z = z ∧ w = w ∧ h = h
    ∧ fineF z w h = fineF z w h ∧ D.not (fineF z w h) = D.not (fineF z w h) ∧ nextD w h (D.rem r (900001 : Int)) = nextD w h (D.rem r (900001 : Int)) ∧ nextE w h
    (D.rem r (900001 : Int)) = nextE w h (D.rem r (900001 : Int)) ∧ z = z ∧ w = w ∧ h = h ∧ D.rem r (900001 : Int) = D.rem r (900001 : Int) ∧ nextD w h (D.rem r
    (900001 : Int)) = nextD w h (D.rem r (900001 : Int)) ∧ nextE w h (D.rem r (900001 : Int)) = nextE w h (D.rem r (900001 : Int)) ∧ nextD w h (D.rem r (900001 :
    Int)) = nextD w h (D.rem r (900001 : Int)) ∧ nextE w h (D.rem r (900001 : Int)) = nextE w h (D.rem r (900001 : Int)) ∧ nextE w h (D.rem r (900001 : Int)) =
    nextE w h (D.rem r (900001 : Int)) ∧ D.ne (nextE w h (D.rem r (900001 : Int))) (0 : Int) = D.ne (nextE w h (D.rem r (900001 : Int))) (0 : Int) ∧ D.ne (nextE w h
    (D.rem r (900001 : Int))) (0 : Int) = D.ne (nextE w h (D.rem r (900001 : Int))) (0 : Int) ∧ D.cnd (D.ne (nextE w h (D.rem r (900001 : Int))) (0 : Int)) (D.cnd
    (D.ne (nextE w h (D.rem r (900001 : Int))) (20 : Int)) true (D.ne (nextD w h (D.rem r (900001 : Int))) (0 : Int))) false = D.cnd (D.ne (nextE w h (D.rem r
    (900001 : Int))) (0 : Int)) (D.cnd (D.ne (nextE w h (D.rem r (900001 : Int))) (20 : Int)) true (D.ne (nextD w h (D.rem r (900001 : Int))) (0 : Int))) false ∧
    D.cnd (D.ne (nextE w h (D.rem r (900001 : Int))) (0 : Int)) (D.cnd (D.ne (nextE w h (D.rem r (900001 : Int))) (20 : Int)) true (D.ne (nextD w h (D.rem r (900001
    : Int))) (0 : Int))) false = D.cnd (D.ne (nextE w h (D.rem r (900001 : Int))) (0 : Int)) (D.cnd (D.ne (nextE w h (D.rem r (900001 : Int))) (20 : Int)) true
    (D.ne (nextD w h (D.rem r (900001 : Int))) (0 : Int))) false ∧ D.cnd (D.cnd (D.ne (nextE w h (D.rem r (900001 : Int))) (0 : Int)) (D.cnd (D.ne (nextE w h (D.rem
    r (900001 : Int))) (20 : Int)) true (D.ne (nextD w h (D.rem r (900001 : Int))) (0 : Int))) false) true (D.cnd (D.eq (nextE w h (D.rem r (900001 : Int))) (0 :
    Int)) (D.cnd (D.lt (nextD w h (D.rem r (900001 : Int))) (D.rem r (900001 : Int))) true (D.ge (nextD w h (D.rem r (900001 : Int))) (D.add (D.rem r (900001 :
    Int)) (60 : Int)))) false) = D.cnd (D.cnd (D.ne (nextE w h (D.rem r (900001 : Int))) (0 : Int)) (D.cnd (D.ne (nextE w h (D.rem r (900001 : Int))) (20 : Int))
    true (D.ne (nextD w h (D.rem r (900001 : Int))) (0 : Int))) false) true (D.cnd (D.eq (nextE w h (D.rem r (900001 : Int))) (0 : Int)) (D.cnd (D.lt (nextD w h
    (D.rem r (900001 : Int))) (D.rem r (900001 : Int))) true (D.ge (nextD w h (D.rem r (900001 : Int))) (D.add (D.rem r (900001 : Int)) (60 : Int)))) false) ∧ D.rem
    r (900001 : Int) = D.rem r (900001 : Int) ∧ True) ∧ ∀ (x : Int), nextTo w h (D.rem r (900001 : Int)) x → inR IntKind.i64 (D.add (D.rem r (900001 : Int)) (60 :
    Int)) ∧ (D.lt x (D.add (D.rem r (900001 : Int)) (60 : Int)) = true → (D.eq (nextE w h (D.rem r (900001 : Int))) (0 : Int) = true → D.eq (nextE w h (D.rem r
    (900001 : Int))) (0 : Int) = true → D.eq (nextE w h (D.rem r (900001 : Int))) (0 : Int) = true) ∧ (D.eq (nextE w h (D.rem r (900001 : Int))) (0 : Int) = true →
    D.eq (nextE w h (D.rem r (900001 : Int))) (0 : Int) = true → D.eq (nextE w h (D.rem r (900001 : Int))) (0 : Int) = true) ∧ (D.and true (D.eq (nextE w h (D.rem r
    (900001 : Int))) (0 : Int)) = true → D.eq (nextE w h (D.rem r (900001 : Int))) (0 : Int) = true) ∧ (D.cnd (D.eq (nextE w h (D.rem r (900001 : Int))) (0 : Int))
    (D.eq x (nextD w h (D.rem r (900001 : Int)))) false = true → inR IntKind.i64 (D.add (D.rem r (900001 : Int)) (1 : Int)) ∧ argP z w h (D.add (D.rem r (900001 :
    Int)) (1 : Int)) ∧ (D.eq (nextE w h (D.rem r (900001 : Int))) (0 : Int) = true → D.eq (nextE w h (D.rem r (900001 : Int))) (0 : Int) = true → D.eq (nextE w h
    (D.rem r (900001 : Int))) (0 : Int) = true) ∧ (D.eq (nextE w h (D.rem r (900001 : Int))) (0 : Int) = true → D.eq (nextE w h (D.rem r (900001 : Int))) (0 : Int)
    = true → D.eq (nextE w h (D.rem r (900001 : Int))) (0 : Int) = true) ∧ (D.eq (nextE w h (D.rem r (900001 : Int))) (0 : Int) = true → validF z w h = true ∧
    inDays (nextD w h (D.rem r (900001 : Int))) = true) ∧ (D.eq (nextE w h (D.rem r (900001 : Int))) (0 : Int) = true → D.eq (nextE w h (D.rem r (900001 : Int))) (0
    : Int) = true → D.eq (nextE w h (D.rem r (900001 : Int))) (0 : Int) = true) ∧ (D.and true (D.eq (nextE w h (D.rem r (900001 : Int))) (0 : Int)) = true → D.eq
    (nextE w h (D.rem r (900001 : Int))) (0 : Int) = true) ∧ (D.not (D.cnd (D.eq (nextE w h (D.rem r (900001 : Int))) (0 : Int)) (D.not (workF w h (nextD w h (D.rem
    r (900001 : Int))))) false) = true → D.not (D.cnd (D.eq (nextE w h (D.rem r (900001 : Int))) (0 : Int)) (D.not (workF w h (nextD w h (D.rem r (900001 : Int)))))
    false) = true → D.not (D.cnd (D.eq (nextE w h (D.rem r (900001 : Int))) (0 : Int)) (D.not (workF w h (nextD w h (D.rem r (900001 : Int))))) false) = true) ∧
    (D.not (D.cnd (D.eq (nextE w h (D.rem r (900001 : Int))) (0 : Int)) (D.not (workF w h (nextD w h (D.rem r (900001 : Int))))) false) = true → D.not (D.cnd (D.eq
    (nextE w h (D.rem r (900001 : Int))) (0 : Int)) (D.not (workF w h (nextD w h (D.rem r (900001 : Int))))) false) = true → D.not (D.cnd (D.eq (nextE w h (D.rem r
    (900001 : Int))) (0 : Int)) (D.not (workF w h (nextD w h (D.rem r (900001 : Int))))) false) = true) ∧ (D.not (D.cnd (D.eq (nextE w h (D.rem r (900001 : Int)))
    (0 : Int)) (D.not (workF w h (nextD w h (D.rem r (900001 : Int))))) false) = true → validF z w h = true ∧ inDays (D.rem r (900001 : Int)) = true) ∧ (D.not
    (D.cnd (D.eq (nextE w h (D.rem r (900001 : Int))) (0 : Int)) (D.not (workF w h (nextD w h (D.rem r (900001 : Int))))) false) = true → D.not (D.cnd (D.eq (nextE
    w h (D.rem r (900001 : Int))) (0 : Int)) (D.not (workF w h (nextD w h (D.rem r (900001 : Int))))) false) = true → D.not (D.cnd (D.eq (nextE w h (D.rem r (900001
    : Int))) (0 : Int)) (D.not (workF w h (nextD w h (D.rem r (900001 : Int))))) false) = true) ∧ (D.and (D.not (D.cnd (D.eq (nextE w h (D.rem r (900001 : Int))) (0
    : Int)) (D.not (workF w h (nextD w h (D.rem r (900001 : Int))))) false)) (workF w h (D.rem r (900001 : Int))) = true → D.and (D.not (D.cnd (D.eq (nextE w h
    (D.rem r (900001 : Int))) (0 : Int)) (D.not (workF w h (nextD w h (D.rem r (900001 : Int))))) false)) (workF w h (D.rem r (900001 : Int))) = true → D.and (D.not
    (D.cnd (D.eq (nextE w h (D.rem r (900001 : Int))) (0 : Int)) (D.not (workF w h (nextD w h (D.rem r (900001 : Int))))) false)) (workF w h (D.rem r (900001 :
    Int))) = true) ∧ (D.and (D.not (D.cnd (D.eq (nextE w h (D.rem r (900001 : Int))) (0 : Int)) (D.not (workF w h (nextD w h (D.rem r (900001 : Int))))) false))
    (workF w h (D.rem r (900001 : Int))) = true → D.and (D.not (D.cnd (D.eq (nextE w h (D.rem r (900001 : Int))) (0 : Int)) (D.not (workF w h (nextD w h (D.rem r
    (900001 : Int))))) false)) (workF w h (D.rem r (900001 : Int))) = true → D.and (D.not (D.cnd (D.eq (nextE w h (D.rem r (900001 : Int))) (0 : Int)) (D.not (workF
    w h (nextD w h (D.rem r (900001 : Int))))) false)) (workF w h (D.rem r (900001 : Int))) = true) ∧ (D.not (D.cnd (D.eq (nextE w h (D.rem r (900001 : Int))) (0 :
    Int)) (D.not (workF w h (nextD w h (D.rem r (900001 : Int))))) false) = true → D.not (D.cnd (D.eq (nextE w h (D.rem r (900001 : Int))) (0 : Int)) (D.not (workF
    w h (nextD w h (D.rem r (900001 : Int))))) false) = true → D.not (D.cnd (D.eq (nextE w h (D.rem r (900001 : Int))) (0 : Int)) (D.not (workF w h (nextD w h
    (D.rem r (900001 : Int))))) false) = true) ∧ (D.not (D.cnd (D.eq (nextE w h (D.rem r (900001 : Int))) (0 : Int)) (D.not (workF w h (nextD w h (D.rem r (900001 :
    Int))))) false) = true → D.and (D.not (D.cnd (D.eq (nextE w h (D.rem r (900001 : Int))) (0 : Int)) (D.not (workF w h (nextD w h (D.rem r (900001 : Int)))))
    false)) (workF w h (D.rem r (900001 : Int))) = true → D.and (D.not (D.cnd (D.eq (nextE w h (D.rem r (900001 : Int))) (0 : Int)) (D.not (workF w h (nextD w h
    (D.rem r (900001 : Int))))) false)) (workF w h (D.rem r (900001 : Int))) = true) ∧ (D.and true (D.not (D.cnd (D.eq (nextE w h (D.rem r (900001 : Int))) (0 :
    Int)) (D.not (workF w h (nextD w h (D.rem r (900001 : Int))))) false)) = true → D.not (D.cnd (D.eq (nextE w h (D.rem r (900001 : Int))) (0 : Int)) (D.not (workF
    w h (nextD w h (D.rem r (900001 : Int))))) false) = true) ∧ (D.cnd (D.cnd (D.eq (nextE w h (D.rem r (900001 : Int))) (0 : Int)) (D.not (workF w h (nextD w h
    (D.rem r (900001 : Int))))) false) true (D.cnd (workF w h (D.rem r (900001 : Int))) (D.ne (nextD w h (D.rem r (900001 : Int))) (D.rem r (900001 : Int))) false)
    = true → false = true ∧ True) ∧ (D.cnd (D.cnd (D.eq (nextE w h (D.rem r (900001 : Int))) (0 : Int)) (D.not (workF w h (nextD w h (D.rem r (900001 : Int)))))
    false) true (D.cnd (workF w h (D.rem r (900001 : Int))) (D.ne (nextD w h (D.rem r (900001 : Int))) (D.rem r (900001 : Int))) false) = false → (true = true →
    true = true → true = true) ∧ (true = true → true = true → true = true) ∧ (D.and true (D.not (D.ne (nextE w h (D.rem r (900001 : Int))) (0 : Int))) = true →
    D.and true (D.not (D.ne (nextE w h (D.rem r (900001 : Int))) (0 : Int))) = true → D.and true (D.not (D.ne (nextE w h (D.rem r (900001 : Int))) (0 : Int))) =
    true) ∧ (true = true → true = true → true = true) ∧ (true = true → D.and true (D.not (D.ne (nextE w h (D.rem r (900001 : Int))) (0 : Int))) = true → D.and true
    (D.not (D.ne (nextE w h (D.rem r (900001 : Int))) (0 : Int))) = true) ∧ (true = true → true = true → true = true) ∧ (D.and true (D.not (D.cnd (D.ne (nextE w h
    (D.rem r (900001 : Int))) (0 : Int)) true (D.ne (nextE w h (D.add (D.rem r (900001 : Int)) (1 : Int))) (0 : Int)))) = true → D.and true (D.not (D.cnd (D.ne
    (nextE w h (D.rem r (900001 : Int))) (0 : Int)) true (D.ne (nextE w h (D.add (D.rem r (900001 : Int)) (1 : Int))) (0 : Int)))) = true → D.and true (D.not (D.cnd
    (D.ne (nextE w h (D.rem r (900001 : Int))) (0 : Int)) true (D.ne (nextE w h (D.add (D.rem r (900001 : Int)) (1 : Int))) (0 : Int)))) = true) ∧ (D.and true
    (D.not (D.cnd (D.ne (nextE w h (D.rem r (900001 : Int))) (0 : Int)) true (D.ne (nextE w h (D.add (D.rem r (900001 : Int)) (1 : Int))) (0 : Int)))) = true →
    D.and true (D.not (D.cnd (D.ne (nextE w h (D.rem r (900001 : Int))) (0 : Int)) true (D.ne (nextE w h (D.add (D.rem r (900001 : Int)) (1 : Int))) (0 : Int)))) =
    true → D.and true (D.not (D.cnd (D.ne (nextE w h (D.rem r (900001 : Int))) (0 : Int)) true (D.ne (nextE w h (D.add (D.rem r (900001 : Int)) (1 : Int))) (0 :
    Int)))) = true) ∧ (true = true → true = true → true = true) ∧ (true = true → D.and true (D.not (D.cnd (D.ne (nextE w h (D.rem r (900001 : Int))) (0 : Int)) true
    (D.ne (nextE w h (D.add (D.rem r (900001 : Int)) (1 : Int))) (0 : Int)))) = true → D.and true (D.not (D.cnd (D.ne (nextE w h (D.rem r (900001 : Int))) (0 :
    Int)) true (D.ne (nextE w h (D.add (D.rem r (900001 : Int)) (1 : Int))) (0 : Int)))) = true) ∧ (D.and true true = true → true = true) ∧ D.cnd true (D.cnd (D.cnd
    (D.ne (nextE w h (D.rem r (900001 : Int))) (0 : Int)) true (D.ne (nextE w h (D.add (D.rem r (900001 : Int)) (1 : Int))) (0 : Int))) true (D.ge (nextD w h (D.add
    (D.rem r (900001 : Int)) (1 : Int))) (nextD w h (D.rem r (900001 : Int))))) false = true ∧ True)) ∧ (D.cnd (D.eq (nextE w h (D.rem r (900001 : Int))) (0 : Int))
    (D.eq x (nextD w h (D.rem r (900001 : Int)))) false = false → (validF z w h = true ∧ inDays x = true) ∧ (workF w h x = true → false = true ∧ True) ∧ (workF w h
    x = false → inR IntKind.i64 (D.add x (1 : Int)) ∧ ∃ y, nextTo w h (D.rem r (900001 : Int)) y ∧ (z = z ∧ w = w ∧ h = h ∧ r = r ∧ (z, w, h) = (z, w, h) ∧ true =
    true ∧ D.rem r (900001 : Int) = D.rem r (900001 : Int) ∧ nextD w h (D.rem r (900001 : Int)) = nextD w h (D.rem r (900001 : Int)) ∧ nextE w h (D.rem r (900001 :
    Int)) = nextE w h (D.rem r (900001 : Int)) ∧ D.add x (1 : Int) = y ∧ true = true ∧ r = r ∧ r = r ∧ D.rem r (900001 : Int) = D.rem r (900001 : Int) ∧ z = z ∧ w =
    w ∧ h = h ∧ fineF z w h = fineF z w h ∧ D.not (fineF z w h) = D.not (fineF z w h) ∧ nextD w h (D.rem r (900001 : Int)) = nextD w h (D.rem r (900001 : Int)) ∧
    nextE w h (D.rem r (900001 : Int)) = nextE w h (D.rem r (900001 : Int)) ∧ z = z ∧ w = w ∧ h = h ∧ D.rem r (900001 : Int) = D.rem r (900001 : Int) ∧ nextD w h
    (D.rem r (900001 : Int)) = nextD w h (D.rem r (900001 : Int)) ∧ nextE w h (D.rem r (900001 : Int)) = nextE w h (D.rem r (900001 : Int)) ∧ nextD w h (D.rem r
    (900001 : Int)) = nextD w h (D.rem r (900001 : Int)) ∧ nextE w h (D.rem r (900001 : Int)) = nextE w h (D.rem r (900001 : Int)) ∧ nextE w h (D.rem r (900001 :
    Int)) = nextE w h (D.rem r (900001 : Int)) ∧ D.ne (nextE w h (D.rem r (900001 : Int))) (0 : Int) = D.ne (nextE w h (D.rem r (900001 : Int))) (0 : Int) ∧ D.ne
    (nextE w h (D.rem r (900001 : Int))) (0 : Int) = D.ne (nextE w h (D.rem r (900001 : Int))) (0 : Int) ∧ D.cnd (D.ne (nextE w h (D.rem r (900001 : Int))) (0 :
    Int)) (D.cnd (D.ne (nextE w h (D.rem r (900001 : Int))) (20 : Int)) true (D.ne (nextD w h (D.rem r (900001 : Int))) (0 : Int))) false = D.cnd (D.ne (nextE w h
    (D.rem r (900001 : Int))) (0 : Int)) (D.cnd (D.ne (nextE w h (D.rem r (900001 : Int))) (20 : Int)) true (D.ne (nextD w h (D.rem r (900001 : Int))) (0 : Int)))
    false ∧ D.cnd (D.ne (nextE w h (D.rem r (900001 : Int))) (0 : Int)) (D.cnd (D.ne (nextE w h (D.rem r (900001 : Int))) (20 : Int)) true (D.ne (nextD w h (D.rem r
    (900001 : Int))) (0 : Int))) false = D.cnd (D.ne (nextE w h (D.rem r (900001 : Int))) (0 : Int)) (D.cnd (D.ne (nextE w h (D.rem r (900001 : Int))) (20 : Int))
    true (D.ne (nextD w h (D.rem r (900001 : Int))) (0 : Int))) false ∧ D.cnd (D.cnd (D.ne (nextE w h (D.rem r (900001 : Int))) (0 : Int)) (D.cnd (D.ne (nextE w h
    (D.rem r (900001 : Int))) (20 : Int)) true (D.ne (nextD w h (D.rem r (900001 : Int))) (0 : Int))) false) true (D.cnd (D.eq (nextE w h (D.rem r (900001 : Int)))
    (0 : Int)) (D.cnd (D.lt (nextD w h (D.rem r (900001 : Int))) (D.rem r (900001 : Int))) true (D.ge (nextD w h (D.rem r (900001 : Int))) (D.add (D.rem r (900001 :
    Int)) (60 : Int)))) false) = D.cnd (D.cnd (D.ne (nextE w h (D.rem r (900001 : Int))) (0 : Int)) (D.cnd (D.ne (nextE w h (D.rem r (900001 : Int))) (20 : Int))
    true (D.ne (nextD w h (D.rem r (900001 : Int))) (0 : Int))) false) true (D.cnd (D.eq (nextE w h (D.rem r (900001 : Int))) (0 : Int)) (D.cnd (D.lt (nextD w h
    (D.rem r (900001 : Int))) (D.rem r (900001 : Int))) true (D.ge (nextD w h (D.rem r (900001 : Int))) (D.add (D.rem r (900001 : Int)) (60 : Int)))) false) ∧ D.rem
    r (900001 : Int) = D.rem r (900001 : Int) ∧ True) ∧ D.nlt (D.nat (D.sub (D.add (D.rem r (900001 : Int)) (60 : Int)) y)) (D.nat (D.sub (D.add (D.rem r (900001 :
    Int)) (60 : Int)) x))))) ∧ (D.lt x (D.add (D.rem r (900001 : Int)) (60 : Int)) = false → inR IntKind.i64 (D.add (D.rem r (900001 : Int)) (1 : Int)) ∧ argP z w h
    (D.add (D.rem r (900001 : Int)) (1 : Int)) ∧ (D.eq (nextE w h (D.rem r (900001 : Int))) (0 : Int) = true → D.eq (nextE w h (D.rem r (900001 : Int))) (0 : Int) =
    true → D.eq (nextE w h (D.rem r (900001 : Int))) (0 : Int) = true) ∧ (D.eq (nextE w h (D.rem r (900001 : Int))) (0 : Int) = true → D.eq (nextE w h (D.rem r
    (900001 : Int))) (0 : Int) = true → D.eq (nextE w h (D.rem r (900001 : Int))) (0 : Int) = true) ∧ (D.eq (nextE w h (D.rem r (900001 : Int))) (0 : Int) = true →
    validF z w h = true ∧ inDays (nextD w h (D.rem r (900001 : Int))) = true) ∧ (D.eq (nextE w h (D.rem r (900001 : Int))) (0 : Int) = true → D.eq (nextE w h (D.rem
    r (900001 : Int))) (0 : Int) = true → D.eq (nextE w h (D.rem r (900001 : Int))) (0 : Int) = true) ∧ (D.and true (D.eq (nextE w h (D.rem r (900001 : Int))) (0 :
    Int)) = true → D.eq (nextE w h (D.rem r (900001 : Int))) (0 : Int) = true) ∧ (D.not (D.cnd (D.eq (nextE w h (D.rem r (900001 : Int))) (0 : Int)) (D.not (workF w
    h (nextD w h (D.rem r (900001 : Int))))) false) = true → D.not (D.cnd (D.eq (nextE w h (D.rem r (900001 : Int))) (0 : Int)) (D.not (workF w h (nextD w h (D.rem
    r (900001 : Int))))) false) = true → D.not (D.cnd (D.eq (nextE w h (D.rem r (900001 : Int))) (0 : Int)) (D.not (workF w h (nextD w h (D.rem r (900001 : Int)))))
    false) = true) ∧ (D.not (D.cnd (D.eq (nextE w h (D.rem r (900001 : Int))) (0 : Int)) (D.not (workF w h (nextD w h (D.rem r (900001 : Int))))) false) = true →
    D.not (D.cnd (D.eq (nextE w h (D.rem r (900001 : Int))) (0 : Int)) (D.not (workF w h (nextD w h (D.rem r (900001 : Int))))) false) = true → D.not (D.cnd (D.eq
    (nextE w h (D.rem r (900001 : Int))) (0 : Int)) (D.not (workF w h (nextD w h (D.rem r (900001 : Int))))) false) = true) ∧ (D.not (D.cnd (D.eq (nextE w h (D.rem
    r (900001 : Int))) (0 : Int)) (D.not (workF w h (nextD w h (D.rem r (900001 : Int))))) false) = true → validF z w h = true ∧ inDays (D.rem r (900001 : Int)) =
    true) ∧ (D.not (D.cnd (D.eq (nextE w h (D.rem r (900001 : Int))) (0 : Int)) (D.not (workF w h (nextD w h (D.rem r (900001 : Int))))) false) = true → D.not
    (D.cnd (D.eq (nextE w h (D.rem r (900001 : Int))) (0 : Int)) (D.not (workF w h (nextD w h (D.rem r (900001 : Int))))) false) = true → D.not (D.cnd (D.eq (nextE
    w h (D.rem r (900001 : Int))) (0 : Int)) (D.not (workF w h (nextD w h (D.rem r (900001 : Int))))) false) = true) ∧ (D.and (D.not (D.cnd (D.eq (nextE w h (D.rem
    r (900001 : Int))) (0 : Int)) (D.not (workF w h (nextD w h (D.rem r (900001 : Int))))) false)) (workF w h (D.rem r (900001 : Int))) = true → D.and (D.not (D.cnd
    (D.eq (nextE w h (D.rem r (900001 : Int))) (0 : Int)) (D.not (workF w h (nextD w h (D.rem r (900001 : Int))))) false)) (workF w h (D.rem r (900001 : Int))) =
    true → D.and (D.not (D.cnd (D.eq (nextE w h (D.rem r (900001 : Int))) (0 : Int)) (D.not (workF w h (nextD w h (D.rem r (900001 : Int))))) false)) (workF w h
    (D.rem r (900001 : Int))) = true) ∧ (D.and (D.not (D.cnd (D.eq (nextE w h (D.rem r (900001 : Int))) (0 : Int)) (D.not (workF w h (nextD w h (D.rem r (900001 :
    Int))))) false)) (workF w h (D.rem r (900001 : Int))) = true → D.and (D.not (D.cnd (D.eq (nextE w h (D.rem r (900001 : Int))) (0 : Int)) (D.not (workF w h
    (nextD w h (D.rem r (900001 : Int))))) false)) (workF w h (D.rem r (900001 : Int))) = true → D.and (D.not (D.cnd (D.eq (nextE w h (D.rem r (900001 : Int))) (0 :
    Int)) (D.not (workF w h (nextD w h (D.rem r (900001 : Int))))) false)) (workF w h (D.rem r (900001 : Int))) = true) ∧ (D.not (D.cnd (D.eq (nextE w h (D.rem r
    (900001 : Int))) (0 : Int)) (D.not (workF w h (nextD w h (D.rem r (900001 : Int))))) false) = true → D.not (D.cnd (D.eq (nextE w h (D.rem r (900001 : Int))) (0
    : Int)) (D.not (workF w h (nextD w h (D.rem r (900001 : Int))))) false) = true → D.not (D.cnd (D.eq (nextE w h (D.rem r (900001 : Int))) (0 : Int)) (D.not
    (workF w h (nextD w h (D.rem r (900001 : Int))))) false) = true) ∧ (D.not (D.cnd (D.eq (nextE w h (D.rem r (900001 : Int))) (0 : Int)) (D.not (workF w h (nextD
    w h (D.rem r (900001 : Int))))) false) = true → D.and (D.not (D.cnd (D.eq (nextE w h (D.rem r (900001 : Int))) (0 : Int)) (D.not (workF w h (nextD w h (D.rem r
    (900001 : Int))))) false)) (workF w h (D.rem r (900001 : Int))) = true → D.and (D.not (D.cnd (D.eq (nextE w h (D.rem r (900001 : Int))) (0 : Int)) (D.not (workF
    w h (nextD w h (D.rem r (900001 : Int))))) false)) (workF w h (D.rem r (900001 : Int))) = true) ∧ (D.and true (D.not (D.cnd (D.eq (nextE w h (D.rem r (900001 :
    Int))) (0 : Int)) (D.not (workF w h (nextD w h (D.rem r (900001 : Int))))) false)) = true → D.not (D.cnd (D.eq (nextE w h (D.rem r (900001 : Int))) (0 : Int))
    (D.not (workF w h (nextD w h (D.rem r (900001 : Int))))) false) = true) ∧ (D.cnd (D.cnd (D.eq (nextE w h (D.rem r (900001 : Int))) (0 : Int)) (D.not (workF w h
    (nextD w h (D.rem r (900001 : Int))))) false) true (D.cnd (workF w h (D.rem r (900001 : Int))) (D.ne (nextD w h (D.rem r (900001 : Int))) (D.rem r (900001 :
    Int))) false) = true → false = true ∧ True) ∧ (D.cnd (D.cnd (D.eq (nextE w h (D.rem r (900001 : Int))) (0 : Int)) (D.not (workF w h (nextD w h (D.rem r (900001
    : Int))))) false) true (D.cnd (workF w h (D.rem r (900001 : Int))) (D.ne (nextD w h (D.rem r (900001 : Int))) (D.rem r (900001 : Int))) false) = false → (true =
    true → true = true → true = true) ∧ (true = true → true = true → true = true) ∧ (D.and true (D.not (D.ne (nextE w h (D.rem r (900001 : Int))) (0 : Int))) = true
    → D.and true (D.not (D.ne (nextE w h (D.rem r (900001 : Int))) (0 : Int))) = true → D.and true (D.not (D.ne (nextE w h (D.rem r (900001 : Int))) (0 : Int))) =
    true) ∧ (true = true → true = true → true = true) ∧ (true = true → D.and true (D.not (D.ne (nextE w h (D.rem r (900001 : Int))) (0 : Int))) = true → D.and true
    (D.not (D.ne (nextE w h (D.rem r (900001 : Int))) (0 : Int))) = true) ∧ (true = true → true = true → true = true) ∧ (D.and true (D.not (D.cnd (D.ne (nextE w h
    (D.rem r (900001 : Int))) (0 : Int)) true (D.ne (nextE w h (D.add (D.rem r (900001 : Int)) (1 : Int))) (0 : Int)))) = true → D.and true (D.not (D.cnd (D.ne
    (nextE w h (D.rem r (900001 : Int))) (0 : Int)) true (D.ne (nextE w h (D.add (D.rem r (900001 : Int)) (1 : Int))) (0 : Int)))) = true → D.and true (D.not (D.cnd
    (D.ne (nextE w h (D.rem r (900001 : Int))) (0 : Int)) true (D.ne (nextE w h (D.add (D.rem r (900001 : Int)) (1 : Int))) (0 : Int)))) = true) ∧ (D.and true
    (D.not (D.cnd (D.ne (nextE w h (D.rem r (900001 : Int))) (0 : Int)) true (D.ne (nextE w h (D.add (D.rem r (900001 : Int)) (1 : Int))) (0 : Int)))) = true →
    D.and true (D.not (D.cnd (D.ne (nextE w h (D.rem r (900001 : Int))) (0 : Int)) true (D.ne (nextE w h (D.add (D.rem r (900001 : Int)) (1 : Int))) (0 : Int)))) =
    true → D.and true (D.not (D.cnd (D.ne (nextE w h (D.rem r (900001 : Int))) (0 : Int)) true (D.ne (nextE w h (D.add (D.rem r (900001 : Int)) (1 : Int))) (0 :
    Int)))) = true) ∧ (true = true → true = true → true = true) ∧ (true = true → D.and true (D.not (D.cnd (D.ne (nextE w h (D.rem r (900001 : Int))) (0 : Int)) true
    (D.ne (nextE w h (D.add (D.rem r (900001 : Int)) (1 : Int))) (0 : Int)))) = true → D.and true (D.not (D.cnd (D.ne (nextE w h (D.rem r (900001 : Int))) (0 :
    Int)) true (D.ne (nextE w h (D.add (D.rem r (900001 : Int)) (1 : Int))) (0 : Int)))) = true) ∧ (D.and true true = true → true = true) ∧ D.cnd true (D.cnd (D.cnd
    (D.ne (nextE w h (D.rem r (900001 : Int))) (0 : Int)) true (D.ne (nextE w h (D.add (D.rem r (900001 : Int)) (1 : Int))) (0 : Int))) true (D.ge (nextD w h (D.add
    (D.rem r (900001 : Int)) (1 : Int))) (nextD w h (D.rem r (900001 : Int))))) false = true ∧ True)))))) :
    evF (mkc K7) (lawNextA w h r) 4 [cal z w h, .dat S32 r] [] ⟨r32 r, .dat .bool true, []⟩ := of_eq (by kernel_rfl) hvc

theorem vc_ladds (z : Int) (w : List Bool) (h : List Int) (r p q : Int) (hvc :
     true = true ∧ (r32 r ∧ r8 p ∧ r8 q → True ∧ inR IntKind.i64 r ∧ D.ine (900001 : Int) (0 : Int) ∧ inR IntKind.i64 p ∧ D.ine (61 : Int) (0 :
    Int) ∧ inR IntKind.i64 q ∧ D.ine (61 : Int) (0 : Int) ∧ True ∧ (D.not (fineF z w h) = true → true = true ∧ True) ∧ (D.not (fineF z w h) = false → addP z w h
    (D.rem r (900001 : Int)) (D.rem p (61 : Int)) ∧ inR IntKind.i64 (D.add (D.rem p (61 : Int)) (D.rem q (61 : Int))) ∧ addP z w h (D.rem r (900001 : Int)) (D.add
    (D.rem p (61 : Int)) (D.rem q (61 : Int))) ∧ (D.ne (addE w h (D.rem r (900001 : Int)) (D.rem p (61 : Int))) (0 : Int) = true → (true = true → true = true → true
    = true) ∧ (D.and true true = true → true = true) ∧ (D.cnd true (D.eq (addE w h (D.rem r (900001 : Int)) (D.rem p (61 : Int))) (20 : Int)) false = true → D.cnd
    true (D.eq (addE w h (D.rem r (900001 : Int)) (D.rem p (61 : Int))) (20 : Int)) false = true → D.cnd true (D.eq (addE w h (D.rem r (900001 : Int)) (D.rem p (61
    : Int))) (20 : Int)) false = true) ∧ (D.and true (D.cnd true (D.eq (addE w h (D.rem r (900001 : Int)) (D.rem p (61 : Int))) (20 : Int)) false) = true → D.cnd
    true (D.eq (addE w h (D.rem r (900001 : Int)) (D.rem p (61 : Int))) (20 : Int)) false = true) ∧ (D.cnd (D.cnd true (D.eq (addE w h (D.rem r (900001 : Int))
    (D.rem p (61 : Int))) (20 : Int)) false) (D.eq (addE w h (D.rem r (900001 : Int)) (D.add (D.rem p (61 : Int)) (D.rem q (61 : Int)))) (20 : Int)) false = true →
    D.cnd (D.cnd true (D.eq (addE w h (D.rem r (900001 : Int)) (D.rem p (61 : Int))) (20 : Int)) false) (D.eq (addE w h (D.rem r (900001 : Int)) (D.add (D.rem p (61
    : Int)) (D.rem q (61 : Int)))) (20 : Int)) false = true → D.cnd (D.cnd true (D.eq (addE w h (D.rem r (900001 : Int)) (D.rem p (61 : Int))) (20 : Int)) false)
    (D.eq (addE w h (D.rem r (900001 : Int)) (D.add (D.rem p (61 : Int)) (D.rem q (61 : Int)))) (20 : Int)) false = true) ∧ (D.and true (D.cnd (D.cnd true (D.eq
    (addE w h (D.rem r (900001 : Int)) (D.rem p (61 : Int))) (20 : Int)) false) (D.eq (addE w h (D.rem r (900001 : Int)) (D.add (D.rem p (61 : Int)) (D.rem q (61 :
    Int)))) (20 : Int)) false) = true → D.cnd (D.cnd true (D.eq (addE w h (D.rem r (900001 : Int)) (D.rem p (61 : Int))) (20 : Int)) false) (D.eq (addE w h (D.rem r
    (900001 : Int)) (D.add (D.rem p (61 : Int)) (D.rem q (61 : Int)))) (20 : Int)) false = true) ∧ (D.cnd (D.cnd (D.cnd true (D.eq (addE w h (D.rem r (900001 :
    Int)) (D.rem p (61 : Int))) (20 : Int)) false) (D.eq (addE w h (D.rem r (900001 : Int)) (D.add (D.rem p (61 : Int)) (D.rem q (61 : Int)))) (20 : Int)) false)
    (D.eq (addD w h (D.rem r (900001 : Int)) (D.rem p (61 : Int))) (0 : Int)) false = true → D.cnd (D.cnd (D.cnd true (D.eq (addE w h (D.rem r (900001 : Int))
    (D.rem p (61 : Int))) (20 : Int)) false) (D.eq (addE w h (D.rem r (900001 : Int)) (D.add (D.rem p (61 : Int)) (D.rem q (61 : Int)))) (20 : Int)) false) (D.eq
    (addD w h (D.rem r (900001 : Int)) (D.rem p (61 : Int))) (0 : Int)) false = true → D.cnd (D.cnd (D.cnd true (D.eq (addE w h (D.rem r (900001 : Int)) (D.rem p
    (61 : Int))) (20 : Int)) false) (D.eq (addE w h (D.rem r (900001 : Int)) (D.add (D.rem p (61 : Int)) (D.rem q (61 : Int)))) (20 : Int)) false) (D.eq (addD w h
    (D.rem r (900001 : Int)) (D.rem p (61 : Int))) (0 : Int)) false = true) ∧ (D.and true (D.cnd (D.cnd (D.cnd true (D.eq (addE w h (D.rem r (900001 : Int)) (D.rem
    p (61 : Int))) (20 : Int)) false) (D.eq (addE w h (D.rem r (900001 : Int)) (D.add (D.rem p (61 : Int)) (D.rem q (61 : Int)))) (20 : Int)) false) (D.eq (addD w h
    (D.rem r (900001 : Int)) (D.rem p (61 : Int))) (0 : Int)) false) = true → D.cnd (D.cnd (D.cnd true (D.eq (addE w h (D.rem r (900001 : Int)) (D.rem p (61 :
    Int))) (20 : Int)) false) (D.eq (addE w h (D.rem r (900001 : Int)) (D.add (D.rem p (61 : Int)) (D.rem q (61 : Int)))) (20 : Int)) false) (D.eq (addD w h (D.rem
    r (900001 : Int)) (D.rem p (61 : Int))) (0 : Int)) false = true) ∧ D.cnd (D.cnd (D.cnd (D.cnd true (D.eq (addE w h (D.rem r (900001 : Int)) (D.rem p (61 :
    Int))) (20 : Int)) false) (D.eq (addE w h (D.rem r (900001 : Int)) (D.add (D.rem p (61 : Int)) (D.rem q (61 : Int)))) (20 : Int)) false) (D.eq (addD w h (D.rem
    r (900001 : Int)) (D.rem p (61 : Int))) (0 : Int)) false) (D.eq (addD w h (D.rem r (900001 : Int)) (D.add (D.rem p (61 : Int)) (D.rem q (61 : Int)))) (0 : Int))
    false = true ∧ True) ∧ (D.ne (addE w h (D.rem r (900001 : Int)) (D.rem p (61 : Int))) (0 : Int) = false → addP z w h (addD w h (D.rem r (900001 : Int)) (D.rem p
    (61 : Int))) (D.rem q (61 : Int)) ∧ (D.not (D.ne (addE w h (addD w h (D.rem r (900001 : Int)) (D.rem p (61 : Int))) (D.rem q (61 : Int))) (addE w h (D.rem r
    (900001 : Int)) (D.add (D.rem p (61 : Int)) (D.rem q (61 : Int))))) = true → D.not (D.ne (addE w h (addD w h (D.rem r (900001 : Int)) (D.rem p (61 : Int)))
    (D.rem q (61 : Int))) (addE w h (D.rem r (900001 : Int)) (D.add (D.rem p (61 : Int)) (D.rem q (61 : Int))))) = true → D.not (D.ne (addE w h (addD w h (D.rem r
    (900001 : Int)) (D.rem p (61 : Int))) (D.rem q (61 : Int))) (addE w h (D.rem r (900001 : Int)) (D.add (D.rem p (61 : Int)) (D.rem q (61 : Int))))) = true) ∧
    (D.not (D.ne (addE w h (addD w h (D.rem r (900001 : Int)) (D.rem p (61 : Int))) (D.rem q (61 : Int))) (addE w h (D.rem r (900001 : Int)) (D.add (D.rem p (61 :
    Int)) (D.rem q (61 : Int))))) = true → D.not (D.ne (addE w h (addD w h (D.rem r (900001 : Int)) (D.rem p (61 : Int))) (D.rem q (61 : Int))) (addE w h (D.rem r
    (900001 : Int)) (D.add (D.rem p (61 : Int)) (D.rem q (61 : Int))))) = true → D.not (D.ne (addE w h (addD w h (D.rem r (900001 : Int)) (D.rem p (61 : Int)))
    (D.rem q (61 : Int))) (addE w h (D.rem r (900001 : Int)) (D.add (D.rem p (61 : Int)) (D.rem q (61 : Int))))) = true) ∧ (D.and true (D.not (D.ne (addE w h (addD
    w h (D.rem r (900001 : Int)) (D.rem p (61 : Int))) (D.rem q (61 : Int))) (addE w h (D.rem r (900001 : Int)) (D.add (D.rem p (61 : Int)) (D.rem q (61 : Int))))))
    = true → D.not (D.ne (addE w h (addD w h (D.rem r (900001 : Int)) (D.rem p (61 : Int))) (D.rem q (61 : Int))) (addE w h (D.rem r (900001 : Int)) (D.add (D.rem p
    (61 : Int)) (D.rem q (61 : Int))))) = true) ∧ (D.cnd (D.ne (addE w h (addD w h (D.rem r (900001 : Int)) (D.rem p (61 : Int))) (D.rem q (61 : Int))) (addE w h
    (D.rem r (900001 : Int)) (D.add (D.rem p (61 : Int)) (D.rem q (61 : Int))))) true (D.ne (addD w h (addD w h (D.rem r (900001 : Int)) (D.rem p (61 : Int)))
    (D.rem q (61 : Int))) (addD w h (D.rem r (900001 : Int)) (D.add (D.rem p (61 : Int)) (D.rem q (61 : Int))))) = true → false = true ∧ True) ∧ (D.cnd (D.ne (addE
    w h (addD w h (D.rem r (900001 : Int)) (D.rem p (61 : Int))) (D.rem q (61 : Int))) (addE w h (D.rem r (900001 : Int)) (D.add (D.rem p (61 : Int)) (D.rem q (61 :
    Int))))) true (D.ne (addD w h (addD w h (D.rem r (900001 : Int)) (D.rem p (61 : Int))) (D.rem q (61 : Int))) (addD w h (D.rem r (900001 : Int)) (D.add (D.rem p
    (61 : Int)) (D.rem q (61 : Int))))) = false → (D.eq (D.rem p (61 : Int)) (0 : Int) = true → D.eq (D.rem p (61 : Int)) (0 : Int) = true → D.eq (D.rem p (61 :
    Int)) (0 : Int) = true) ∧ (D.eq (D.rem p (61 : Int)) (0 : Int) = true → D.eq (D.rem p (61 : Int)) (0 : Int) = true → D.eq (D.rem p (61 : Int)) (0 : Int) = true)
    ∧ (D.and true (D.eq (D.rem p (61 : Int)) (0 : Int)) = true → D.eq (D.rem p (61 : Int)) (0 : Int) = true) ∧ (D.not (D.cnd (D.eq (D.rem p (61 : Int)) (0 : Int))
    (D.ne (addD w h (D.rem r (900001 : Int)) (D.rem p (61 : Int))) (D.rem r (900001 : Int))) false) = true → D.not (D.cnd (D.eq (D.rem p (61 : Int)) (0 : Int))
    (D.ne (addD w h (D.rem r (900001 : Int)) (D.rem p (61 : Int))) (D.rem r (900001 : Int))) false) = true → D.not (D.cnd (D.eq (D.rem p (61 : Int)) (0 : Int))
    (D.ne (addD w h (D.rem r (900001 : Int)) (D.rem p (61 : Int))) (D.rem r (900001 : Int))) false) = true) ∧ (D.not (D.cnd (D.eq (D.rem p (61 : Int)) (0 : Int))
    (D.ne (addD w h (D.rem r (900001 : Int)) (D.rem p (61 : Int))) (D.rem r (900001 : Int))) false) = true → D.not (D.cnd (D.eq (D.rem p (61 : Int)) (0 : Int))
    (D.ne (addD w h (D.rem r (900001 : Int)) (D.rem p (61 : Int))) (D.rem r (900001 : Int))) false) = true → D.not (D.cnd (D.eq (D.rem p (61 : Int)) (0 : Int))
    (D.ne (addD w h (D.rem r (900001 : Int)) (D.rem p (61 : Int))) (D.rem r (900001 : Int))) false) = true) ∧ (D.and (D.not (D.cnd (D.eq (D.rem p (61 : Int)) (0 :
    Int)) (D.ne (addD w h (D.rem r (900001 : Int)) (D.rem p (61 : Int))) (D.rem r (900001 : Int))) false)) (D.gt (D.rem p (61 : Int)) (0 : Int)) = true → D.and
    (D.not (D.cnd (D.eq (D.rem p (61 : Int)) (0 : Int)) (D.ne (addD w h (D.rem r (900001 : Int)) (D.rem p (61 : Int))) (D.rem r (900001 : Int))) false)) (D.gt
    (D.rem p (61 : Int)) (0 : Int)) = true → D.and (D.not (D.cnd (D.eq (D.rem p (61 : Int)) (0 : Int)) (D.ne (addD w h (D.rem r (900001 : Int)) (D.rem p (61 :
    Int))) (D.rem r (900001 : Int))) false)) (D.gt (D.rem p (61 : Int)) (0 : Int)) = true) ∧ (D.and (D.not (D.cnd (D.eq (D.rem p (61 : Int)) (0 : Int)) (D.ne (addD
    w h (D.rem r (900001 : Int)) (D.rem p (61 : Int))) (D.rem r (900001 : Int))) false)) (D.gt (D.rem p (61 : Int)) (0 : Int)) = true → D.and (D.not (D.cnd (D.eq
    (D.rem p (61 : Int)) (0 : Int)) (D.ne (addD w h (D.rem r (900001 : Int)) (D.rem p (61 : Int))) (D.rem r (900001 : Int))) false)) (D.gt (D.rem p (61 : Int)) (0 :
    Int)) = true → D.and (D.not (D.cnd (D.eq (D.rem p (61 : Int)) (0 : Int)) (D.ne (addD w h (D.rem r (900001 : Int)) (D.rem p (61 : Int))) (D.rem r (900001 :
    Int))) false)) (D.gt (D.rem p (61 : Int)) (0 : Int)) = true) ∧ (D.and (D.not (D.cnd (D.eq (D.rem p (61 : Int)) (0 : Int)) (D.ne (addD w h (D.rem r (900001 :
    Int)) (D.rem p (61 : Int))) (D.rem r (900001 : Int))) false)) (D.gt (D.rem p (61 : Int)) (0 : Int)) = true → validF z w h = true ∧ inDays (addD w h (D.rem r
    (900001 : Int)) (D.rem p (61 : Int))) = true) ∧ (D.and (D.not (D.cnd (D.eq (D.rem p (61 : Int)) (0 : Int)) (D.ne (addD w h (D.rem r (900001 : Int)) (D.rem p (61
    : Int))) (D.rem r (900001 : Int))) false)) (D.gt (D.rem p (61 : Int)) (0 : Int)) = true → D.and (D.not (D.cnd (D.eq (D.rem p (61 : Int)) (0 : Int)) (D.ne (addD
    w h (D.rem r (900001 : Int)) (D.rem p (61 : Int))) (D.rem r (900001 : Int))) false)) (D.gt (D.rem p (61 : Int)) (0 : Int)) = true → D.and (D.not (D.cnd (D.eq
    (D.rem p (61 : Int)) (0 : Int)) (D.ne (addD w h (D.rem r (900001 : Int)) (D.rem p (61 : Int))) (D.rem r (900001 : Int))) false)) (D.gt (D.rem p (61 : Int)) (0 :
    Int)) = true) ∧ (D.not (D.cnd (D.eq (D.rem p (61 : Int)) (0 : Int)) (D.ne (addD w h (D.rem r (900001 : Int)) (D.rem p (61 : Int))) (D.rem r (900001 : Int)))
    false) = true → D.not (D.cnd (D.eq (D.rem p (61 : Int)) (0 : Int)) (D.ne (addD w h (D.rem r (900001 : Int)) (D.rem p (61 : Int))) (D.rem r (900001 : Int)))
    false) = true → D.not (D.cnd (D.eq (D.rem p (61 : Int)) (0 : Int)) (D.ne (addD w h (D.rem r (900001 : Int)) (D.rem p (61 : Int))) (D.rem r (900001 : Int)))
    false) = true) ∧ (D.not (D.cnd (D.eq (D.rem p (61 : Int)) (0 : Int)) (D.ne (addD w h (D.rem r (900001 : Int)) (D.rem p (61 : Int))) (D.rem r (900001 : Int)))
    false) = true → D.and (D.not (D.cnd (D.eq (D.rem p (61 : Int)) (0 : Int)) (D.ne (addD w h (D.rem r (900001 : Int)) (D.rem p (61 : Int))) (D.rem r (900001 :
    Int))) false)) (D.gt (D.rem p (61 : Int)) (0 : Int)) = true → D.and (D.not (D.cnd (D.eq (D.rem p (61 : Int)) (0 : Int)) (D.ne (addD w h (D.rem r (900001 : Int))
    (D.rem p (61 : Int))) (D.rem r (900001 : Int))) false)) (D.gt (D.rem p (61 : Int)) (0 : Int)) = true) ∧ (D.and true (D.not (D.cnd (D.eq (D.rem p (61 : Int)) (0
    : Int)) (D.ne (addD w h (D.rem r (900001 : Int)) (D.rem p (61 : Int))) (D.rem r (900001 : Int))) false)) = true → D.not (D.cnd (D.eq (D.rem p (61 : Int)) (0 :
    Int)) (D.ne (addD w h (D.rem r (900001 : Int)) (D.rem p (61 : Int))) (D.rem r (900001 : Int))) false) = true) ∧ (D.not (D.cnd (D.cnd (D.eq (D.rem p (61 : Int))
    (0 : Int)) (D.ne (addD w h (D.rem r (900001 : Int)) (D.rem p (61 : Int))) (D.rem r (900001 : Int))) false) true (D.cnd (D.gt (D.rem p (61 : Int)) (0 : Int))
    (D.not (workF w h (addD w h (D.rem r (900001 : Int)) (D.rem p (61 : Int))))) false)) = true → D.not (D.cnd (D.cnd (D.eq (D.rem p (61 : Int)) (0 : Int)) (D.ne
    (addD w h (D.rem r (900001 : Int)) (D.rem p (61 : Int))) (D.rem r (900001 : Int))) false) true (D.cnd (D.gt (D.rem p (61 : Int)) (0 : Int)) (D.not (workF w h
    (addD w h (D.rem r (900001 : Int)) (D.rem p (61 : Int))))) false)) = true → D.not (D.cnd (D.cnd (D.eq (D.rem p (61 : Int)) (0 : Int)) (D.ne (addD w h (D.rem r
    (900001 : Int)) (D.rem p (61 : Int))) (D.rem r (900001 : Int))) false) true (D.cnd (D.gt (D.rem p (61 : Int)) (0 : Int)) (D.not (workF w h (addD w h (D.rem r
    (900001 : Int)) (D.rem p (61 : Int))))) false)) = true) ∧ (D.not (D.cnd (D.cnd (D.eq (D.rem p (61 : Int)) (0 : Int)) (D.ne (addD w h (D.rem r (900001 : Int))
    (D.rem p (61 : Int))) (D.rem r (900001 : Int))) false) true (D.cnd (D.gt (D.rem p (61 : Int)) (0 : Int)) (D.not (workF w h (addD w h (D.rem r (900001 : Int))
    (D.rem p (61 : Int))))) false)) = true → D.not (D.cnd (D.cnd (D.eq (D.rem p (61 : Int)) (0 : Int)) (D.ne (addD w h (D.rem r (900001 : Int)) (D.rem p (61 :
    Int))) (D.rem r (900001 : Int))) false) true (D.cnd (D.gt (D.rem p (61 : Int)) (0 : Int)) (D.not (workF w h (addD w h (D.rem r (900001 : Int)) (D.rem p (61 :
    Int))))) false)) = true → D.not (D.cnd (D.cnd (D.eq (D.rem p (61 : Int)) (0 : Int)) (D.ne (addD w h (D.rem r (900001 : Int)) (D.rem p (61 : Int))) (D.rem r
    (900001 : Int))) false) true (D.cnd (D.gt (D.rem p (61 : Int)) (0 : Int)) (D.not (workF w h (addD w h (D.rem r (900001 : Int)) (D.rem p (61 : Int))))) false)) =
    true) ∧ (D.and (D.not (D.cnd (D.cnd (D.eq (D.rem p (61 : Int)) (0 : Int)) (D.ne (addD w h (D.rem r (900001 : Int)) (D.rem p (61 : Int))) (D.rem r (900001 :
    Int))) false) true (D.cnd (D.gt (D.rem p (61 : Int)) (0 : Int)) (D.not (workF w h (addD w h (D.rem r (900001 : Int)) (D.rem p (61 : Int))))) false))) (D.gt
    (D.rem p (61 : Int)) (0 : Int)) = true → D.and (D.not (D.cnd (D.cnd (D.eq (D.rem p (61 : Int)) (0 : Int)) (D.ne (addD w h (D.rem r (900001 : Int)) (D.rem p (61
    : Int))) (D.rem r (900001 : Int))) false) true (D.cnd (D.gt (D.rem p (61 : Int)) (0 : Int)) (D.not (workF w h (addD w h (D.rem r (900001 : Int)) (D.rem p (61 :
    Int))))) false))) (D.gt (D.rem p (61 : Int)) (0 : Int)) = true → D.and (D.not (D.cnd (D.cnd (D.eq (D.rem p (61 : Int)) (0 : Int)) (D.ne (addD w h (D.rem r
    (900001 : Int)) (D.rem p (61 : Int))) (D.rem r (900001 : Int))) false) true (D.cnd (D.gt (D.rem p (61 : Int)) (0 : Int)) (D.not (workF w h (addD w h (D.rem r
    (900001 : Int)) (D.rem p (61 : Int))))) false))) (D.gt (D.rem p (61 : Int)) (0 : Int)) = true) ∧ (D.and (D.not (D.cnd (D.cnd (D.eq (D.rem p (61 : Int)) (0 :
    Int)) (D.ne (addD w h (D.rem r (900001 : Int)) (D.rem p (61 : Int))) (D.rem r (900001 : Int))) false) true (D.cnd (D.gt (D.rem p (61 : Int)) (0 : Int)) (D.not
    (workF w h (addD w h (D.rem r (900001 : Int)) (D.rem p (61 : Int))))) false))) (D.gt (D.rem p (61 : Int)) (0 : Int)) = true → D.and (D.not (D.cnd (D.cnd (D.eq
    (D.rem p (61 : Int)) (0 : Int)) (D.ne (addD w h (D.rem r (900001 : Int)) (D.rem p (61 : Int))) (D.rem r (900001 : Int))) false) true (D.cnd (D.gt (D.rem p (61 :
    Int)) (0 : Int)) (D.not (workF w h (addD w h (D.rem r (900001 : Int)) (D.rem p (61 : Int))))) false))) (D.gt (D.rem p (61 : Int)) (0 : Int)) = true → D.and
    (D.not (D.cnd (D.cnd (D.eq (D.rem p (61 : Int)) (0 : Int)) (D.ne (addD w h (D.rem r (900001 : Int)) (D.rem p (61 : Int))) (D.rem r (900001 : Int))) false) true
    (D.cnd (D.gt (D.rem p (61 : Int)) (0 : Int)) (D.not (workF w h (addD w h (D.rem r (900001 : Int)) (D.rem p (61 : Int))))) false))) (D.gt (D.rem p (61 : Int)) (0
    : Int)) = true) ∧ (D.not (D.cnd (D.cnd (D.eq (D.rem p (61 : Int)) (0 : Int)) (D.ne (addD w h (D.rem r (900001 : Int)) (D.rem p (61 : Int))) (D.rem r (900001 :
    Int))) false) true (D.cnd (D.gt (D.rem p (61 : Int)) (0 : Int)) (D.not (workF w h (addD w h (D.rem r (900001 : Int)) (D.rem p (61 : Int))))) false)) = true →
    D.not (D.cnd (D.cnd (D.eq (D.rem p (61 : Int)) (0 : Int)) (D.ne (addD w h (D.rem r (900001 : Int)) (D.rem p (61 : Int))) (D.rem r (900001 : Int))) false) true
    (D.cnd (D.gt (D.rem p (61 : Int)) (0 : Int)) (D.not (workF w h (addD w h (D.rem r (900001 : Int)) (D.rem p (61 : Int))))) false)) = true → D.not (D.cnd (D.cnd
    (D.eq (D.rem p (61 : Int)) (0 : Int)) (D.ne (addD w h (D.rem r (900001 : Int)) (D.rem p (61 : Int))) (D.rem r (900001 : Int))) false) true (D.cnd (D.gt (D.rem p
    (61 : Int)) (0 : Int)) (D.not (workF w h (addD w h (D.rem r (900001 : Int)) (D.rem p (61 : Int))))) false)) = true) ∧ (D.not (D.cnd (D.cnd (D.eq (D.rem p (61 :
    Int)) (0 : Int)) (D.ne (addD w h (D.rem r (900001 : Int)) (D.rem p (61 : Int))) (D.rem r (900001 : Int))) false) true (D.cnd (D.gt (D.rem p (61 : Int)) (0 :
    Int)) (D.not (workF w h (addD w h (D.rem r (900001 : Int)) (D.rem p (61 : Int))))) false)) = true → D.and (D.not (D.cnd (D.cnd (D.eq (D.rem p (61 : Int)) (0 :
    Int)) (D.ne (addD w h (D.rem r (900001 : Int)) (D.rem p (61 : Int))) (D.rem r (900001 : Int))) false) true (D.cnd (D.gt (D.rem p (61 : Int)) (0 : Int)) (D.not
    (workF w h (addD w h (D.rem r (900001 : Int)) (D.rem p (61 : Int))))) false))) (D.gt (D.rem p (61 : Int)) (0 : Int)) = true → D.and (D.not (D.cnd (D.cnd (D.eq
    (D.rem p (61 : Int)) (0 : Int)) (D.ne (addD w h (D.rem r (900001 : Int)) (D.rem p (61 : Int))) (D.rem r (900001 : Int))) false) true (D.cnd (D.gt (D.rem p (61 :
    Int)) (0 : Int)) (D.not (workF w h (addD w h (D.rem r (900001 : Int)) (D.rem p (61 : Int))))) false))) (D.gt (D.rem p (61 : Int)) (0 : Int)) = true) ∧ (D.and
    true (D.not (D.cnd (D.cnd (D.eq (D.rem p (61 : Int)) (0 : Int)) (D.ne (addD w h (D.rem r (900001 : Int)) (D.rem p (61 : Int))) (D.rem r (900001 : Int))) false)
    true (D.cnd (D.gt (D.rem p (61 : Int)) (0 : Int)) (D.not (workF w h (addD w h (D.rem r (900001 : Int)) (D.rem p (61 : Int))))) false))) = true → D.not (D.cnd
    (D.cnd (D.eq (D.rem p (61 : Int)) (0 : Int)) (D.ne (addD w h (D.rem r (900001 : Int)) (D.rem p (61 : Int))) (D.rem r (900001 : Int))) false) true (D.cnd (D.gt
    (D.rem p (61 : Int)) (0 : Int)) (D.not (workF w h (addD w h (D.rem r (900001 : Int)) (D.rem p (61 : Int))))) false)) = true) ∧ (D.cnd (D.cnd (D.cnd (D.eq (D.rem
    p (61 : Int)) (0 : Int)) (D.ne (addD w h (D.rem r (900001 : Int)) (D.rem p (61 : Int))) (D.rem r (900001 : Int))) false) true (D.cnd (D.gt (D.rem p (61 : Int))
    (0 : Int)) (D.not (workF w h (addD w h (D.rem r (900001 : Int)) (D.rem p (61 : Int))))) false)) true (D.cnd (D.gt (D.rem p (61 : Int)) (0 : Int)) (D.le (addD w
    h (D.rem r (900001 : Int)) (D.rem p (61 : Int))) (D.rem r (900001 : Int))) false) = true → false = true ∧ True) ∧ (D.cnd (D.cnd (D.cnd (D.eq (D.rem p (61 :
    Int)) (0 : Int)) (D.ne (addD w h (D.rem r (900001 : Int)) (D.rem p (61 : Int))) (D.rem r (900001 : Int))) false) true (D.cnd (D.gt (D.rem p (61 : Int)) (0 :
    Int)) (D.not (workF w h (addD w h (D.rem r (900001 : Int)) (D.rem p (61 : Int))))) false)) true (D.cnd (D.gt (D.rem p (61 : Int)) (0 : Int)) (D.le (addD w h
    (D.rem r (900001 : Int)) (D.rem p (61 : Int))) (D.rem r (900001 : Int))) false) = false → (true = true → true = true → true = true) ∧ (true = true → true = true
    → true = true) ∧ (D.and true (D.not (D.ne (addE w h (D.rem r (900001 : Int)) (D.add (D.rem p (61 : Int)) (D.rem q (61 : Int)))) (0 : Int))) = true → D.and true
    (D.not (D.ne (addE w h (D.rem r (900001 : Int)) (D.add (D.rem p (61 : Int)) (D.rem q (61 : Int)))) (0 : Int))) = true → D.and true (D.not (D.ne (addE w h (D.rem
    r (900001 : Int)) (D.add (D.rem p (61 : Int)) (D.rem q (61 : Int)))) (0 : Int))) = true) ∧ (D.and true (D.not (D.ne (addE w h (D.rem r (900001 : Int)) (D.add
    (D.rem p (61 : Int)) (D.rem q (61 : Int)))) (0 : Int))) = true → D.and true (D.not (D.ne (addE w h (D.rem r (900001 : Int)) (D.add (D.rem p (61 : Int)) (D.rem q
    (61 : Int)))) (0 : Int))) = true → D.and true (D.not (D.ne (addE w h (D.rem r (900001 : Int)) (D.add (D.rem p (61 : Int)) (D.rem q (61 : Int)))) (0 : Int))) =
    true) ∧ (D.and (D.and true (D.not (D.ne (addE w h (D.rem r (900001 : Int)) (D.add (D.rem p (61 : Int)) (D.rem q (61 : Int)))) (0 : Int)))) (D.eq (D.rem q (61 :
    Int)) (0 : Int)) = true → D.and (D.and true (D.not (D.ne (addE w h (D.rem r (900001 : Int)) (D.add (D.rem p (61 : Int)) (D.rem q (61 : Int)))) (0 : Int))))
    (D.eq (D.rem q (61 : Int)) (0 : Int)) = true → D.and (D.and true (D.not (D.ne (addE w h (D.rem r (900001 : Int)) (D.add (D.rem p (61 : Int)) (D.rem q (61 :
    Int)))) (0 : Int)))) (D.eq (D.rem q (61 : Int)) (0 : Int)) = true) ∧ (D.and (D.and true (D.not (D.ne (addE w h (D.rem r (900001 : Int)) (D.add (D.rem p (61 :
    Int)) (D.rem q (61 : Int)))) (0 : Int)))) (D.eq (D.rem q (61 : Int)) (0 : Int)) = true → D.and (D.and true (D.not (D.ne (addE w h (D.rem r (900001 : Int))
    (D.add (D.rem p (61 : Int)) (D.rem q (61 : Int)))) (0 : Int)))) (D.eq (D.rem q (61 : Int)) (0 : Int)) = true → D.and (D.and true (D.not (D.ne (addE w h (D.rem r
    (900001 : Int)) (D.add (D.rem p (61 : Int)) (D.rem q (61 : Int)))) (0 : Int)))) (D.eq (D.rem q (61 : Int)) (0 : Int)) = true) ∧ (D.and true (D.not (D.ne (addE w
    h (D.rem r (900001 : Int)) (D.add (D.rem p (61 : Int)) (D.rem q (61 : Int)))) (0 : Int))) = true → D.and true (D.not (D.ne (addE w h (D.rem r (900001 : Int))
    (D.add (D.rem p (61 : Int)) (D.rem q (61 : Int)))) (0 : Int))) = true → D.and true (D.not (D.ne (addE w h (D.rem r (900001 : Int)) (D.add (D.rem p (61 : Int))
    (D.rem q (61 : Int)))) (0 : Int))) = true) ∧ (D.and true (D.not (D.ne (addE w h (D.rem r (900001 : Int)) (D.add (D.rem p (61 : Int)) (D.rem q (61 : Int)))) (0 :
    Int))) = true → D.and (D.and true (D.not (D.ne (addE w h (D.rem r (900001 : Int)) (D.add (D.rem p (61 : Int)) (D.rem q (61 : Int)))) (0 : Int)))) (D.eq (D.rem q
    (61 : Int)) (0 : Int)) = true → D.and (D.and true (D.not (D.ne (addE w h (D.rem r (900001 : Int)) (D.add (D.rem p (61 : Int)) (D.rem q (61 : Int)))) (0 :
    Int)))) (D.eq (D.rem q (61 : Int)) (0 : Int)) = true) ∧ (true = true → true = true → true = true) ∧ (true = true → D.and true (D.not (D.ne (addE w h (D.rem r
    (900001 : Int)) (D.add (D.rem p (61 : Int)) (D.rem q (61 : Int)))) (0 : Int))) = true → D.and true (D.not (D.ne (addE w h (D.rem r (900001 : Int)) (D.add (D.rem
    p (61 : Int)) (D.rem q (61 : Int)))) (0 : Int))) = true) ∧ (true = true → true = true → true = true) ∧ (D.and true (D.not (D.cnd (D.ne (addE w h (D.rem r
    (900001 : Int)) (D.add (D.rem p (61 : Int)) (D.rem q (61 : Int)))) (0 : Int)) true (D.cnd (D.eq (D.rem q (61 : Int)) (0 : Int)) (D.eq (addD w h (D.rem r (900001
    : Int)) (D.add (D.rem p (61 : Int)) (D.rem q (61 : Int)))) (addD w h (D.rem r (900001 : Int)) (D.rem p (61 : Int)))) false))) = true → D.and true (D.not (D.cnd
    (D.ne (addE w h (D.rem r (900001 : Int)) (D.add (D.rem p (61 : Int)) (D.rem q (61 : Int)))) (0 : Int)) true (D.cnd (D.eq (D.rem q (61 : Int)) (0 : Int)) (D.eq
    (addD w h (D.rem r (900001 : Int)) (D.add (D.rem p (61 : Int)) (D.rem q (61 : Int)))) (addD w h (D.rem r (900001 : Int)) (D.rem p (61 : Int)))) false))) = true
    → D.and true (D.not (D.cnd (D.ne (addE w h (D.rem r (900001 : Int)) (D.add (D.rem p (61 : Int)) (D.rem q (61 : Int)))) (0 : Int)) true (D.cnd (D.eq (D.rem q (61
    : Int)) (0 : Int)) (D.eq (addD w h (D.rem r (900001 : Int)) (D.add (D.rem p (61 : Int)) (D.rem q (61 : Int)))) (addD w h (D.rem r (900001 : Int)) (D.rem p (61 :
    Int)))) false))) = true) ∧ (D.and true (D.not (D.cnd (D.ne (addE w h (D.rem r (900001 : Int)) (D.add (D.rem p (61 : Int)) (D.rem q (61 : Int)))) (0 : Int)) true
    (D.cnd (D.eq (D.rem q (61 : Int)) (0 : Int)) (D.eq (addD w h (D.rem r (900001 : Int)) (D.add (D.rem p (61 : Int)) (D.rem q (61 : Int)))) (addD w h (D.rem r
    (900001 : Int)) (D.rem p (61 : Int)))) false))) = true → D.and true (D.not (D.cnd (D.ne (addE w h (D.rem r (900001 : Int)) (D.add (D.rem p (61 : Int)) (D.rem q
    (61 : Int)))) (0 : Int)) true (D.cnd (D.eq (D.rem q (61 : Int)) (0 : Int)) (D.eq (addD w h (D.rem r (900001 : Int)) (D.add (D.rem p (61 : Int)) (D.rem q (61 :
    Int)))) (addD w h (D.rem r (900001 : Int)) (D.rem p (61 : Int)))) false))) = true → D.and true (D.not (D.cnd (D.ne (addE w h (D.rem r (900001 : Int)) (D.add
    (D.rem p (61 : Int)) (D.rem q (61 : Int)))) (0 : Int)) true (D.cnd (D.eq (D.rem q (61 : Int)) (0 : Int)) (D.eq (addD w h (D.rem r (900001 : Int)) (D.add (D.rem
    p (61 : Int)) (D.rem q (61 : Int)))) (addD w h (D.rem r (900001 : Int)) (D.rem p (61 : Int)))) false))) = true) ∧ (D.and (D.and true (D.not (D.cnd (D.ne (addE w
    h (D.rem r (900001 : Int)) (D.add (D.rem p (61 : Int)) (D.rem q (61 : Int)))) (0 : Int)) true (D.cnd (D.eq (D.rem q (61 : Int)) (0 : Int)) (D.eq (addD w h
    (D.rem r (900001 : Int)) (D.add (D.rem p (61 : Int)) (D.rem q (61 : Int)))) (addD w h (D.rem r (900001 : Int)) (D.rem p (61 : Int)))) false)))) (D.gt (D.rem q
    (61 : Int)) (0 : Int)) = true → D.and (D.and true (D.not (D.cnd (D.ne (addE w h (D.rem r (900001 : Int)) (D.add (D.rem p (61 : Int)) (D.rem q (61 : Int)))) (0 :
    Int)) true (D.cnd (D.eq (D.rem q (61 : Int)) (0 : Int)) (D.eq (addD w h (D.rem r (900001 : Int)) (D.add (D.rem p (61 : Int)) (D.rem q (61 : Int)))) (addD w h
    (D.rem r (900001 : Int)) (D.rem p (61 : Int)))) false)))) (D.gt (D.rem q (61 : Int)) (0 : Int)) = true → D.and (D.and true (D.not (D.cnd (D.ne (addE w h (D.rem
    r (900001 : Int)) (D.add (D.rem p (61 : Int)) (D.rem q (61 : Int)))) (0 : Int)) true (D.cnd (D.eq (D.rem q (61 : Int)) (0 : Int)) (D.eq (addD w h (D.rem r
    (900001 : Int)) (D.add (D.rem p (61 : Int)) (D.rem q (61 : Int)))) (addD w h (D.rem r (900001 : Int)) (D.rem p (61 : Int)))) false)))) (D.gt (D.rem q (61 :
    Int)) (0 : Int)) = true) ∧ (D.and (D.and true (D.not (D.cnd (D.ne (addE w h (D.rem r (900001 : Int)) (D.add (D.rem p (61 : Int)) (D.rem q (61 : Int)))) (0 :
    Int)) true (D.cnd (D.eq (D.rem q (61 : Int)) (0 : Int)) (D.eq (addD w h (D.rem r (900001 : Int)) (D.add (D.rem p (61 : Int)) (D.rem q (61 : Int)))) (addD w h
    (D.rem r (900001 : Int)) (D.rem p (61 : Int)))) false)))) (D.gt (D.rem q (61 : Int)) (0 : Int)) = true → D.and (D.and true (D.not (D.cnd (D.ne (addE w h (D.rem
    r (900001 : Int)) (D.add (D.rem p (61 : Int)) (D.rem q (61 : Int)))) (0 : Int)) true (D.cnd (D.eq (D.rem q (61 : Int)) (0 : Int)) (D.eq (addD w h (D.rem r
    (900001 : Int)) (D.add (D.rem p (61 : Int)) (D.rem q (61 : Int)))) (addD w h (D.rem r (900001 : Int)) (D.rem p (61 : Int)))) false)))) (D.gt (D.rem q (61 :
    Int)) (0 : Int)) = true → D.and (D.and true (D.not (D.cnd (D.ne (addE w h (D.rem r (900001 : Int)) (D.add (D.rem p (61 : Int)) (D.rem q (61 : Int)))) (0 : Int))
    true (D.cnd (D.eq (D.rem q (61 : Int)) (0 : Int)) (D.eq (addD w h (D.rem r (900001 : Int)) (D.add (D.rem p (61 : Int)) (D.rem q (61 : Int)))) (addD w h (D.rem r
    (900001 : Int)) (D.rem p (61 : Int)))) false)))) (D.gt (D.rem q (61 : Int)) (0 : Int)) = true) ∧ (D.and true (D.not (D.cnd (D.ne (addE w h (D.rem r (900001 :
    Int)) (D.add (D.rem p (61 : Int)) (D.rem q (61 : Int)))) (0 : Int)) true (D.cnd (D.eq (D.rem q (61 : Int)) (0 : Int)) (D.eq (addD w h (D.rem r (900001 : Int))
    (D.add (D.rem p (61 : Int)) (D.rem q (61 : Int)))) (addD w h (D.rem r (900001 : Int)) (D.rem p (61 : Int)))) false))) = true → D.and true (D.not (D.cnd (D.ne
    (addE w h (D.rem r (900001 : Int)) (D.add (D.rem p (61 : Int)) (D.rem q (61 : Int)))) (0 : Int)) true (D.cnd (D.eq (D.rem q (61 : Int)) (0 : Int)) (D.eq (addD w
    h (D.rem r (900001 : Int)) (D.add (D.rem p (61 : Int)) (D.rem q (61 : Int)))) (addD w h (D.rem r (900001 : Int)) (D.rem p (61 : Int)))) false))) = true → D.and
    true (D.not (D.cnd (D.ne (addE w h (D.rem r (900001 : Int)) (D.add (D.rem p (61 : Int)) (D.rem q (61 : Int)))) (0 : Int)) true (D.cnd (D.eq (D.rem q (61 : Int))
    (0 : Int)) (D.eq (addD w h (D.rem r (900001 : Int)) (D.add (D.rem p (61 : Int)) (D.rem q (61 : Int)))) (addD w h (D.rem r (900001 : Int)) (D.rem p (61 : Int))))
    false))) = true) ∧ (D.and true (D.not (D.cnd (D.ne (addE w h (D.rem r (900001 : Int)) (D.add (D.rem p (61 : Int)) (D.rem q (61 : Int)))) (0 : Int)) true (D.cnd
    (D.eq (D.rem q (61 : Int)) (0 : Int)) (D.eq (addD w h (D.rem r (900001 : Int)) (D.add (D.rem p (61 : Int)) (D.rem q (61 : Int)))) (addD w h (D.rem r (900001 :
    Int)) (D.rem p (61 : Int)))) false))) = true → D.and (D.and true (D.not (D.cnd (D.ne (addE w h (D.rem r (900001 : Int)) (D.add (D.rem p (61 : Int)) (D.rem q (61
    : Int)))) (0 : Int)) true (D.cnd (D.eq (D.rem q (61 : Int)) (0 : Int)) (D.eq (addD w h (D.rem r (900001 : Int)) (D.add (D.rem p (61 : Int)) (D.rem q (61 :
    Int)))) (addD w h (D.rem r (900001 : Int)) (D.rem p (61 : Int)))) false)))) (D.gt (D.rem q (61 : Int)) (0 : Int)) = true → D.and (D.and true (D.not (D.cnd (D.ne
    (addE w h (D.rem r (900001 : Int)) (D.add (D.rem p (61 : Int)) (D.rem q (61 : Int)))) (0 : Int)) true (D.cnd (D.eq (D.rem q (61 : Int)) (0 : Int)) (D.eq (addD w
    h (D.rem r (900001 : Int)) (D.add (D.rem p (61 : Int)) (D.rem q (61 : Int)))) (addD w h (D.rem r (900001 : Int)) (D.rem p (61 : Int)))) false)))) (D.gt (D.rem q
    (61 : Int)) (0 : Int)) = true) ∧ (true = true → true = true → true = true) ∧ (true = true → D.and true (D.not (D.cnd (D.ne (addE w h (D.rem r (900001 : Int))
    (D.add (D.rem p (61 : Int)) (D.rem q (61 : Int)))) (0 : Int)) true (D.cnd (D.eq (D.rem q (61 : Int)) (0 : Int)) (D.eq (addD w h (D.rem r (900001 : Int)) (D.add
    (D.rem p (61 : Int)) (D.rem q (61 : Int)))) (addD w h (D.rem r (900001 : Int)) (D.rem p (61 : Int)))) false))) = true → D.and true (D.not (D.cnd (D.ne (addE w h
    (D.rem r (900001 : Int)) (D.add (D.rem p (61 : Int)) (D.rem q (61 : Int)))) (0 : Int)) true (D.cnd (D.eq (D.rem q (61 : Int)) (0 : Int)) (D.eq (addD w h (D.rem
    r (900001 : Int)) (D.add (D.rem p (61 : Int)) (D.rem q (61 : Int)))) (addD w h (D.rem r (900001 : Int)) (D.rem p (61 : Int)))) false))) = true) ∧ (D.and true
    true = true → true = true) ∧ D.cnd true (D.cnd (D.cnd (D.ne (addE w h (D.rem r (900001 : Int)) (D.add (D.rem p (61 : Int)) (D.rem q (61 : Int)))) (0 : Int))
    true (D.cnd (D.eq (D.rem q (61 : Int)) (0 : Int)) (D.eq (addD w h (D.rem r (900001 : Int)) (D.add (D.rem p (61 : Int)) (D.rem q (61 : Int)))) (addD w h (D.rem r
    (900001 : Int)) (D.rem p (61 : Int)))) false)) true (D.cnd (D.gt (D.rem q (61 : Int)) (0 : Int)) (D.gt (addD w h (D.rem r (900001 : Int)) (D.add (D.rem p (61 :
    Int)) (D.rem q (61 : Int)))) (addD w h (D.rem r (900001 : Int)) (D.rem p (61 : Int)))) false)) false = true ∧ True)))))) :
    evF (mkc K7) noAnn 5 [cal z w h, .dat S32 r, .dat U8 p, .dat U8 q] [] ⟨r32 r ∧ r8 p ∧ r8 q, .dat .bool true, []⟩ := of_eq (by kernel_rfl) hvc

theorem vc_lcounts (z : Int) (w : List Bool) (h : List Int) (r p q n : Int) (hvc :
     true = true ∧ (r32 r ∧ r8 p ∧ r8 q ∧ r8 n → True ∧ inR IntKind.i64 r ∧ D.ine (900001 : Int) (0 : Int) ∧ inR IntKind.i64 p ∧ D.ine (128 :
    Int) (0 : Int) ∧ inR IntKind.i64 (D.add (D.rem r (900001 : Int)) (D.rem p (128 : Int))) ∧ inR IntKind.i64 q ∧ D.ine (128 : Int) (0 : Int) ∧ inR IntKind.i64
    (D.add (D.add (D.rem r (900001 : Int)) (D.rem p (128 : Int))) (D.rem q (128 : Int))) ∧ True ∧ (D.not (fineF z w h) = true → true = true ∧ True) ∧ (D.not (fineF
    z w h) = false → inR IntKind.i64 (D.add (D.rem r (900001 : Int)) (1 : Int)) ∧ (∃ x, daysTo (D.add (D.rem r (900001 : Int)) (1 : Int)) (D.sub (D.add (D.add
    (D.rem r (900001 : Int)) (D.rem p (128 : Int))) (D.rem q (128 : Int))) (D.rem r (900001 : Int))) x ∧ z = z ∧ w = w ∧ h = h ∧ r = r ∧ p = p ∧ q = q ∧ n = n ∧ (z,
    w, h) = (z, w, h) ∧ false = false ∧ true = true ∧ D.rem r (900001 : Int) = D.rem r (900001 : Int) ∧ D.add (D.rem r (900001 : Int)) (D.rem p (128 : Int)) = D.add
    (D.rem r (900001 : Int)) (D.rem p (128 : Int)) ∧ D.add (D.add (D.rem r (900001 : Int)) (D.rem p (128 : Int))) (D.rem q (128 : Int)) = D.add (D.add (D.rem r
    (900001 : Int)) (D.rem p (128 : Int))) (D.rem q (128 : Int)) ∧ (0 : Int) = D.ofN (cntTo w h (D.add (D.rem r (900001 : Int)) (1 : Int)) x) ∧ D.add (D.rem r
    (900001 : Int)) (1 : Int) = x ∧ true = true ∧ r = r ∧ r = r ∧ D.rem r (900001 : Int) = D.rem r (900001 : Int) ∧ D.rem r (900001 : Int) = D.rem r (900001 : Int)
    ∧ p = p ∧ p = p ∧ D.rem p (128 : Int) = D.rem p (128 : Int) ∧ D.add (D.rem r (900001 : Int)) (D.rem p (128 : Int)) = D.add (D.rem r (900001 : Int)) (D.rem p
    (128 : Int)) ∧ D.add (D.rem r (900001 : Int)) (D.rem p (128 : Int)) = D.add (D.rem r (900001 : Int)) (D.rem p (128 : Int)) ∧ q = q ∧ q = q ∧ D.rem q (128 : Int)
    = D.rem q (128 : Int) ∧ D.add (D.add (D.rem r (900001 : Int)) (D.rem p (128 : Int))) (D.rem q (128 : Int)) = D.add (D.add (D.rem r (900001 : Int)) (D.rem p (128
    : Int))) (D.rem q (128 : Int)) ∧ z = z ∧ w = w ∧ h = h ∧ fineF z w h = fineF z w h ∧ D.not (fineF z w h) = D.not (fineF z w h) ∧ D.rem r (900001 : Int) = D.rem
    r (900001 : Int) ∧ D.add (D.rem r (900001 : Int)) (1 : Int) = D.add (D.rem r (900001 : Int)) (1 : Int) ∧ True) ∧ ∀ (x : Int), daysTo (D.add (D.rem r (900001 :
    Int)) (1 : Int)) (D.sub (D.add (D.add (D.rem r (900001 : Int)) (D.rem p (128 : Int))) (D.rem q (128 : Int))) (D.rem r (900001 : Int))) x → (D.le x (D.add (D.add
    (D.rem r (900001 : Int)) (D.rem p (128 : Int))) (D.rem q (128 : Int))) = true → (validF z w h = true ∧ inDays x = true) ∧ (workF w h x = true → inR IntKind.i64
    (D.add (D.ofN (cntTo w h (D.add (D.rem r (900001 : Int)) (1 : Int)) x)) (1 : Int)) ∧ inR IntKind.i64 (D.add x (1 : Int)) ∧ ∃ y, daysTo (D.add (D.rem r (900001 :
    Int)) (1 : Int)) (D.sub (D.add (D.add (D.rem r (900001 : Int)) (D.rem p (128 : Int))) (D.rem q (128 : Int))) (D.rem r (900001 : Int))) y ∧ (z = z ∧ w = w ∧ h =
    h ∧ r = r ∧ p = p ∧ q = q ∧ n = n ∧ (z, w, h) = (z, w, h) ∧ false = false ∧ true = true ∧ D.rem r (900001 : Int) = D.rem r (900001 : Int) ∧ D.add (D.rem r
    (900001 : Int)) (D.rem p (128 : Int)) = D.add (D.rem r (900001 : Int)) (D.rem p (128 : Int)) ∧ D.add (D.add (D.rem r (900001 : Int)) (D.rem p (128 : Int)))
    (D.rem q (128 : Int)) = D.add (D.add (D.rem r (900001 : Int)) (D.rem p (128 : Int))) (D.rem q (128 : Int)) ∧ D.add (D.ofN (cntTo w h (D.add (D.rem r (900001 :
    Int)) (1 : Int)) x)) (1 : Int) = D.ofN (cntTo w h (D.add (D.rem r (900001 : Int)) (1 : Int)) y) ∧ D.add x (1 : Int) = y ∧ true = true ∧ r = r ∧ r = r ∧ D.rem r
    (900001 : Int) = D.rem r (900001 : Int) ∧ D.rem r (900001 : Int) = D.rem r (900001 : Int) ∧ p = p ∧ p = p ∧ D.rem p (128 : Int) = D.rem p (128 : Int) ∧ D.add
    (D.rem r (900001 : Int)) (D.rem p (128 : Int)) = D.add (D.rem r (900001 : Int)) (D.rem p (128 : Int)) ∧ D.add (D.rem r (900001 : Int)) (D.rem p (128 : Int)) =
    D.add (D.rem r (900001 : Int)) (D.rem p (128 : Int)) ∧ q = q ∧ q = q ∧ D.rem q (128 : Int) = D.rem q (128 : Int) ∧ D.add (D.add (D.rem r (900001 : Int)) (D.rem
    p (128 : Int))) (D.rem q (128 : Int)) = D.add (D.add (D.rem r (900001 : Int)) (D.rem p (128 : Int))) (D.rem q (128 : Int)) ∧ z = z ∧ w = w ∧ h = h ∧ fineF z w h
    = fineF z w h ∧ D.not (fineF z w h) = D.not (fineF z w h) ∧ D.rem r (900001 : Int) = D.rem r (900001 : Int) ∧ D.add (D.rem r (900001 : Int)) (1 : Int) = D.add
    (D.rem r (900001 : Int)) (1 : Int) ∧ True) ∧ D.nlt (D.nat (D.sub (D.add (D.add (D.add (D.rem r (900001 : Int)) (D.rem p (128 : Int))) (D.rem q (128 : Int))) (1
    : Int)) y)) (D.nat (D.sub (D.add (D.add (D.add (D.rem r (900001 : Int)) (D.rem p (128 : Int))) (D.rem q (128 : Int))) (1 : Int)) x))) ∧ (workF w h x = false →
    inR IntKind.i64 (D.add x (1 : Int)) ∧ ∃ y, daysTo (D.add (D.rem r (900001 : Int)) (1 : Int)) (D.sub (D.add (D.add (D.rem r (900001 : Int)) (D.rem p (128 :
    Int))) (D.rem q (128 : Int))) (D.rem r (900001 : Int))) y ∧ (z = z ∧ w = w ∧ h = h ∧ r = r ∧ p = p ∧ q = q ∧ n = n ∧ (z, w, h) = (z, w, h) ∧ false = false ∧
    true = true ∧ D.rem r (900001 : Int) = D.rem r (900001 : Int) ∧ D.add (D.rem r (900001 : Int)) (D.rem p (128 : Int)) = D.add (D.rem r (900001 : Int)) (D.rem p
    (128 : Int)) ∧ D.add (D.add (D.rem r (900001 : Int)) (D.rem p (128 : Int))) (D.rem q (128 : Int)) = D.add (D.add (D.rem r (900001 : Int)) (D.rem p (128 : Int)))
    (D.rem q (128 : Int)) ∧ D.ofN (cntTo w h (D.add (D.rem r (900001 : Int)) (1 : Int)) x) = D.ofN (cntTo w h (D.add (D.rem r (900001 : Int)) (1 : Int)) y) ∧ D.add
    x (1 : Int) = y ∧ true = true ∧ r = r ∧ r = r ∧ D.rem r (900001 : Int) = D.rem r (900001 : Int) ∧ D.rem r (900001 : Int) = D.rem r (900001 : Int) ∧ p = p ∧ p =
    p ∧ D.rem p (128 : Int) = D.rem p (128 : Int) ∧ D.add (D.rem r (900001 : Int)) (D.rem p (128 : Int)) = D.add (D.rem r (900001 : Int)) (D.rem p (128 : Int)) ∧
    D.add (D.rem r (900001 : Int)) (D.rem p (128 : Int)) = D.add (D.rem r (900001 : Int)) (D.rem p (128 : Int)) ∧ q = q ∧ q = q ∧ D.rem q (128 : Int) = D.rem q (128
    : Int) ∧ D.add (D.add (D.rem r (900001 : Int)) (D.rem p (128 : Int))) (D.rem q (128 : Int)) = D.add (D.add (D.rem r (900001 : Int)) (D.rem p (128 : Int)))
    (D.rem q (128 : Int)) ∧ z = z ∧ w = w ∧ h = h ∧ fineF z w h = fineF z w h ∧ D.not (fineF z w h) = D.not (fineF z w h) ∧ D.rem r (900001 : Int) = D.rem r (900001
    : Int) ∧ D.add (D.rem r (900001 : Int)) (1 : Int) = D.add (D.rem r (900001 : Int)) (1 : Int) ∧ True) ∧ D.nlt (D.nat (D.sub (D.add (D.add (D.add (D.rem r (900001
    : Int)) (D.rem p (128 : Int))) (D.rem q (128 : Int))) (1 : Int)) y)) (D.nat (D.sub (D.add (D.add (D.add (D.rem r (900001 : Int)) (D.rem p (128 : Int))) (D.rem q
    (128 : Int))) (1 : Int)) x)))) ∧ (D.le x (D.add (D.add (D.rem r (900001 : Int)) (D.rem p (128 : Int))) (D.rem q (128 : Int))) = false → countP z w h (D.rem r
    (900001 : Int)) (D.add (D.rem r (900001 : Int)) (D.rem p (128 : Int))) ∧ countP z w h (D.add (D.rem r (900001 : Int)) (D.rem p (128 : Int))) (D.add (D.add
    (D.rem r (900001 : Int)) (D.rem p (128 : Int))) (D.rem q (128 : Int))) ∧ inR IntKind.i64 (D.add (countF w h (D.rem r (900001 : Int)) (D.add (D.rem r (900001 :
    Int)) (D.rem p (128 : Int)))) (countF w h (D.add (D.rem r (900001 : Int)) (D.rem p (128 : Int))) (D.add (D.add (D.rem r (900001 : Int)) (D.rem p (128 : Int)))
    (D.rem q (128 : Int))))) ∧ (D.not (D.ne (D.add (countF w h (D.rem r (900001 : Int)) (D.add (D.rem r (900001 : Int)) (D.rem p (128 : Int)))) (countF w h (D.add
    (D.rem r (900001 : Int)) (D.rem p (128 : Int))) (D.add (D.add (D.rem r (900001 : Int)) (D.rem p (128 : Int))) (D.rem q (128 : Int))))) (D.ofN (cntTo w h (D.add
    (D.rem r (900001 : Int)) (1 : Int)) x))) = true → D.not (D.ne (D.add (countF w h (D.rem r (900001 : Int)) (D.add (D.rem r (900001 : Int)) (D.rem p (128 :
    Int)))) (countF w h (D.add (D.rem r (900001 : Int)) (D.rem p (128 : Int))) (D.add (D.add (D.rem r (900001 : Int)) (D.rem p (128 : Int))) (D.rem q (128 :
    Int))))) (D.ofN (cntTo w h (D.add (D.rem r (900001 : Int)) (1 : Int)) x))) = true → D.not (D.ne (D.add (countF w h (D.rem r (900001 : Int)) (D.add (D.rem r
    (900001 : Int)) (D.rem p (128 : Int)))) (countF w h (D.add (D.rem r (900001 : Int)) (D.rem p (128 : Int))) (D.add (D.add (D.rem r (900001 : Int)) (D.rem p (128
    : Int))) (D.rem q (128 : Int))))) (D.ofN (cntTo w h (D.add (D.rem r (900001 : Int)) (1 : Int)) x))) = true) ∧ (D.not (D.ne (D.add (countF w h (D.rem r (900001 :
    Int)) (D.add (D.rem r (900001 : Int)) (D.rem p (128 : Int)))) (countF w h (D.add (D.rem r (900001 : Int)) (D.rem p (128 : Int))) (D.add (D.add (D.rem r (900001
    : Int)) (D.rem p (128 : Int))) (D.rem q (128 : Int))))) (D.ofN (cntTo w h (D.add (D.rem r (900001 : Int)) (1 : Int)) x))) = true → D.not (D.ne (D.add (countF w
    h (D.rem r (900001 : Int)) (D.add (D.rem r (900001 : Int)) (D.rem p (128 : Int)))) (countF w h (D.add (D.rem r (900001 : Int)) (D.rem p (128 : Int))) (D.add
    (D.add (D.rem r (900001 : Int)) (D.rem p (128 : Int))) (D.rem q (128 : Int))))) (D.ofN (cntTo w h (D.add (D.rem r (900001 : Int)) (1 : Int)) x))) = true → D.not
    (D.ne (D.add (countF w h (D.rem r (900001 : Int)) (D.add (D.rem r (900001 : Int)) (D.rem p (128 : Int)))) (countF w h (D.add (D.rem r (900001 : Int)) (D.rem p
    (128 : Int))) (D.add (D.add (D.rem r (900001 : Int)) (D.rem p (128 : Int))) (D.rem q (128 : Int))))) (D.ofN (cntTo w h (D.add (D.rem r (900001 : Int)) (1 :
    Int)) x))) = true) ∧ (D.not (D.ne (D.add (countF w h (D.rem r (900001 : Int)) (D.add (D.rem r (900001 : Int)) (D.rem p (128 : Int)))) (countF w h (D.add (D.rem
    r (900001 : Int)) (D.rem p (128 : Int))) (D.add (D.add (D.rem r (900001 : Int)) (D.rem p (128 : Int))) (D.rem q (128 : Int))))) (D.ofN (cntTo w h (D.add (D.rem
    r (900001 : Int)) (1 : Int)) x))) = true → D.not (D.ne (D.add (countF w h (D.rem r (900001 : Int)) (D.add (D.rem r (900001 : Int)) (D.rem p (128 : Int))))
    (countF w h (D.add (D.rem r (900001 : Int)) (D.rem p (128 : Int))) (D.add (D.add (D.rem r (900001 : Int)) (D.rem p (128 : Int))) (D.rem q (128 : Int))))) (D.ofN
    (cntTo w h (D.add (D.rem r (900001 : Int)) (1 : Int)) x))) = true → D.not (D.ne (D.add (countF w h (D.rem r (900001 : Int)) (D.add (D.rem r (900001 : Int))
    (D.rem p (128 : Int)))) (countF w h (D.add (D.rem r (900001 : Int)) (D.rem p (128 : Int))) (D.add (D.add (D.rem r (900001 : Int)) (D.rem p (128 : Int))) (D.rem
    q (128 : Int))))) (D.ofN (cntTo w h (D.add (D.rem r (900001 : Int)) (1 : Int)) x))) = true) ∧ (D.not (D.ne (D.add (countF w h (D.rem r (900001 : Int)) (D.add
    (D.rem r (900001 : Int)) (D.rem p (128 : Int)))) (countF w h (D.add (D.rem r (900001 : Int)) (D.rem p (128 : Int))) (D.add (D.add (D.rem r (900001 : Int))
    (D.rem p (128 : Int))) (D.rem q (128 : Int))))) (D.ofN (cntTo w h (D.add (D.rem r (900001 : Int)) (1 : Int)) x))) = true → countP z w h (D.rem r (900001 : Int))
    (D.add (D.add (D.rem r (900001 : Int)) (D.rem p (128 : Int))) (D.rem q (128 : Int)))) ∧ (D.not (D.ne (D.add (countF w h (D.rem r (900001 : Int)) (D.add (D.rem r
    (900001 : Int)) (D.rem p (128 : Int)))) (countF w h (D.add (D.rem r (900001 : Int)) (D.rem p (128 : Int))) (D.add (D.add (D.rem r (900001 : Int)) (D.rem p (128
    : Int))) (D.rem q (128 : Int))))) (D.ofN (cntTo w h (D.add (D.rem r (900001 : Int)) (1 : Int)) x))) = true → D.not (D.ne (D.add (countF w h (D.rem r (900001 :
    Int)) (D.add (D.rem r (900001 : Int)) (D.rem p (128 : Int)))) (countF w h (D.add (D.rem r (900001 : Int)) (D.rem p (128 : Int))) (D.add (D.add (D.rem r (900001
    : Int)) (D.rem p (128 : Int))) (D.rem q (128 : Int))))) (D.ofN (cntTo w h (D.add (D.rem r (900001 : Int)) (1 : Int)) x))) = true → D.not (D.ne (D.add (countF w
    h (D.rem r (900001 : Int)) (D.add (D.rem r (900001 : Int)) (D.rem p (128 : Int)))) (countF w h (D.add (D.rem r (900001 : Int)) (D.rem p (128 : Int))) (D.add
    (D.add (D.rem r (900001 : Int)) (D.rem p (128 : Int))) (D.rem q (128 : Int))))) (D.ofN (cntTo w h (D.add (D.rem r (900001 : Int)) (1 : Int)) x))) = true) ∧
    (D.not (D.ne (D.add (countF w h (D.rem r (900001 : Int)) (D.add (D.rem r (900001 : Int)) (D.rem p (128 : Int)))) (countF w h (D.add (D.rem r (900001 : Int))
    (D.rem p (128 : Int))) (D.add (D.add (D.rem r (900001 : Int)) (D.rem p (128 : Int))) (D.rem q (128 : Int))))) (D.ofN (cntTo w h (D.add (D.rem r (900001 : Int))
    (1 : Int)) x))) = true → D.not (D.ne (D.add (countF w h (D.rem r (900001 : Int)) (D.add (D.rem r (900001 : Int)) (D.rem p (128 : Int)))) (countF w h (D.add
    (D.rem r (900001 : Int)) (D.rem p (128 : Int))) (D.add (D.add (D.rem r (900001 : Int)) (D.rem p (128 : Int))) (D.rem q (128 : Int))))) (D.ofN (cntTo w h (D.add
    (D.rem r (900001 : Int)) (1 : Int)) x))) = true → D.not (D.ne (D.add (countF w h (D.rem r (900001 : Int)) (D.add (D.rem r (900001 : Int)) (D.rem p (128 :
    Int)))) (countF w h (D.add (D.rem r (900001 : Int)) (D.rem p (128 : Int))) (D.add (D.add (D.rem r (900001 : Int)) (D.rem p (128 : Int))) (D.rem q (128 :
    Int))))) (D.ofN (cntTo w h (D.add (D.rem r (900001 : Int)) (1 : Int)) x))) = true) ∧ (D.and true (D.not (D.ne (D.add (countF w h (D.rem r (900001 : Int)) (D.add
    (D.rem r (900001 : Int)) (D.rem p (128 : Int)))) (countF w h (D.add (D.rem r (900001 : Int)) (D.rem p (128 : Int))) (D.add (D.add (D.rem r (900001 : Int))
    (D.rem p (128 : Int))) (D.rem q (128 : Int))))) (D.ofN (cntTo w h (D.add (D.rem r (900001 : Int)) (1 : Int)) x)))) = true → D.not (D.ne (D.add (countF w h
    (D.rem r (900001 : Int)) (D.add (D.rem r (900001 : Int)) (D.rem p (128 : Int)))) (countF w h (D.add (D.rem r (900001 : Int)) (D.rem p (128 : Int))) (D.add
    (D.add (D.rem r (900001 : Int)) (D.rem p (128 : Int))) (D.rem q (128 : Int))))) (D.ofN (cntTo w h (D.add (D.rem r (900001 : Int)) (1 : Int)) x))) = true) ∧
    (D.not (D.cnd (D.ne (D.add (countF w h (D.rem r (900001 : Int)) (D.add (D.rem r (900001 : Int)) (D.rem p (128 : Int)))) (countF w h (D.add (D.rem r (900001 :
    Int)) (D.rem p (128 : Int))) (D.add (D.add (D.rem r (900001 : Int)) (D.rem p (128 : Int))) (D.rem q (128 : Int))))) (D.ofN (cntTo w h (D.add (D.rem r (900001 :
    Int)) (1 : Int)) x))) true (D.ne (countF w h (D.rem r (900001 : Int)) (D.add (D.add (D.rem r (900001 : Int)) (D.rem p (128 : Int))) (D.rem q (128 : Int))))
    (D.ofN (cntTo w h (D.add (D.rem r (900001 : Int)) (1 : Int)) x)))) = true → D.not (D.cnd (D.ne (D.add (countF w h (D.rem r (900001 : Int)) (D.add (D.rem r
    (900001 : Int)) (D.rem p (128 : Int)))) (countF w h (D.add (D.rem r (900001 : Int)) (D.rem p (128 : Int))) (D.add (D.add (D.rem r (900001 : Int)) (D.rem p (128
    : Int))) (D.rem q (128 : Int))))) (D.ofN (cntTo w h (D.add (D.rem r (900001 : Int)) (1 : Int)) x))) true (D.ne (countF w h (D.rem r (900001 : Int)) (D.add
    (D.add (D.rem r (900001 : Int)) (D.rem p (128 : Int))) (D.rem q (128 : Int)))) (D.ofN (cntTo w h (D.add (D.rem r (900001 : Int)) (1 : Int)) x)))) = true → D.not
    (D.cnd (D.ne (D.add (countF w h (D.rem r (900001 : Int)) (D.add (D.rem r (900001 : Int)) (D.rem p (128 : Int)))) (countF w h (D.add (D.rem r (900001 : Int))
    (D.rem p (128 : Int))) (D.add (D.add (D.rem r (900001 : Int)) (D.rem p (128 : Int))) (D.rem q (128 : Int))))) (D.ofN (cntTo w h (D.add (D.rem r (900001 : Int))
    (1 : Int)) x))) true (D.ne (countF w h (D.rem r (900001 : Int)) (D.add (D.add (D.rem r (900001 : Int)) (D.rem p (128 : Int))) (D.rem q (128 : Int)))) (D.ofN
    (cntTo w h (D.add (D.rem r (900001 : Int)) (1 : Int)) x)))) = true) ∧ (D.not (D.cnd (D.ne (D.add (countF w h (D.rem r (900001 : Int)) (D.add (D.rem r (900001 :
    Int)) (D.rem p (128 : Int)))) (countF w h (D.add (D.rem r (900001 : Int)) (D.rem p (128 : Int))) (D.add (D.add (D.rem r (900001 : Int)) (D.rem p (128 : Int)))
    (D.rem q (128 : Int))))) (D.ofN (cntTo w h (D.add (D.rem r (900001 : Int)) (1 : Int)) x))) true (D.ne (countF w h (D.rem r (900001 : Int)) (D.add (D.add (D.rem
    r (900001 : Int)) (D.rem p (128 : Int))) (D.rem q (128 : Int)))) (D.ofN (cntTo w h (D.add (D.rem r (900001 : Int)) (1 : Int)) x)))) = true → D.not (D.cnd (D.ne
    (D.add (countF w h (D.rem r (900001 : Int)) (D.add (D.rem r (900001 : Int)) (D.rem p (128 : Int)))) (countF w h (D.add (D.rem r (900001 : Int)) (D.rem p (128 :
    Int))) (D.add (D.add (D.rem r (900001 : Int)) (D.rem p (128 : Int))) (D.rem q (128 : Int))))) (D.ofN (cntTo w h (D.add (D.rem r (900001 : Int)) (1 : Int)) x)))
    true (D.ne (countF w h (D.rem r (900001 : Int)) (D.add (D.add (D.rem r (900001 : Int)) (D.rem p (128 : Int))) (D.rem q (128 : Int)))) (D.ofN (cntTo w h (D.add
    (D.rem r (900001 : Int)) (1 : Int)) x)))) = true → D.not (D.cnd (D.ne (D.add (countF w h (D.rem r (900001 : Int)) (D.add (D.rem r (900001 : Int)) (D.rem p (128
    : Int)))) (countF w h (D.add (D.rem r (900001 : Int)) (D.rem p (128 : Int))) (D.add (D.add (D.rem r (900001 : Int)) (D.rem p (128 : Int))) (D.rem q (128 :
    Int))))) (D.ofN (cntTo w h (D.add (D.rem r (900001 : Int)) (1 : Int)) x))) true (D.ne (countF w h (D.rem r (900001 : Int)) (D.add (D.add (D.rem r (900001 :
    Int)) (D.rem p (128 : Int))) (D.rem q (128 : Int)))) (D.ofN (cntTo w h (D.add (D.rem r (900001 : Int)) (1 : Int)) x)))) = true) ∧ (D.not (D.cnd (D.ne (D.add
    (countF w h (D.rem r (900001 : Int)) (D.add (D.rem r (900001 : Int)) (D.rem p (128 : Int)))) (countF w h (D.add (D.rem r (900001 : Int)) (D.rem p (128 : Int)))
    (D.add (D.add (D.rem r (900001 : Int)) (D.rem p (128 : Int))) (D.rem q (128 : Int))))) (D.ofN (cntTo w h (D.add (D.rem r (900001 : Int)) (1 : Int)) x))) true
    (D.ne (countF w h (D.rem r (900001 : Int)) (D.add (D.add (D.rem r (900001 : Int)) (D.rem p (128 : Int))) (D.rem q (128 : Int)))) (D.ofN (cntTo w h (D.add (D.rem
    r (900001 : Int)) (1 : Int)) x)))) = true → D.not (D.cnd (D.ne (D.add (countF w h (D.rem r (900001 : Int)) (D.add (D.rem r (900001 : Int)) (D.rem p (128 :
    Int)))) (countF w h (D.add (D.rem r (900001 : Int)) (D.rem p (128 : Int))) (D.add (D.add (D.rem r (900001 : Int)) (D.rem p (128 : Int))) (D.rem q (128 :
    Int))))) (D.ofN (cntTo w h (D.add (D.rem r (900001 : Int)) (1 : Int)) x))) true (D.ne (countF w h (D.rem r (900001 : Int)) (D.add (D.add (D.rem r (900001 :
    Int)) (D.rem p (128 : Int))) (D.rem q (128 : Int)))) (D.ofN (cntTo w h (D.add (D.rem r (900001 : Int)) (1 : Int)) x)))) = true → D.not (D.cnd (D.ne (D.add
    (countF w h (D.rem r (900001 : Int)) (D.add (D.rem r (900001 : Int)) (D.rem p (128 : Int)))) (countF w h (D.add (D.rem r (900001 : Int)) (D.rem p (128 : Int)))
    (D.add (D.add (D.rem r (900001 : Int)) (D.rem p (128 : Int))) (D.rem q (128 : Int))))) (D.ofN (cntTo w h (D.add (D.rem r (900001 : Int)) (1 : Int)) x))) true
    (D.ne (countF w h (D.rem r (900001 : Int)) (D.add (D.add (D.rem r (900001 : Int)) (D.rem p (128 : Int))) (D.rem q (128 : Int)))) (D.ofN (cntTo w h (D.add (D.rem
    r (900001 : Int)) (1 : Int)) x)))) = true) ∧ (D.not (D.cnd (D.ne (D.add (countF w h (D.rem r (900001 : Int)) (D.add (D.rem r (900001 : Int)) (D.rem p (128 :
    Int)))) (countF w h (D.add (D.rem r (900001 : Int)) (D.rem p (128 : Int))) (D.add (D.add (D.rem r (900001 : Int)) (D.rem p (128 : Int))) (D.rem q (128 :
    Int))))) (D.ofN (cntTo w h (D.add (D.rem r (900001 : Int)) (1 : Int)) x))) true (D.ne (countF w h (D.rem r (900001 : Int)) (D.add (D.add (D.rem r (900001 :
    Int)) (D.rem p (128 : Int))) (D.rem q (128 : Int)))) (D.ofN (cntTo w h (D.add (D.rem r (900001 : Int)) (1 : Int)) x)))) = true → countP z w h (D.add (D.add
    (D.rem r (900001 : Int)) (D.rem p (128 : Int))) (D.rem q (128 : Int))) (D.rem r (900001 : Int))) ∧ (D.not (D.cnd (D.ne (D.add (countF w h (D.rem r (900001 :
    Int)) (D.add (D.rem r (900001 : Int)) (D.rem p (128 : Int)))) (countF w h (D.add (D.rem r (900001 : Int)) (D.rem p (128 : Int))) (D.add (D.add (D.rem r (900001
    : Int)) (D.rem p (128 : Int))) (D.rem q (128 : Int))))) (D.ofN (cntTo w h (D.add (D.rem r (900001 : Int)) (1 : Int)) x))) true (D.ne (countF w h (D.rem r
    (900001 : Int)) (D.add (D.add (D.rem r (900001 : Int)) (D.rem p (128 : Int))) (D.rem q (128 : Int)))) (D.ofN (cntTo w h (D.add (D.rem r (900001 : Int)) (1 :
    Int)) x)))) = true → D.not (D.cnd (D.ne (D.add (countF w h (D.rem r (900001 : Int)) (D.add (D.rem r (900001 : Int)) (D.rem p (128 : Int)))) (countF w h (D.add
    (D.rem r (900001 : Int)) (D.rem p (128 : Int))) (D.add (D.add (D.rem r (900001 : Int)) (D.rem p (128 : Int))) (D.rem q (128 : Int))))) (D.ofN (cntTo w h (D.add
    (D.rem r (900001 : Int)) (1 : Int)) x))) true (D.ne (countF w h (D.rem r (900001 : Int)) (D.add (D.add (D.rem r (900001 : Int)) (D.rem p (128 : Int))) (D.rem q
    (128 : Int)))) (D.ofN (cntTo w h (D.add (D.rem r (900001 : Int)) (1 : Int)) x)))) = true → D.not (D.cnd (D.ne (D.add (countF w h (D.rem r (900001 : Int)) (D.add
    (D.rem r (900001 : Int)) (D.rem p (128 : Int)))) (countF w h (D.add (D.rem r (900001 : Int)) (D.rem p (128 : Int))) (D.add (D.add (D.rem r (900001 : Int))
    (D.rem p (128 : Int))) (D.rem q (128 : Int))))) (D.ofN (cntTo w h (D.add (D.rem r (900001 : Int)) (1 : Int)) x))) true (D.ne (countF w h (D.rem r (900001 :
    Int)) (D.add (D.add (D.rem r (900001 : Int)) (D.rem p (128 : Int))) (D.rem q (128 : Int)))) (D.ofN (cntTo w h (D.add (D.rem r (900001 : Int)) (1 : Int)) x)))) =
    true) ∧ (D.not (D.cnd (D.ne (D.add (countF w h (D.rem r (900001 : Int)) (D.add (D.rem r (900001 : Int)) (D.rem p (128 : Int)))) (countF w h (D.add (D.rem r
    (900001 : Int)) (D.rem p (128 : Int))) (D.add (D.add (D.rem r (900001 : Int)) (D.rem p (128 : Int))) (D.rem q (128 : Int))))) (D.ofN (cntTo w h (D.add (D.rem r
    (900001 : Int)) (1 : Int)) x))) true (D.ne (countF w h (D.rem r (900001 : Int)) (D.add (D.add (D.rem r (900001 : Int)) (D.rem p (128 : Int))) (D.rem q (128 :
    Int)))) (D.ofN (cntTo w h (D.add (D.rem r (900001 : Int)) (1 : Int)) x)))) = true → D.not (D.cnd (D.ne (D.add (countF w h (D.rem r (900001 : Int)) (D.add (D.rem
    r (900001 : Int)) (D.rem p (128 : Int)))) (countF w h (D.add (D.rem r (900001 : Int)) (D.rem p (128 : Int))) (D.add (D.add (D.rem r (900001 : Int)) (D.rem p
    (128 : Int))) (D.rem q (128 : Int))))) (D.ofN (cntTo w h (D.add (D.rem r (900001 : Int)) (1 : Int)) x))) true (D.ne (countF w h (D.rem r (900001 : Int)) (D.add
    (D.add (D.rem r (900001 : Int)) (D.rem p (128 : Int))) (D.rem q (128 : Int)))) (D.ofN (cntTo w h (D.add (D.rem r (900001 : Int)) (1 : Int)) x)))) = true → D.not
    (D.cnd (D.ne (D.add (countF w h (D.rem r (900001 : Int)) (D.add (D.rem r (900001 : Int)) (D.rem p (128 : Int)))) (countF w h (D.add (D.rem r (900001 : Int))
    (D.rem p (128 : Int))) (D.add (D.add (D.rem r (900001 : Int)) (D.rem p (128 : Int))) (D.rem q (128 : Int))))) (D.ofN (cntTo w h (D.add (D.rem r (900001 : Int))
    (1 : Int)) x))) true (D.ne (countF w h (D.rem r (900001 : Int)) (D.add (D.add (D.rem r (900001 : Int)) (D.rem p (128 : Int))) (D.rem q (128 : Int)))) (D.ofN
    (cntTo w h (D.add (D.rem r (900001 : Int)) (1 : Int)) x)))) = true) ∧ (D.and (D.not (D.cnd (D.ne (D.add (countF w h (D.rem r (900001 : Int)) (D.add (D.rem r
    (900001 : Int)) (D.rem p (128 : Int)))) (countF w h (D.add (D.rem r (900001 : Int)) (D.rem p (128 : Int))) (D.add (D.add (D.rem r (900001 : Int)) (D.rem p (128
    : Int))) (D.rem q (128 : Int))))) (D.ofN (cntTo w h (D.add (D.rem r (900001 : Int)) (1 : Int)) x))) true (D.ne (countF w h (D.rem r (900001 : Int)) (D.add
    (D.add (D.rem r (900001 : Int)) (D.rem p (128 : Int))) (D.rem q (128 : Int)))) (D.ofN (cntTo w h (D.add (D.rem r (900001 : Int)) (1 : Int)) x))))) (D.ne (countF
    w h (D.add (D.add (D.rem r (900001 : Int)) (D.rem p (128 : Int))) (D.rem q (128 : Int))) (D.rem r (900001 : Int))) (0 : Int)) = true → D.and (D.not (D.cnd (D.ne
    (D.add (countF w h (D.rem r (900001 : Int)) (D.add (D.rem r (900001 : Int)) (D.rem p (128 : Int)))) (countF w h (D.add (D.rem r (900001 : Int)) (D.rem p (128 :
    Int))) (D.add (D.add (D.rem r (900001 : Int)) (D.rem p (128 : Int))) (D.rem q (128 : Int))))) (D.ofN (cntTo w h (D.add (D.rem r (900001 : Int)) (1 : Int)) x)))
    true (D.ne (countF w h (D.rem r (900001 : Int)) (D.add (D.add (D.rem r (900001 : Int)) (D.rem p (128 : Int))) (D.rem q (128 : Int)))) (D.ofN (cntTo w h (D.add
    (D.rem r (900001 : Int)) (1 : Int)) x))))) (D.ne (countF w h (D.add (D.add (D.rem r (900001 : Int)) (D.rem p (128 : Int))) (D.rem q (128 : Int))) (D.rem r
    (900001 : Int))) (0 : Int)) = true → D.and (D.not (D.cnd (D.ne (D.add (countF w h (D.rem r (900001 : Int)) (D.add (D.rem r (900001 : Int)) (D.rem p (128 :
    Int)))) (countF w h (D.add (D.rem r (900001 : Int)) (D.rem p (128 : Int))) (D.add (D.add (D.rem r (900001 : Int)) (D.rem p (128 : Int))) (D.rem q (128 :
    Int))))) (D.ofN (cntTo w h (D.add (D.rem r (900001 : Int)) (1 : Int)) x))) true (D.ne (countF w h (D.rem r (900001 : Int)) (D.add (D.add (D.rem r (900001 :
    Int)) (D.rem p (128 : Int))) (D.rem q (128 : Int)))) (D.ofN (cntTo w h (D.add (D.rem r (900001 : Int)) (1 : Int)) x))))) (D.ne (countF w h (D.add (D.add (D.rem
    r (900001 : Int)) (D.rem p (128 : Int))) (D.rem q (128 : Int))) (D.rem r (900001 : Int))) (0 : Int)) = true) ∧ (D.and (D.not (D.cnd (D.ne (D.add (countF w h
    (D.rem r (900001 : Int)) (D.add (D.rem r (900001 : Int)) (D.rem p (128 : Int)))) (countF w h (D.add (D.rem r (900001 : Int)) (D.rem p (128 : Int))) (D.add
    (D.add (D.rem r (900001 : Int)) (D.rem p (128 : Int))) (D.rem q (128 : Int))))) (D.ofN (cntTo w h (D.add (D.rem r (900001 : Int)) (1 : Int)) x))) true (D.ne
    (countF w h (D.rem r (900001 : Int)) (D.add (D.add (D.rem r (900001 : Int)) (D.rem p (128 : Int))) (D.rem q (128 : Int)))) (D.ofN (cntTo w h (D.add (D.rem r
    (900001 : Int)) (1 : Int)) x))))) (D.ne (countF w h (D.add (D.add (D.rem r (900001 : Int)) (D.rem p (128 : Int))) (D.rem q (128 : Int))) (D.rem r (900001 :
    Int))) (0 : Int)) = true → D.and (D.not (D.cnd (D.ne (D.add (countF w h (D.rem r (900001 : Int)) (D.add (D.rem r (900001 : Int)) (D.rem p (128 : Int)))) (countF
    w h (D.add (D.rem r (900001 : Int)) (D.rem p (128 : Int))) (D.add (D.add (D.rem r (900001 : Int)) (D.rem p (128 : Int))) (D.rem q (128 : Int))))) (D.ofN (cntTo
    w h (D.add (D.rem r (900001 : Int)) (1 : Int)) x))) true (D.ne (countF w h (D.rem r (900001 : Int)) (D.add (D.add (D.rem r (900001 : Int)) (D.rem p (128 :
    Int))) (D.rem q (128 : Int)))) (D.ofN (cntTo w h (D.add (D.rem r (900001 : Int)) (1 : Int)) x))))) (D.ne (countF w h (D.add (D.add (D.rem r (900001 : Int))
    (D.rem p (128 : Int))) (D.rem q (128 : Int))) (D.rem r (900001 : Int))) (0 : Int)) = true → D.and (D.not (D.cnd (D.ne (D.add (countF w h (D.rem r (900001 :
    Int)) (D.add (D.rem r (900001 : Int)) (D.rem p (128 : Int)))) (countF w h (D.add (D.rem r (900001 : Int)) (D.rem p (128 : Int))) (D.add (D.add (D.rem r (900001
    : Int)) (D.rem p (128 : Int))) (D.rem q (128 : Int))))) (D.ofN (cntTo w h (D.add (D.rem r (900001 : Int)) (1 : Int)) x))) true (D.ne (countF w h (D.rem r
    (900001 : Int)) (D.add (D.add (D.rem r (900001 : Int)) (D.rem p (128 : Int))) (D.rem q (128 : Int)))) (D.ofN (cntTo w h (D.add (D.rem r (900001 : Int)) (1 :
    Int)) x))))) (D.ne (countF w h (D.add (D.add (D.rem r (900001 : Int)) (D.rem p (128 : Int))) (D.rem q (128 : Int))) (D.rem r (900001 : Int))) (0 : Int)) = true)
    ∧ (D.not (D.cnd (D.ne (D.add (countF w h (D.rem r (900001 : Int)) (D.add (D.rem r (900001 : Int)) (D.rem p (128 : Int)))) (countF w h (D.add (D.rem r (900001 :
    Int)) (D.rem p (128 : Int))) (D.add (D.add (D.rem r (900001 : Int)) (D.rem p (128 : Int))) (D.rem q (128 : Int))))) (D.ofN (cntTo w h (D.add (D.rem r (900001 :
    Int)) (1 : Int)) x))) true (D.ne (countF w h (D.rem r (900001 : Int)) (D.add (D.add (D.rem r (900001 : Int)) (D.rem p (128 : Int))) (D.rem q (128 : Int))))
    (D.ofN (cntTo w h (D.add (D.rem r (900001 : Int)) (1 : Int)) x)))) = true → D.not (D.cnd (D.ne (D.add (countF w h (D.rem r (900001 : Int)) (D.add (D.rem r
    (900001 : Int)) (D.rem p (128 : Int)))) (countF w h (D.add (D.rem r (900001 : Int)) (D.rem p (128 : Int))) (D.add (D.add (D.rem r (900001 : Int)) (D.rem p (128
    : Int))) (D.rem q (128 : Int))))) (D.ofN (cntTo w h (D.add (D.rem r (900001 : Int)) (1 : Int)) x))) true (D.ne (countF w h (D.rem r (900001 : Int)) (D.add
    (D.add (D.rem r (900001 : Int)) (D.rem p (128 : Int))) (D.rem q (128 : Int)))) (D.ofN (cntTo w h (D.add (D.rem r (900001 : Int)) (1 : Int)) x)))) = true → D.not
    (D.cnd (D.ne (D.add (countF w h (D.rem r (900001 : Int)) (D.add (D.rem r (900001 : Int)) (D.rem p (128 : Int)))) (countF w h (D.add (D.rem r (900001 : Int))
    (D.rem p (128 : Int))) (D.add (D.add (D.rem r (900001 : Int)) (D.rem p (128 : Int))) (D.rem q (128 : Int))))) (D.ofN (cntTo w h (D.add (D.rem r (900001 : Int))
    (1 : Int)) x))) true (D.ne (countF w h (D.rem r (900001 : Int)) (D.add (D.add (D.rem r (900001 : Int)) (D.rem p (128 : Int))) (D.rem q (128 : Int)))) (D.ofN
    (cntTo w h (D.add (D.rem r (900001 : Int)) (1 : Int)) x)))) = true) ∧ (D.not (D.cnd (D.ne (D.add (countF w h (D.rem r (900001 : Int)) (D.add (D.rem r (900001 :
    Int)) (D.rem p (128 : Int)))) (countF w h (D.add (D.rem r (900001 : Int)) (D.rem p (128 : Int))) (D.add (D.add (D.rem r (900001 : Int)) (D.rem p (128 : Int)))
    (D.rem q (128 : Int))))) (D.ofN (cntTo w h (D.add (D.rem r (900001 : Int)) (1 : Int)) x))) true (D.ne (countF w h (D.rem r (900001 : Int)) (D.add (D.add (D.rem
    r (900001 : Int)) (D.rem p (128 : Int))) (D.rem q (128 : Int)))) (D.ofN (cntTo w h (D.add (D.rem r (900001 : Int)) (1 : Int)) x)))) = true → D.and (D.not (D.cnd
    (D.ne (D.add (countF w h (D.rem r (900001 : Int)) (D.add (D.rem r (900001 : Int)) (D.rem p (128 : Int)))) (countF w h (D.add (D.rem r (900001 : Int)) (D.rem p
    (128 : Int))) (D.add (D.add (D.rem r (900001 : Int)) (D.rem p (128 : Int))) (D.rem q (128 : Int))))) (D.ofN (cntTo w h (D.add (D.rem r (900001 : Int)) (1 :
    Int)) x))) true (D.ne (countF w h (D.rem r (900001 : Int)) (D.add (D.add (D.rem r (900001 : Int)) (D.rem p (128 : Int))) (D.rem q (128 : Int)))) (D.ofN (cntTo w
    h (D.add (D.rem r (900001 : Int)) (1 : Int)) x))))) (D.ne (countF w h (D.add (D.add (D.rem r (900001 : Int)) (D.rem p (128 : Int))) (D.rem q (128 : Int)))
    (D.rem r (900001 : Int))) (0 : Int)) = true → D.and (D.not (D.cnd (D.ne (D.add (countF w h (D.rem r (900001 : Int)) (D.add (D.rem r (900001 : Int)) (D.rem p
    (128 : Int)))) (countF w h (D.add (D.rem r (900001 : Int)) (D.rem p (128 : Int))) (D.add (D.add (D.rem r (900001 : Int)) (D.rem p (128 : Int))) (D.rem q (128 :
    Int))))) (D.ofN (cntTo w h (D.add (D.rem r (900001 : Int)) (1 : Int)) x))) true (D.ne (countF w h (D.rem r (900001 : Int)) (D.add (D.add (D.rem r (900001 :
    Int)) (D.rem p (128 : Int))) (D.rem q (128 : Int)))) (D.ofN (cntTo w h (D.add (D.rem r (900001 : Int)) (1 : Int)) x))))) (D.ne (countF w h (D.add (D.add (D.rem
    r (900001 : Int)) (D.rem p (128 : Int))) (D.rem q (128 : Int))) (D.rem r (900001 : Int))) (0 : Int)) = true) ∧ (D.and true (D.not (D.cnd (D.ne (D.add (countF w
    h (D.rem r (900001 : Int)) (D.add (D.rem r (900001 : Int)) (D.rem p (128 : Int)))) (countF w h (D.add (D.rem r (900001 : Int)) (D.rem p (128 : Int))) (D.add
    (D.add (D.rem r (900001 : Int)) (D.rem p (128 : Int))) (D.rem q (128 : Int))))) (D.ofN (cntTo w h (D.add (D.rem r (900001 : Int)) (1 : Int)) x))) true (D.ne
    (countF w h (D.rem r (900001 : Int)) (D.add (D.add (D.rem r (900001 : Int)) (D.rem p (128 : Int))) (D.rem q (128 : Int)))) (D.ofN (cntTo w h (D.add (D.rem r
    (900001 : Int)) (1 : Int)) x))))) = true → D.not (D.cnd (D.ne (D.add (countF w h (D.rem r (900001 : Int)) (D.add (D.rem r (900001 : Int)) (D.rem p (128 :
    Int)))) (countF w h (D.add (D.rem r (900001 : Int)) (D.rem p (128 : Int))) (D.add (D.add (D.rem r (900001 : Int)) (D.rem p (128 : Int))) (D.rem q (128 :
    Int))))) (D.ofN (cntTo w h (D.add (D.rem r (900001 : Int)) (1 : Int)) x))) true (D.ne (countF w h (D.rem r (900001 : Int)) (D.add (D.add (D.rem r (900001 :
    Int)) (D.rem p (128 : Int))) (D.rem q (128 : Int)))) (D.ofN (cntTo w h (D.add (D.rem r (900001 : Int)) (1 : Int)) x)))) = true) ∧ (D.cnd (D.cnd (D.ne (D.add
    (countF w h (D.rem r (900001 : Int)) (D.add (D.rem r (900001 : Int)) (D.rem p (128 : Int)))) (countF w h (D.add (D.rem r (900001 : Int)) (D.rem p (128 : Int)))
    (D.add (D.add (D.rem r (900001 : Int)) (D.rem p (128 : Int))) (D.rem q (128 : Int))))) (D.ofN (cntTo w h (D.add (D.rem r (900001 : Int)) (1 : Int)) x))) true
    (D.ne (countF w h (D.rem r (900001 : Int)) (D.add (D.add (D.rem r (900001 : Int)) (D.rem p (128 : Int))) (D.rem q (128 : Int)))) (D.ofN (cntTo w h (D.add (D.rem
    r (900001 : Int)) (1 : Int)) x)))) true (D.cnd (D.ne (countF w h (D.add (D.add (D.rem r (900001 : Int)) (D.rem p (128 : Int))) (D.rem q (128 : Int))) (D.rem r
    (900001 : Int))) (0 : Int)) (D.gt (D.add (D.add (D.rem r (900001 : Int)) (D.rem p (128 : Int))) (D.rem q (128 : Int))) (D.rem r (900001 : Int))) false) = true →
    false = true ∧ True) ∧ (D.cnd (D.cnd (D.ne (D.add (countF w h (D.rem r (900001 : Int)) (D.add (D.rem r (900001 : Int)) (D.rem p (128 : Int)))) (countF w h
    (D.add (D.rem r (900001 : Int)) (D.rem p (128 : Int))) (D.add (D.add (D.rem r (900001 : Int)) (D.rem p (128 : Int))) (D.rem q (128 : Int))))) (D.ofN (cntTo w h
    (D.add (D.rem r (900001 : Int)) (1 : Int)) x))) true (D.ne (countF w h (D.rem r (900001 : Int)) (D.add (D.add (D.rem r (900001 : Int)) (D.rem p (128 : Int)))
    (D.rem q (128 : Int)))) (D.ofN (cntTo w h (D.add (D.rem r (900001 : Int)) (1 : Int)) x)))) true (D.cnd (D.ne (countF w h (D.add (D.add (D.rem r (900001 : Int))
    (D.rem p (128 : Int))) (D.rem q (128 : Int))) (D.rem r (900001 : Int))) (0 : Int)) (D.gt (D.add (D.add (D.rem r (900001 : Int)) (D.rem p (128 : Int))) (D.rem q
    (128 : Int))) (D.rem r (900001 : Int))) false) = false → inR IntKind.i64 n ∧ D.ine (31 : Int) (0 : Int) ∧ addP z w h (D.rem r (900001 : Int)) (D.rem n (31 :
    Int)) ∧ (true = true → true = true → true = true) ∧ (true = true → true = true → true = true) ∧ (D.and true (D.not (D.ne (addE w h (D.rem r (900001 : Int))
    (D.rem n (31 : Int))) (0 : Int))) = true → D.and true (D.not (D.ne (addE w h (D.rem r (900001 : Int)) (D.rem n (31 : Int))) (0 : Int))) = true → D.and true
    (D.not (D.ne (addE w h (D.rem r (900001 : Int)) (D.rem n (31 : Int))) (0 : Int))) = true) ∧ (D.and true (D.not (D.ne (addE w h (D.rem r (900001 : Int)) (D.rem n
    (31 : Int))) (0 : Int))) = true → D.and true (D.not (D.ne (addE w h (D.rem r (900001 : Int)) (D.rem n (31 : Int))) (0 : Int))) = true → D.and true (D.not (D.ne
    (addE w h (D.rem r (900001 : Int)) (D.rem n (31 : Int))) (0 : Int))) = true) ∧ (D.and true (D.not (D.ne (addE w h (D.rem r (900001 : Int)) (D.rem n (31 : Int)))
    (0 : Int))) = true → D.and true (D.not (D.ne (addE w h (D.rem r (900001 : Int)) (D.rem n (31 : Int))) (0 : Int))) = true → D.and true (D.not (D.ne (addE w h
    (D.rem r (900001 : Int)) (D.rem n (31 : Int))) (0 : Int))) = true) ∧ (D.and true (D.not (D.ne (addE w h (D.rem r (900001 : Int)) (D.rem n (31 : Int))) (0 :
    Int))) = true → countP z w h (D.rem r (900001 : Int)) (addD w h (D.rem r (900001 : Int)) (D.rem n (31 : Int)))) ∧ (D.and true (D.not (D.ne (addE w h (D.rem r
    (900001 : Int)) (D.rem n (31 : Int))) (0 : Int))) = true → D.and true (D.not (D.ne (addE w h (D.rem r (900001 : Int)) (D.rem n (31 : Int))) (0 : Int))) = true →
    D.and true (D.not (D.ne (addE w h (D.rem r (900001 : Int)) (D.rem n (31 : Int))) (0 : Int))) = true) ∧ (D.and true (D.not (D.ne (addE w h (D.rem r (900001 :
    Int)) (D.rem n (31 : Int))) (0 : Int))) = true → inR IntKind.i64 n) ∧ (D.and true (D.not (D.ne (addE w h (D.rem r (900001 : Int)) (D.rem n (31 : Int))) (0 :
    Int))) = true → D.and true (D.not (D.ne (addE w h (D.rem r (900001 : Int)) (D.rem n (31 : Int))) (0 : Int))) = true → D.and true (D.not (D.ne (addE w h (D.rem r
    (900001 : Int)) (D.rem n (31 : Int))) (0 : Int))) = true) ∧ (D.and true (D.not (D.ne (addE w h (D.rem r (900001 : Int)) (D.rem n (31 : Int))) (0 : Int))) = true
    → D.ine (31 : Int) (0 : Int)) ∧ (D.and true (D.not (D.ne (addE w h (D.rem r (900001 : Int)) (D.rem n (31 : Int))) (0 : Int))) = true → D.and true (D.not (D.ne
    (addE w h (D.rem r (900001 : Int)) (D.rem n (31 : Int))) (0 : Int))) = true → D.and true (D.not (D.ne (addE w h (D.rem r (900001 : Int)) (D.rem n (31 : Int)))
    (0 : Int))) = true) ∧ (D.and true (D.not (D.ne (addE w h (D.rem r (900001 : Int)) (D.rem n (31 : Int))) (0 : Int))) = true → D.and true (D.not (D.ne (addE w h
    (D.rem r (900001 : Int)) (D.rem n (31 : Int))) (0 : Int))) = true → D.and true (D.not (D.ne (addE w h (D.rem r (900001 : Int)) (D.rem n (31 : Int))) (0 : Int)))
    = true) ∧ (true = true → true = true → true = true) ∧ (true = true → D.and true (D.not (D.ne (addE w h (D.rem r (900001 : Int)) (D.rem n (31 : Int))) (0 :
    Int))) = true → D.and true (D.not (D.ne (addE w h (D.rem r (900001 : Int)) (D.rem n (31 : Int))) (0 : Int))) = true) ∧ (D.and true true = true → true = true) ∧
    D.cnd true (D.cnd (D.ne (addE w h (D.rem r (900001 : Int)) (D.rem n (31 : Int))) (0 : Int)) true (D.eq (countF w h (D.rem r (900001 : Int)) (addD w h (D.rem r
    (900001 : Int)) (D.rem n (31 : Int)))) (D.rem n (31 : Int)))) false = true ∧ True))))) :
    evF (mkc K7) (lawCountA w h (D.rem r 900001) (D.add (D.add (D.rem r 900001) (D.rem p 128)) (D.rem q 128))) 6 [cal z w h, .dat S32 r, .dat U8 p, .dat U8 q, .dat U8 n] [] ⟨r32 r ∧ r8 p ∧ r8 q ∧ r8 n, .dat .bool true, []⟩ := of_eq (by kernel_rfl) hvc

theorem vc_lweeks (z : Int) (w : List Bool) (h : List Int) (r : Int) (hvc :
     true = true ∧ (r32 r → True ∧ inR IntKind.i64 r ∧ D.ine (900001 : Int) (0 : Int) ∧ 1 = 1 ∧ 1 = 1 ∧ 0 = 0 ∧ 1 = 1 ∧ 0 = 0 ∧ True ∧ (D.not (fineF z
    w (D.nil Int)) = true → true = true ∧ True) ∧ (D.not (fineF z w (D.nil Int)) = false → (∃ x, upTo w x ∧ z = z ∧ w = w ∧ h = h ∧ r = r ∧ 1 = 1 ∧ 0 = 0 ∧ 0 = 0 ∧
    false = false ∧ true = true ∧ D.rem r (900001 : Int) = D.rem r (900001 : Int) ∧ (0 : Int) = D.ofN (trueTo w x) ∧ (0 : Int) = x ∧ true = true ∧ r = r ∧ r = r ∧
    D.rem r (900001 : Int) = D.rem r (900001 : Int) ∧ 1 = 1 ∧ 0 = 0 ∧ 2 = 2 ∧ z = z ∧ w = w ∧ Value.slice none (0) (0) = Value.slice none (0) (0) ∧ fineF z w (D.nil
    Int) = fineF z w (D.nil Int) ∧ D.not (fineF z w (D.nil Int)) = D.not (fineF z w (D.nil Int)) ∧ z = z ∧ w = w ∧ Value.slice none (0) (0) = Value.slice none (0)
    (0) ∧ True) ∧ ∀ (x : Int), upTo w x → 1 = 1 ∧ 1 = 1 ∧ 0 = 0 ∧ (D.lt x (D.ilen w) = true → 1 = 1 ∧ 1 = 1 ∧ 0 = 0 ∧ D.ile (0 : Int) x ∧ D.ilt x (D.ilen w) ∧
    (D.get w (D.nat x) false = true → inR IntKind.i64 (D.add (D.ofN (trueTo w x)) (1 : Int)) ∧ inR IntKind.i64 (D.add x (1 : Int)) ∧ ∃ y, upTo w y ∧ (z = z ∧ w = w
    ∧ h = h ∧ r = r ∧ 1 = 1 ∧ 0 = 0 ∧ 0 = 0 ∧ false = false ∧ true = true ∧ D.rem r (900001 : Int) = D.rem r (900001 : Int) ∧ D.add (D.ofN (trueTo w x)) (1 : Int) =
    D.ofN (trueTo w y) ∧ D.add x (1 : Int) = y ∧ true = true ∧ r = r ∧ r = r ∧ D.rem r (900001 : Int) = D.rem r (900001 : Int) ∧ 1 = 1 ∧ 0 = 0 ∧ 2 = 2 ∧ z = z ∧ w =
    w ∧ Value.slice none (0) (0) = Value.slice none (0) (0) ∧ fineF z w (D.nil Int) = fineF z w (D.nil Int) ∧ D.not (fineF z w (D.nil Int)) = D.not (fineF z w
    (D.nil Int)) ∧ z = z ∧ w = w ∧ Value.slice none (0) (0) = Value.slice none (0) (0) ∧ True) ∧ D.nlt (D.nat (D.sub (D.ilen w) y)) (D.nat (D.sub (D.ilen w) x))) ∧
    (D.get w (D.nat x) false = false → inR IntKind.i64 (D.add x (1 : Int)) ∧ ∃ y, upTo w y ∧ (z = z ∧ w = w ∧ h = h ∧ r = r ∧ 1 = 1 ∧ 0 = 0 ∧ 0 = 0 ∧ false = false
    ∧ true = true ∧ D.rem r (900001 : Int) = D.rem r (900001 : Int) ∧ D.ofN (trueTo w x) = D.ofN (trueTo w y) ∧ D.add x (1 : Int) = y ∧ true = true ∧ r = r ∧ r = r
    ∧ D.rem r (900001 : Int) = D.rem r (900001 : Int) ∧ 1 = 1 ∧ 0 = 0 ∧ 2 = 2 ∧ z = z ∧ w = w ∧ Value.slice none (0) (0) = Value.slice none (0) (0) ∧ fineF z w
    (D.nil Int) = fineF z w (D.nil Int) ∧ D.not (fineF z w (D.nil Int)) = D.not (fineF z w (D.nil Int)) ∧ z = z ∧ w = w ∧ Value.slice none (0) (0) = Value.slice
    none (0) (0) ∧ True) ∧ D.nlt (D.nat (D.sub (D.ilen w) y)) (D.nat (D.sub (D.ilen w) x)))) ∧ (D.lt x (D.ilen w) = false → 1 = 1 ∧ 0 = 0 ∧ argP z w (D.nil Int)
    (D.rem r (900001 : Int)) ∧ (true = true → 1 = 1) ∧ (true = true → 0 = 0) ∧ (true = true → true = true → true = true) ∧ (true = true → true = true → true = true)
    ∧ (true = true → validF z w (D.nil Int) = true ∧ inDays (D.rem r (900001 : Int)) = true) ∧ (true = true → 1 = 1) ∧ (true = true → 0 = 0) ∧ (true = true → true =
    true → true = true) ∧ (true = true → inR IntKind.i64 (D.add (D.rem r (900001 : Int)) (7 : Int))) ∧ (true = true → true = true → true = true) ∧ (true = true →
    true = true → true = true) ∧ (true = true → validF z w (D.nil Int) = true ∧ inDays (D.add (D.rem r (900001 : Int)) (7 : Int)) = true) ∧ (true = true → true =
    true → true = true) ∧ (true = true → true = true → true = true) ∧ (D.and true true = true → true = true) ∧ (D.cnd true (D.beq (workF w (D.nil Int) (D.rem r
    (900001 : Int))) (workF w (D.nil Int) (D.add (D.rem r (900001 : Int)) (7 : Int)))) false = true → 1 = 1) ∧ (D.cnd true (D.beq (workF w (D.nil Int) (D.rem r
    (900001 : Int))) (workF w (D.nil Int) (D.add (D.rem r (900001 : Int)) (7 : Int)))) false = true → 0 = 0) ∧ (D.cnd true (D.beq (workF w (D.nil Int) (D.rem r
    (900001 : Int))) (workF w (D.nil Int) (D.add (D.rem r (900001 : Int)) (7 : Int)))) false = true → D.cnd true (D.beq (workF w (D.nil Int) (D.rem r (900001 :
    Int))) (workF w (D.nil Int) (D.add (D.rem r (900001 : Int)) (7 : Int)))) false = true → D.cnd true (D.beq (workF w (D.nil Int) (D.rem r (900001 : Int))) (workF
    w (D.nil Int) (D.add (D.rem r (900001 : Int)) (7 : Int)))) false = true) ∧ (D.cnd true (D.beq (workF w (D.nil Int) (D.rem r (900001 : Int))) (workF w (D.nil
    Int) (D.add (D.rem r (900001 : Int)) (7 : Int)))) false = true → inR IntKind.i64 (D.add (D.rem r (900001 : Int)) (7 : Int))) ∧ (D.cnd true (D.beq (workF w
    (D.nil Int) (D.rem r (900001 : Int))) (workF w (D.nil Int) (D.add (D.rem r (900001 : Int)) (7 : Int)))) false = true → D.cnd true (D.beq (workF w (D.nil Int)
    (D.rem r (900001 : Int))) (workF w (D.nil Int) (D.add (D.rem r (900001 : Int)) (7 : Int)))) false = true → D.cnd true (D.beq (workF w (D.nil Int) (D.rem r
    (900001 : Int))) (workF w (D.nil Int) (D.add (D.rem r (900001 : Int)) (7 : Int)))) false = true) ∧ (D.cnd true (D.beq (workF w (D.nil Int) (D.rem r (900001 :
    Int))) (workF w (D.nil Int) (D.add (D.rem r (900001 : Int)) (7 : Int)))) false = true → D.cnd true (D.beq (workF w (D.nil Int) (D.rem r (900001 : Int))) (workF
    w (D.nil Int) (D.add (D.rem r (900001 : Int)) (7 : Int)))) false = true → D.cnd true (D.beq (workF w (D.nil Int) (D.rem r (900001 : Int))) (workF w (D.nil Int)
    (D.add (D.rem r (900001 : Int)) (7 : Int)))) false = true) ∧ (D.cnd true (D.beq (workF w (D.nil Int) (D.rem r (900001 : Int))) (workF w (D.nil Int) (D.add
    (D.rem r (900001 : Int)) (7 : Int)))) false = true → D.cnd true (D.beq (workF w (D.nil Int) (D.rem r (900001 : Int))) (workF w (D.nil Int) (D.add (D.rem r
    (900001 : Int)) (7 : Int)))) false = true → D.cnd true (D.beq (workF w (D.nil Int) (D.rem r (900001 : Int))) (workF w (D.nil Int) (D.add (D.rem r (900001 :
    Int)) (7 : Int)))) false = true) ∧ (D.cnd true (D.beq (workF w (D.nil Int) (D.rem r (900001 : Int))) (workF w (D.nil Int) (D.add (D.rem r (900001 : Int)) (7 :
    Int)))) false = true → countP z w (D.nil Int) (D.rem r (900001 : Int)) (D.add (D.rem r (900001 : Int)) (7 : Int))) ∧ (D.cnd true (D.beq (workF w (D.nil Int)
    (D.rem r (900001 : Int))) (workF w (D.nil Int) (D.add (D.rem r (900001 : Int)) (7 : Int)))) false = true → D.cnd true (D.beq (workF w (D.nil Int) (D.rem r
    (900001 : Int))) (workF w (D.nil Int) (D.add (D.rem r (900001 : Int)) (7 : Int)))) false = true → D.cnd true (D.beq (workF w (D.nil Int) (D.rem r (900001 :
    Int))) (workF w (D.nil Int) (D.add (D.rem r (900001 : Int)) (7 : Int)))) false = true) ∧ (D.cnd true (D.beq (workF w (D.nil Int) (D.rem r (900001 : Int)))
    (workF w (D.nil Int) (D.add (D.rem r (900001 : Int)) (7 : Int)))) false = true → D.cnd true (D.beq (workF w (D.nil Int) (D.rem r (900001 : Int))) (workF w
    (D.nil Int) (D.add (D.rem r (900001 : Int)) (7 : Int)))) false = true → D.cnd true (D.beq (workF w (D.nil Int) (D.rem r (900001 : Int))) (workF w (D.nil Int)
    (D.add (D.rem r (900001 : Int)) (7 : Int)))) false = true) ∧ (D.and true (D.cnd true (D.beq (workF w (D.nil Int) (D.rem r (900001 : Int))) (workF w (D.nil Int)
    (D.add (D.rem r (900001 : Int)) (7 : Int)))) false) = true → D.cnd true (D.beq (workF w (D.nil Int) (D.rem r (900001 : Int))) (workF w (D.nil Int) (D.add (D.rem
    r (900001 : Int)) (7 : Int)))) false = true) ∧ (D.cnd (D.cnd true (D.beq (workF w (D.nil Int) (D.rem r (900001 : Int))) (workF w (D.nil Int) (D.add (D.rem r
    (900001 : Int)) (7 : Int)))) false) (D.eq (countF w (D.nil Int) (D.rem r (900001 : Int)) (D.add (D.rem r (900001 : Int)) (7 : Int))) (D.ofN (trueTo w x))) false
    = true → D.cnd (D.cnd true (D.beq (workF w (D.nil Int) (D.rem r (900001 : Int))) (workF w (D.nil Int) (D.add (D.rem r (900001 : Int)) (7 : Int)))) false) (D.eq
    (countF w (D.nil Int) (D.rem r (900001 : Int)) (D.add (D.rem r (900001 : Int)) (7 : Int))) (D.ofN (trueTo w x))) false = true → D.cnd (D.cnd true (D.beq (workF
    w (D.nil Int) (D.rem r (900001 : Int))) (workF w (D.nil Int) (D.add (D.rem r (900001 : Int)) (7 : Int)))) false) (D.eq (countF w (D.nil Int) (D.rem r (900001 :
    Int)) (D.add (D.rem r (900001 : Int)) (7 : Int))) (D.ofN (trueTo w x))) false = true) ∧ (D.cnd (D.cnd true (D.beq (workF w (D.nil Int) (D.rem r (900001 : Int)))
    (workF w (D.nil Int) (D.add (D.rem r (900001 : Int)) (7 : Int)))) false) (D.eq (countF w (D.nil Int) (D.rem r (900001 : Int)) (D.add (D.rem r (900001 : Int)) (7
    : Int))) (D.ofN (trueTo w x))) false = true → D.cnd (D.cnd true (D.beq (workF w (D.nil Int) (D.rem r (900001 : Int))) (workF w (D.nil Int) (D.add (D.rem r
    (900001 : Int)) (7 : Int)))) false) (D.eq (countF w (D.nil Int) (D.rem r (900001 : Int)) (D.add (D.rem r (900001 : Int)) (7 : Int))) (D.ofN (trueTo w x))) false
    = true → D.cnd (D.cnd true (D.beq (workF w (D.nil Int) (D.rem r (900001 : Int))) (workF w (D.nil Int) (D.add (D.rem r (900001 : Int)) (7 : Int)))) false) (D.eq
    (countF w (D.nil Int) (D.rem r (900001 : Int)) (D.add (D.rem r (900001 : Int)) (7 : Int))) (D.ofN (trueTo w x))) false = true) ∧ (D.cnd (D.cnd true (D.beq
    (workF w (D.nil Int) (D.rem r (900001 : Int))) (workF w (D.nil Int) (D.add (D.rem r (900001 : Int)) (7 : Int)))) false) (D.eq (countF w (D.nil Int) (D.rem r
    (900001 : Int)) (D.add (D.rem r (900001 : Int)) (7 : Int))) (D.ofN (trueTo w x))) false = true → D.cnd (D.cnd true (D.beq (workF w (D.nil Int) (D.rem r (900001
    : Int))) (workF w (D.nil Int) (D.add (D.rem r (900001 : Int)) (7 : Int)))) false) (D.eq (countF w (D.nil Int) (D.rem r (900001 : Int)) (D.add (D.rem r (900001 :
    Int)) (7 : Int))) (D.ofN (trueTo w x))) false = true → D.cnd (D.cnd true (D.beq (workF w (D.nil Int) (D.rem r (900001 : Int))) (workF w (D.nil Int) (D.add
    (D.rem r (900001 : Int)) (7 : Int)))) false) (D.eq (countF w (D.nil Int) (D.rem r (900001 : Int)) (D.add (D.rem r (900001 : Int)) (7 : Int))) (D.ofN (trueTo w
    x))) false = true) ∧ (D.cnd (D.cnd true (D.beq (workF w (D.nil Int) (D.rem r (900001 : Int))) (workF w (D.nil Int) (D.add (D.rem r (900001 : Int)) (7 : Int))))
    false) (D.eq (countF w (D.nil Int) (D.rem r (900001 : Int)) (D.add (D.rem r (900001 : Int)) (7 : Int))) (D.ofN (trueTo w x))) false = true → D.cnd (D.cnd true
    (D.beq (workF w (D.nil Int) (D.rem r (900001 : Int))) (workF w (D.nil Int) (D.add (D.rem r (900001 : Int)) (7 : Int)))) false) (D.eq (countF w (D.nil Int)
    (D.rem r (900001 : Int)) (D.add (D.rem r (900001 : Int)) (7 : Int))) (D.ofN (trueTo w x))) false = true → D.cnd (D.cnd true (D.beq (workF w (D.nil Int) (D.rem r
    (900001 : Int))) (workF w (D.nil Int) (D.add (D.rem r (900001 : Int)) (7 : Int)))) false) (D.eq (countF w (D.nil Int) (D.rem r (900001 : Int)) (D.add (D.rem r
    (900001 : Int)) (7 : Int))) (D.ofN (trueTo w x))) false = true) ∧ (D.and true (D.cnd (D.cnd true (D.beq (workF w (D.nil Int) (D.rem r (900001 : Int))) (workF w
    (D.nil Int) (D.add (D.rem r (900001 : Int)) (7 : Int)))) false) (D.eq (countF w (D.nil Int) (D.rem r (900001 : Int)) (D.add (D.rem r (900001 : Int)) (7 : Int)))
    (D.ofN (trueTo w x))) false) = true → D.cnd (D.cnd true (D.beq (workF w (D.nil Int) (D.rem r (900001 : Int))) (workF w (D.nil Int) (D.add (D.rem r (900001 :
    Int)) (7 : Int)))) false) (D.eq (countF w (D.nil Int) (D.rem r (900001 : Int)) (D.add (D.rem r (900001 : Int)) (7 : Int))) (D.ofN (trueTo w x))) false = true) ∧
    D.cnd (D.cnd (D.cnd true (D.beq (workF w (D.nil Int) (D.rem r (900001 : Int))) (workF w (D.nil Int) (D.add (D.rem r (900001 : Int)) (7 : Int)))) false) (D.eq
    (countF w (D.nil Int) (D.rem r (900001 : Int)) (D.add (D.rem r (900001 : Int)) (7 : Int))) (D.ofN (trueTo w x))) false) (D.beq (D.eq (nextE w (D.nil Int) (D.rem
    r (900001 : Int))) (0 : Int)) (D.gt (D.ofN (trueTo w x)) (0 : Int))) false = true ∧ True)))) :
    evF { mkc K7 with mb := fun t => t == 2 } (lawWeekA w) 7 [cal z w h, .dat S32 r] [] ⟨r32 r, .dat .bool true, []⟩ := of_eq (by kernel_rfl) hvc

theorem vc_lzones (z : Int) (w : List Bool) (h : List Int) (a b : Int) (hvc :
     true = true ∧ (r32 a ∧ r32 b → True ∧ inR IntKind.i64 a ∧ D.ine (1000000001 : Int) (0 : Int) ∧ inR IntKind.i64 b ∧ D.ine (900001 : Int) (0 :
    Int) ∧ True ∧ (D.not (fineF z w h) = true → true = true ∧ True) ∧ (D.not (fineF z w h) = false → 1 = 1 ∧ 0 = 0 ∧ 1 = 1 ∧ 1 = 1 ∧ 0 = 0 ∧ okLocal z w h (D.rem a
    (1000000001 : Int)) ∧ 1 = 1 ∧ 0 = 0 ∧ inR IntKind.i64 (D.add (D.rem a (1000000001 : Int)) z) ∧ okLocal (Int.ofNat (0)) w h (D.add (D.rem a (1000000001 : Int))
    z) ∧ argP z w h (D.rem b (900001 : Int)) ∧ 1 = 1 ∧ 0 = 0 ∧ argP (Int.ofNat (0)) w h (D.rem b (900001 : Int)) ∧ (true = true → true = true → true = true) ∧ (true
    = true → true = true → true = true) ∧ (D.and true true = true → true = true) ∧ (D.cnd true (D.eq (dayF z (D.rem a (1000000001 : Int))) (dayF (0 : Int) (D.add
    (D.rem a (1000000001 : Int)) z))) false = true → D.cnd true (D.eq (dayF z (D.rem a (1000000001 : Int))) (dayF (0 : Int) (D.add (D.rem a (1000000001 : Int)) z)))
    false = true → D.cnd true (D.eq (dayF z (D.rem a (1000000001 : Int))) (dayF (0 : Int) (D.add (D.rem a (1000000001 : Int)) z))) false = true) ∧ (D.cnd true (D.eq
    (dayF z (D.rem a (1000000001 : Int))) (dayF (0 : Int) (D.add (D.rem a (1000000001 : Int)) z))) false = true → D.cnd true (D.eq (dayF z (D.rem a (1000000001 :
    Int))) (dayF (0 : Int) (D.add (D.rem a (1000000001 : Int)) z))) false = true → D.cnd true (D.eq (dayF z (D.rem a (1000000001 : Int))) (dayF (0 : Int) (D.add
    (D.rem a (1000000001 : Int)) z))) false = true) ∧ (D.and true (D.cnd true (D.eq (dayF z (D.rem a (1000000001 : Int))) (dayF (0 : Int) (D.add (D.rem a
    (1000000001 : Int)) z))) false) = true → D.cnd true (D.eq (dayF z (D.rem a (1000000001 : Int))) (dayF (0 : Int) (D.add (D.rem a (1000000001 : Int)) z))) false =
    true) ∧ (D.cnd (D.cnd true (D.eq (dayF z (D.rem a (1000000001 : Int))) (dayF (0 : Int) (D.add (D.rem a (1000000001 : Int)) z))) false) (D.eq (minF z (D.rem a
    (1000000001 : Int))) (minF (0 : Int) (D.add (D.rem a (1000000001 : Int)) z))) false = true → D.cnd (D.cnd true (D.eq (dayF z (D.rem a (1000000001 : Int))) (dayF
    (0 : Int) (D.add (D.rem a (1000000001 : Int)) z))) false) (D.eq (minF z (D.rem a (1000000001 : Int))) (minF (0 : Int) (D.add (D.rem a (1000000001 : Int)) z)))
    false = true → D.cnd (D.cnd true (D.eq (dayF z (D.rem a (1000000001 : Int))) (dayF (0 : Int) (D.add (D.rem a (1000000001 : Int)) z))) false) (D.eq (minF z
    (D.rem a (1000000001 : Int))) (minF (0 : Int) (D.add (D.rem a (1000000001 : Int)) z))) false = true) ∧ (D.cnd (D.cnd true (D.eq (dayF z (D.rem a (1000000001 :
    Int))) (dayF (0 : Int) (D.add (D.rem a (1000000001 : Int)) z))) false) (D.eq (minF z (D.rem a (1000000001 : Int))) (minF (0 : Int) (D.add (D.rem a (1000000001 :
    Int)) z))) false = true → D.cnd (D.cnd true (D.eq (dayF z (D.rem a (1000000001 : Int))) (dayF (0 : Int) (D.add (D.rem a (1000000001 : Int)) z))) false) (D.eq
    (minF z (D.rem a (1000000001 : Int))) (minF (0 : Int) (D.add (D.rem a (1000000001 : Int)) z))) false = true → D.cnd (D.cnd true (D.eq (dayF z (D.rem a
    (1000000001 : Int))) (dayF (0 : Int) (D.add (D.rem a (1000000001 : Int)) z))) false) (D.eq (minF z (D.rem a (1000000001 : Int))) (minF (0 : Int) (D.add (D.rem a
    (1000000001 : Int)) z))) false = true) ∧ (D.cnd (D.cnd true (D.eq (dayF z (D.rem a (1000000001 : Int))) (dayF (0 : Int) (D.add (D.rem a (1000000001 : Int)) z)))
    false) (D.eq (minF z (D.rem a (1000000001 : Int))) (minF (0 : Int) (D.add (D.rem a (1000000001 : Int)) z))) false = true → validF z w h = true ∧ inDays (D.rem b
    (900001 : Int)) = true) ∧ (D.cnd (D.cnd true (D.eq (dayF z (D.rem a (1000000001 : Int))) (dayF (0 : Int) (D.add (D.rem a (1000000001 : Int)) z))) false) (D.eq
    (minF z (D.rem a (1000000001 : Int))) (minF (0 : Int) (D.add (D.rem a (1000000001 : Int)) z))) false = true → 1 = 1) ∧ (D.cnd (D.cnd true (D.eq (dayF z (D.rem a
    (1000000001 : Int))) (dayF (0 : Int) (D.add (D.rem a (1000000001 : Int)) z))) false) (D.eq (minF z (D.rem a (1000000001 : Int))) (minF (0 : Int) (D.add (D.rem a
    (1000000001 : Int)) z))) false = true → 0 = 0) ∧ (D.cnd (D.cnd true (D.eq (dayF z (D.rem a (1000000001 : Int))) (dayF (0 : Int) (D.add (D.rem a (1000000001 :
    Int)) z))) false) (D.eq (minF z (D.rem a (1000000001 : Int))) (minF (0 : Int) (D.add (D.rem a (1000000001 : Int)) z))) false = true → D.cnd (D.cnd true (D.eq
    (dayF z (D.rem a (1000000001 : Int))) (dayF (0 : Int) (D.add (D.rem a (1000000001 : Int)) z))) false) (D.eq (minF z (D.rem a (1000000001 : Int))) (minF (0 :
    Int) (D.add (D.rem a (1000000001 : Int)) z))) false = true → D.cnd (D.cnd true (D.eq (dayF z (D.rem a (1000000001 : Int))) (dayF (0 : Int) (D.add (D.rem a
    (1000000001 : Int)) z))) false) (D.eq (minF z (D.rem a (1000000001 : Int))) (minF (0 : Int) (D.add (D.rem a (1000000001 : Int)) z))) false = true) ∧ (D.cnd
    (D.cnd true (D.eq (dayF z (D.rem a (1000000001 : Int))) (dayF (0 : Int) (D.add (D.rem a (1000000001 : Int)) z))) false) (D.eq (minF z (D.rem a (1000000001 :
    Int))) (minF (0 : Int) (D.add (D.rem a (1000000001 : Int)) z))) false = true → D.cnd (D.cnd true (D.eq (dayF z (D.rem a (1000000001 : Int))) (dayF (0 : Int)
    (D.add (D.rem a (1000000001 : Int)) z))) false) (D.eq (minF z (D.rem a (1000000001 : Int))) (minF (0 : Int) (D.add (D.rem a (1000000001 : Int)) z))) false =
    true → D.cnd (D.cnd true (D.eq (dayF z (D.rem a (1000000001 : Int))) (dayF (0 : Int) (D.add (D.rem a (1000000001 : Int)) z))) false) (D.eq (minF z (D.rem a
    (1000000001 : Int))) (minF (0 : Int) (D.add (D.rem a (1000000001 : Int)) z))) false = true) ∧ (D.cnd (D.cnd true (D.eq (dayF z (D.rem a (1000000001 : Int)))
    (dayF (0 : Int) (D.add (D.rem a (1000000001 : Int)) z))) false) (D.eq (minF z (D.rem a (1000000001 : Int))) (minF (0 : Int) (D.add (D.rem a (1000000001 : Int))
    z))) false = true → validF (Int.ofNat (0)) w h = true ∧ inDays (D.rem b (900001 : Int)) = true) ∧ (D.cnd (D.cnd true (D.eq (dayF z (D.rem a (1000000001 : Int)))
    (dayF (0 : Int) (D.add (D.rem a (1000000001 : Int)) z))) false) (D.eq (minF z (D.rem a (1000000001 : Int))) (minF (0 : Int) (D.add (D.rem a (1000000001 : Int))
    z))) false = true → D.cnd (D.cnd true (D.eq (dayF z (D.rem a (1000000001 : Int))) (dayF (0 : Int) (D.add (D.rem a (1000000001 : Int)) z))) false) (D.eq (minF z
    (D.rem a (1000000001 : Int))) (minF (0 : Int) (D.add (D.rem a (1000000001 : Int)) z))) false = true → D.cnd (D.cnd true (D.eq (dayF z (D.rem a (1000000001 :
    Int))) (dayF (0 : Int) (D.add (D.rem a (1000000001 : Int)) z))) false) (D.eq (minF z (D.rem a (1000000001 : Int))) (minF (0 : Int) (D.add (D.rem a (1000000001 :
    Int)) z))) false = true) ∧ (D.cnd (D.cnd true (D.eq (dayF z (D.rem a (1000000001 : Int))) (dayF (0 : Int) (D.add (D.rem a (1000000001 : Int)) z))) false) (D.eq
    (minF z (D.rem a (1000000001 : Int))) (minF (0 : Int) (D.add (D.rem a (1000000001 : Int)) z))) false = true → D.cnd (D.cnd true (D.eq (dayF z (D.rem a
    (1000000001 : Int))) (dayF (0 : Int) (D.add (D.rem a (1000000001 : Int)) z))) false) (D.eq (minF z (D.rem a (1000000001 : Int))) (minF (0 : Int) (D.add (D.rem a
    (1000000001 : Int)) z))) false = true → D.cnd (D.cnd true (D.eq (dayF z (D.rem a (1000000001 : Int))) (dayF (0 : Int) (D.add (D.rem a (1000000001 : Int)) z)))
    false) (D.eq (minF z (D.rem a (1000000001 : Int))) (minF (0 : Int) (D.add (D.rem a (1000000001 : Int)) z))) false = true) ∧ (D.and true (D.cnd (D.cnd true (D.eq
    (dayF z (D.rem a (1000000001 : Int))) (dayF (0 : Int) (D.add (D.rem a (1000000001 : Int)) z))) false) (D.eq (minF z (D.rem a (1000000001 : Int))) (minF (0 :
    Int) (D.add (D.rem a (1000000001 : Int)) z))) false) = true → D.cnd (D.cnd true (D.eq (dayF z (D.rem a (1000000001 : Int))) (dayF (0 : Int) (D.add (D.rem a
    (1000000001 : Int)) z))) false) (D.eq (minF z (D.rem a (1000000001 : Int))) (minF (0 : Int) (D.add (D.rem a (1000000001 : Int)) z))) false = true) ∧ (D.cnd
    (D.cnd (D.cnd true (D.eq (dayF z (D.rem a (1000000001 : Int))) (dayF (0 : Int) (D.add (D.rem a (1000000001 : Int)) z))) false) (D.eq (minF z (D.rem a
    (1000000001 : Int))) (minF (0 : Int) (D.add (D.rem a (1000000001 : Int)) z))) false) (D.beq (workF w h (D.rem b (900001 : Int))) (workF w h (D.rem b (900001 :
    Int)))) false = true → D.cnd (D.cnd (D.cnd true (D.eq (dayF z (D.rem a (1000000001 : Int))) (dayF (0 : Int) (D.add (D.rem a (1000000001 : Int)) z))) false)
    (D.eq (minF z (D.rem a (1000000001 : Int))) (minF (0 : Int) (D.add (D.rem a (1000000001 : Int)) z))) false) (D.beq (workF w h (D.rem b (900001 : Int))) (workF w
    h (D.rem b (900001 : Int)))) false = true → D.cnd (D.cnd (D.cnd true (D.eq (dayF z (D.rem a (1000000001 : Int))) (dayF (0 : Int) (D.add (D.rem a (1000000001 :
    Int)) z))) false) (D.eq (minF z (D.rem a (1000000001 : Int))) (minF (0 : Int) (D.add (D.rem a (1000000001 : Int)) z))) false) (D.beq (workF w h (D.rem b (900001
    : Int))) (workF w h (D.rem b (900001 : Int)))) false = true) ∧ (D.cnd (D.cnd (D.cnd true (D.eq (dayF z (D.rem a (1000000001 : Int))) (dayF (0 : Int) (D.add
    (D.rem a (1000000001 : Int)) z))) false) (D.eq (minF z (D.rem a (1000000001 : Int))) (minF (0 : Int) (D.add (D.rem a (1000000001 : Int)) z))) false) (D.beq
    (workF w h (D.rem b (900001 : Int))) (workF w h (D.rem b (900001 : Int)))) false = true → D.cnd (D.cnd (D.cnd true (D.eq (dayF z (D.rem a (1000000001 : Int)))
    (dayF (0 : Int) (D.add (D.rem a (1000000001 : Int)) z))) false) (D.eq (minF z (D.rem a (1000000001 : Int))) (minF (0 : Int) (D.add (D.rem a (1000000001 : Int))
    z))) false) (D.beq (workF w h (D.rem b (900001 : Int))) (workF w h (D.rem b (900001 : Int)))) false = true → D.cnd (D.cnd (D.cnd true (D.eq (dayF z (D.rem a
    (1000000001 : Int))) (dayF (0 : Int) (D.add (D.rem a (1000000001 : Int)) z))) false) (D.eq (minF z (D.rem a (1000000001 : Int))) (minF (0 : Int) (D.add (D.rem a
    (1000000001 : Int)) z))) false) (D.beq (workF w h (D.rem b (900001 : Int))) (workF w h (D.rem b (900001 : Int)))) false = true) ∧ (D.and true (D.cnd (D.cnd
    (D.cnd true (D.eq (dayF z (D.rem a (1000000001 : Int))) (dayF (0 : Int) (D.add (D.rem a (1000000001 : Int)) z))) false) (D.eq (minF z (D.rem a (1000000001 :
    Int))) (minF (0 : Int) (D.add (D.rem a (1000000001 : Int)) z))) false) (D.beq (workF w h (D.rem b (900001 : Int))) (workF w h (D.rem b (900001 : Int)))) false)
    = true → D.cnd (D.cnd (D.cnd true (D.eq (dayF z (D.rem a (1000000001 : Int))) (dayF (0 : Int) (D.add (D.rem a (1000000001 : Int)) z))) false) (D.eq (minF z
    (D.rem a (1000000001 : Int))) (minF (0 : Int) (D.add (D.rem a (1000000001 : Int)) z))) false) (D.beq (workF w h (D.rem b (900001 : Int))) (workF w h (D.rem b
    (900001 : Int)))) false = true) ∧ (D.cnd (D.cnd (D.cnd (D.cnd true (D.eq (dayF z (D.rem a (1000000001 : Int))) (dayF (0 : Int) (D.add (D.rem a (1000000001 :
    Int)) z))) false) (D.eq (minF z (D.rem a (1000000001 : Int))) (minF (0 : Int) (D.add (D.rem a (1000000001 : Int)) z))) false) (D.beq (workF w h (D.rem b (900001
    : Int))) (workF w h (D.rem b (900001 : Int)))) false) (D.eq (nextD w h (D.rem b (900001 : Int))) (nextD w h (D.rem b (900001 : Int)))) false = true → D.cnd
    (D.cnd (D.cnd (D.cnd true (D.eq (dayF z (D.rem a (1000000001 : Int))) (dayF (0 : Int) (D.add (D.rem a (1000000001 : Int)) z))) false) (D.eq (minF z (D.rem a
    (1000000001 : Int))) (minF (0 : Int) (D.add (D.rem a (1000000001 : Int)) z))) false) (D.beq (workF w h (D.rem b (900001 : Int))) (workF w h (D.rem b (900001 :
    Int)))) false) (D.eq (nextD w h (D.rem b (900001 : Int))) (nextD w h (D.rem b (900001 : Int)))) false = true → D.cnd (D.cnd (D.cnd (D.cnd true (D.eq (dayF z
    (D.rem a (1000000001 : Int))) (dayF (0 : Int) (D.add (D.rem a (1000000001 : Int)) z))) false) (D.eq (minF z (D.rem a (1000000001 : Int))) (minF (0 : Int) (D.add
    (D.rem a (1000000001 : Int)) z))) false) (D.beq (workF w h (D.rem b (900001 : Int))) (workF w h (D.rem b (900001 : Int)))) false) (D.eq (nextD w h (D.rem b
    (900001 : Int))) (nextD w h (D.rem b (900001 : Int)))) false = true) ∧ (D.cnd (D.cnd (D.cnd (D.cnd true (D.eq (dayF z (D.rem a (1000000001 : Int))) (dayF (0 :
    Int) (D.add (D.rem a (1000000001 : Int)) z))) false) (D.eq (minF z (D.rem a (1000000001 : Int))) (minF (0 : Int) (D.add (D.rem a (1000000001 : Int)) z))) false)
    (D.beq (workF w h (D.rem b (900001 : Int))) (workF w h (D.rem b (900001 : Int)))) false) (D.eq (nextD w h (D.rem b (900001 : Int))) (nextD w h (D.rem b (900001
    : Int)))) false = true → D.cnd (D.cnd (D.cnd (D.cnd true (D.eq (dayF z (D.rem a (1000000001 : Int))) (dayF (0 : Int) (D.add (D.rem a (1000000001 : Int)) z)))
    false) (D.eq (minF z (D.rem a (1000000001 : Int))) (minF (0 : Int) (D.add (D.rem a (1000000001 : Int)) z))) false) (D.beq (workF w h (D.rem b (900001 : Int)))
    (workF w h (D.rem b (900001 : Int)))) false) (D.eq (nextD w h (D.rem b (900001 : Int))) (nextD w h (D.rem b (900001 : Int)))) false = true → D.cnd (D.cnd (D.cnd
    (D.cnd true (D.eq (dayF z (D.rem a (1000000001 : Int))) (dayF (0 : Int) (D.add (D.rem a (1000000001 : Int)) z))) false) (D.eq (minF z (D.rem a (1000000001 :
    Int))) (minF (0 : Int) (D.add (D.rem a (1000000001 : Int)) z))) false) (D.beq (workF w h (D.rem b (900001 : Int))) (workF w h (D.rem b (900001 : Int)))) false)
    (D.eq (nextD w h (D.rem b (900001 : Int))) (nextD w h (D.rem b (900001 : Int)))) false = true) ∧ (D.and true (D.cnd (D.cnd (D.cnd (D.cnd true (D.eq (dayF z
    (D.rem a (1000000001 : Int))) (dayF (0 : Int) (D.add (D.rem a (1000000001 : Int)) z))) false) (D.eq (minF z (D.rem a (1000000001 : Int))) (minF (0 : Int) (D.add
    (D.rem a (1000000001 : Int)) z))) false) (D.beq (workF w h (D.rem b (900001 : Int))) (workF w h (D.rem b (900001 : Int)))) false) (D.eq (nextD w h (D.rem b
    (900001 : Int))) (nextD w h (D.rem b (900001 : Int)))) false) = true → D.cnd (D.cnd (D.cnd (D.cnd true (D.eq (dayF z (D.rem a (1000000001 : Int))) (dayF (0 :
    Int) (D.add (D.rem a (1000000001 : Int)) z))) false) (D.eq (minF z (D.rem a (1000000001 : Int))) (minF (0 : Int) (D.add (D.rem a (1000000001 : Int)) z))) false)
    (D.beq (workF w h (D.rem b (900001 : Int))) (workF w h (D.rem b (900001 : Int)))) false) (D.eq (nextD w h (D.rem b (900001 : Int))) (nextD w h (D.rem b (900001
    : Int)))) false = true) ∧ (D.cnd (D.cnd (D.cnd (D.cnd (D.cnd true (D.eq (dayF z (D.rem a (1000000001 : Int))) (dayF (0 : Int) (D.add (D.rem a (1000000001 :
    Int)) z))) false) (D.eq (minF z (D.rem a (1000000001 : Int))) (minF (0 : Int) (D.add (D.rem a (1000000001 : Int)) z))) false) (D.beq (workF w h (D.rem b (900001
    : Int))) (workF w h (D.rem b (900001 : Int)))) false) (D.eq (nextD w h (D.rem b (900001 : Int))) (nextD w h (D.rem b (900001 : Int)))) false) (D.eq (nextE w h
    (D.rem b (900001 : Int))) (nextE w h (D.rem b (900001 : Int)))) false = true → D.cnd (D.cnd (D.cnd (D.cnd (D.cnd true (D.eq (dayF z (D.rem a (1000000001 :
    Int))) (dayF (0 : Int) (D.add (D.rem a (1000000001 : Int)) z))) false) (D.eq (minF z (D.rem a (1000000001 : Int))) (minF (0 : Int) (D.add (D.rem a (1000000001 :
    Int)) z))) false) (D.beq (workF w h (D.rem b (900001 : Int))) (workF w h (D.rem b (900001 : Int)))) false) (D.eq (nextD w h (D.rem b (900001 : Int))) (nextD w h
    (D.rem b (900001 : Int)))) false) (D.eq (nextE w h (D.rem b (900001 : Int))) (nextE w h (D.rem b (900001 : Int)))) false = true → D.cnd (D.cnd (D.cnd (D.cnd
    (D.cnd true (D.eq (dayF z (D.rem a (1000000001 : Int))) (dayF (0 : Int) (D.add (D.rem a (1000000001 : Int)) z))) false) (D.eq (minF z (D.rem a (1000000001 :
    Int))) (minF (0 : Int) (D.add (D.rem a (1000000001 : Int)) z))) false) (D.beq (workF w h (D.rem b (900001 : Int))) (workF w h (D.rem b (900001 : Int)))) false)
    (D.eq (nextD w h (D.rem b (900001 : Int))) (nextD w h (D.rem b (900001 : Int)))) false) (D.eq (nextE w h (D.rem b (900001 : Int))) (nextE w h (D.rem b (900001 :
    Int)))) false = true) ∧ (D.cnd (D.cnd (D.cnd (D.cnd (D.cnd true (D.eq (dayF z (D.rem a (1000000001 : Int))) (dayF (0 : Int) (D.add (D.rem a (1000000001 : Int))
    z))) false) (D.eq (minF z (D.rem a (1000000001 : Int))) (minF (0 : Int) (D.add (D.rem a (1000000001 : Int)) z))) false) (D.beq (workF w h (D.rem b (900001 :
    Int))) (workF w h (D.rem b (900001 : Int)))) false) (D.eq (nextD w h (D.rem b (900001 : Int))) (nextD w h (D.rem b (900001 : Int)))) false) (D.eq (nextE w h
    (D.rem b (900001 : Int))) (nextE w h (D.rem b (900001 : Int)))) false = true → D.cnd (D.cnd (D.cnd (D.cnd (D.cnd true (D.eq (dayF z (D.rem a (1000000001 :
    Int))) (dayF (0 : Int) (D.add (D.rem a (1000000001 : Int)) z))) false) (D.eq (minF z (D.rem a (1000000001 : Int))) (minF (0 : Int) (D.add (D.rem a (1000000001 :
    Int)) z))) false) (D.beq (workF w h (D.rem b (900001 : Int))) (workF w h (D.rem b (900001 : Int)))) false) (D.eq (nextD w h (D.rem b (900001 : Int))) (nextD w h
    (D.rem b (900001 : Int)))) false) (D.eq (nextE w h (D.rem b (900001 : Int))) (nextE w h (D.rem b (900001 : Int)))) false = true → D.cnd (D.cnd (D.cnd (D.cnd
    (D.cnd true (D.eq (dayF z (D.rem a (1000000001 : Int))) (dayF (0 : Int) (D.add (D.rem a (1000000001 : Int)) z))) false) (D.eq (minF z (D.rem a (1000000001 :
    Int))) (minF (0 : Int) (D.add (D.rem a (1000000001 : Int)) z))) false) (D.beq (workF w h (D.rem b (900001 : Int))) (workF w h (D.rem b (900001 : Int)))) false)
    (D.eq (nextD w h (D.rem b (900001 : Int))) (nextD w h (D.rem b (900001 : Int)))) false) (D.eq (nextE w h (D.rem b (900001 : Int))) (nextE w h (D.rem b (900001 :
    Int)))) false = true) ∧ (D.cnd (D.cnd (D.cnd (D.cnd (D.cnd true (D.eq (dayF z (D.rem a (1000000001 : Int))) (dayF (0 : Int) (D.add (D.rem a (1000000001 : Int))
    z))) false) (D.eq (minF z (D.rem a (1000000001 : Int))) (minF (0 : Int) (D.add (D.rem a (1000000001 : Int)) z))) false) (D.beq (workF w h (D.rem b (900001 :
    Int))) (workF w h (D.rem b (900001 : Int)))) false) (D.eq (nextD w h (D.rem b (900001 : Int))) (nextD w h (D.rem b (900001 : Int)))) false) (D.eq (nextE w h
    (D.rem b (900001 : Int))) (nextE w h (D.rem b (900001 : Int)))) false = true → okTime z w h (D.rem b (900001 : Int)) (5 : Int)) ∧ (D.cnd (D.cnd (D.cnd (D.cnd
    (D.cnd true (D.eq (dayF z (D.rem a (1000000001 : Int))) (dayF (0 : Int) (D.add (D.rem a (1000000001 : Int)) z))) false) (D.eq (minF z (D.rem a (1000000001 :
    Int))) (minF (0 : Int) (D.add (D.rem a (1000000001 : Int)) z))) false) (D.beq (workF w h (D.rem b (900001 : Int))) (workF w h (D.rem b (900001 : Int)))) false)
    (D.eq (nextD w h (D.rem b (900001 : Int))) (nextD w h (D.rem b (900001 : Int)))) false) (D.eq (nextE w h (D.rem b (900001 : Int))) (nextE w h (D.rem b (900001 :
    Int)))) false = true → 1 = 1) ∧ (D.cnd (D.cnd (D.cnd (D.cnd (D.cnd true (D.eq (dayF z (D.rem a (1000000001 : Int))) (dayF (0 : Int) (D.add (D.rem a (1000000001
    : Int)) z))) false) (D.eq (minF z (D.rem a (1000000001 : Int))) (minF (0 : Int) (D.add (D.rem a (1000000001 : Int)) z))) false) (D.beq (workF w h (D.rem b
    (900001 : Int))) (workF w h (D.rem b (900001 : Int)))) false) (D.eq (nextD w h (D.rem b (900001 : Int))) (nextD w h (D.rem b (900001 : Int)))) false) (D.eq
    (nextE w h (D.rem b (900001 : Int))) (nextE w h (D.rem b (900001 : Int)))) false = true → 0 = 0) ∧ (D.cnd (D.cnd (D.cnd (D.cnd (D.cnd true (D.eq (dayF z (D.rem
    a (1000000001 : Int))) (dayF (0 : Int) (D.add (D.rem a (1000000001 : Int)) z))) false) (D.eq (minF z (D.rem a (1000000001 : Int))) (minF (0 : Int) (D.add (D.rem
    a (1000000001 : Int)) z))) false) (D.beq (workF w h (D.rem b (900001 : Int))) (workF w h (D.rem b (900001 : Int)))) false) (D.eq (nextD w h (D.rem b (900001 :
    Int))) (nextD w h (D.rem b (900001 : Int)))) false) (D.eq (nextE w h (D.rem b (900001 : Int))) (nextE w h (D.rem b (900001 : Int)))) false = true → D.cnd (D.cnd
    (D.cnd (D.cnd (D.cnd true (D.eq (dayF z (D.rem a (1000000001 : Int))) (dayF (0 : Int) (D.add (D.rem a (1000000001 : Int)) z))) false) (D.eq (minF z (D.rem a
    (1000000001 : Int))) (minF (0 : Int) (D.add (D.rem a (1000000001 : Int)) z))) false) (D.beq (workF w h (D.rem b (900001 : Int))) (workF w h (D.rem b (900001 :
    Int)))) false) (D.eq (nextD w h (D.rem b (900001 : Int))) (nextD w h (D.rem b (900001 : Int)))) false) (D.eq (nextE w h (D.rem b (900001 : Int))) (nextE w h
    (D.rem b (900001 : Int)))) false = true → D.cnd (D.cnd (D.cnd (D.cnd (D.cnd true (D.eq (dayF z (D.rem a (1000000001 : Int))) (dayF (0 : Int) (D.add (D.rem a
    (1000000001 : Int)) z))) false) (D.eq (minF z (D.rem a (1000000001 : Int))) (minF (0 : Int) (D.add (D.rem a (1000000001 : Int)) z))) false) (D.beq (workF w h
    (D.rem b (900001 : Int))) (workF w h (D.rem b (900001 : Int)))) false) (D.eq (nextD w h (D.rem b (900001 : Int))) (nextD w h (D.rem b (900001 : Int)))) false)
    (D.eq (nextE w h (D.rem b (900001 : Int))) (nextE w h (D.rem b (900001 : Int)))) false = true) ∧ (D.cnd (D.cnd (D.cnd (D.cnd (D.cnd true (D.eq (dayF z (D.rem a
    (1000000001 : Int))) (dayF (0 : Int) (D.add (D.rem a (1000000001 : Int)) z))) false) (D.eq (minF z (D.rem a (1000000001 : Int))) (minF (0 : Int) (D.add (D.rem a
    (1000000001 : Int)) z))) false) (D.beq (workF w h (D.rem b (900001 : Int))) (workF w h (D.rem b (900001 : Int)))) false) (D.eq (nextD w h (D.rem b (900001 :
    Int))) (nextD w h (D.rem b (900001 : Int)))) false) (D.eq (nextE w h (D.rem b (900001 : Int))) (nextE w h (D.rem b (900001 : Int)))) false = true → D.cnd (D.cnd
    (D.cnd (D.cnd (D.cnd true (D.eq (dayF z (D.rem a (1000000001 : Int))) (dayF (0 : Int) (D.add (D.rem a (1000000001 : Int)) z))) false) (D.eq (minF z (D.rem a
    (1000000001 : Int))) (minF (0 : Int) (D.add (D.rem a (1000000001 : Int)) z))) false) (D.beq (workF w h (D.rem b (900001 : Int))) (workF w h (D.rem b (900001 :
    Int)))) false) (D.eq (nextD w h (D.rem b (900001 : Int))) (nextD w h (D.rem b (900001 : Int)))) false) (D.eq (nextE w h (D.rem b (900001 : Int))) (nextE w h
    (D.rem b (900001 : Int)))) false = true → D.cnd (D.cnd (D.cnd (D.cnd (D.cnd true (D.eq (dayF z (D.rem a (1000000001 : Int))) (dayF (0 : Int) (D.add (D.rem a
    (1000000001 : Int)) z))) false) (D.eq (minF z (D.rem a (1000000001 : Int))) (minF (0 : Int) (D.add (D.rem a (1000000001 : Int)) z))) false) (D.beq (workF w h
    (D.rem b (900001 : Int))) (workF w h (D.rem b (900001 : Int)))) false) (D.eq (nextD w h (D.rem b (900001 : Int))) (nextD w h (D.rem b (900001 : Int)))) false)
    (D.eq (nextE w h (D.rem b (900001 : Int))) (nextE w h (D.rem b (900001 : Int)))) false = true) ∧ (D.cnd (D.cnd (D.cnd (D.cnd (D.cnd true (D.eq (dayF z (D.rem a
    (1000000001 : Int))) (dayF (0 : Int) (D.add (D.rem a (1000000001 : Int)) z))) false) (D.eq (minF z (D.rem a (1000000001 : Int))) (minF (0 : Int) (D.add (D.rem a
    (1000000001 : Int)) z))) false) (D.beq (workF w h (D.rem b (900001 : Int))) (workF w h (D.rem b (900001 : Int)))) false) (D.eq (nextD w h (D.rem b (900001 :
    Int))) (nextD w h (D.rem b (900001 : Int)))) false) (D.eq (nextE w h (D.rem b (900001 : Int))) (nextE w h (D.rem b (900001 : Int)))) false = true → okTime
    (Int.ofNat (0)) w h (D.rem b (900001 : Int)) (5 : Int)) ∧ (D.cnd (D.cnd (D.cnd (D.cnd (D.cnd true (D.eq (dayF z (D.rem a (1000000001 : Int))) (dayF (0 : Int)
    (D.add (D.rem a (1000000001 : Int)) z))) false) (D.eq (minF z (D.rem a (1000000001 : Int))) (minF (0 : Int) (D.add (D.rem a (1000000001 : Int)) z))) false)
    (D.beq (workF w h (D.rem b (900001 : Int))) (workF w h (D.rem b (900001 : Int)))) false) (D.eq (nextD w h (D.rem b (900001 : Int))) (nextD w h (D.rem b (900001
    : Int)))) false) (D.eq (nextE w h (D.rem b (900001 : Int))) (nextE w h (D.rem b (900001 : Int)))) false = true → D.cnd (D.cnd (D.cnd (D.cnd (D.cnd true (D.eq
    (dayF z (D.rem a (1000000001 : Int))) (dayF (0 : Int) (D.add (D.rem a (1000000001 : Int)) z))) false) (D.eq (minF z (D.rem a (1000000001 : Int))) (minF (0 :
    Int) (D.add (D.rem a (1000000001 : Int)) z))) false) (D.beq (workF w h (D.rem b (900001 : Int))) (workF w h (D.rem b (900001 : Int)))) false) (D.eq (nextD w h
    (D.rem b (900001 : Int))) (nextD w h (D.rem b (900001 : Int)))) false) (D.eq (nextE w h (D.rem b (900001 : Int))) (nextE w h (D.rem b (900001 : Int)))) false =
    true → D.cnd (D.cnd (D.cnd (D.cnd (D.cnd true (D.eq (dayF z (D.rem a (1000000001 : Int))) (dayF (0 : Int) (D.add (D.rem a (1000000001 : Int)) z))) false) (D.eq
    (minF z (D.rem a (1000000001 : Int))) (minF (0 : Int) (D.add (D.rem a (1000000001 : Int)) z))) false) (D.beq (workF w h (D.rem b (900001 : Int))) (workF w h
    (D.rem b (900001 : Int)))) false) (D.eq (nextD w h (D.rem b (900001 : Int))) (nextD w h (D.rem b (900001 : Int)))) false) (D.eq (nextE w h (D.rem b (900001 :
    Int))) (nextE w h (D.rem b (900001 : Int)))) false = true) ∧ (D.cnd (D.cnd (D.cnd (D.cnd (D.cnd true (D.eq (dayF z (D.rem a (1000000001 : Int))) (dayF (0 : Int)
    (D.add (D.rem a (1000000001 : Int)) z))) false) (D.eq (minF z (D.rem a (1000000001 : Int))) (minF (0 : Int) (D.add (D.rem a (1000000001 : Int)) z))) false)
    (D.beq (workF w h (D.rem b (900001 : Int))) (workF w h (D.rem b (900001 : Int)))) false) (D.eq (nextD w h (D.rem b (900001 : Int))) (nextD w h (D.rem b (900001
    : Int)))) false) (D.eq (nextE w h (D.rem b (900001 : Int))) (nextE w h (D.rem b (900001 : Int)))) false = true → D.cnd (D.cnd (D.cnd (D.cnd (D.cnd true (D.eq
    (dayF z (D.rem a (1000000001 : Int))) (dayF (0 : Int) (D.add (D.rem a (1000000001 : Int)) z))) false) (D.eq (minF z (D.rem a (1000000001 : Int))) (minF (0 :
    Int) (D.add (D.rem a (1000000001 : Int)) z))) false) (D.beq (workF w h (D.rem b (900001 : Int))) (workF w h (D.rem b (900001 : Int)))) false) (D.eq (nextD w h
    (D.rem b (900001 : Int))) (nextD w h (D.rem b (900001 : Int)))) false) (D.eq (nextE w h (D.rem b (900001 : Int))) (nextE w h (D.rem b (900001 : Int)))) false =
    true → D.cnd (D.cnd (D.cnd (D.cnd (D.cnd true (D.eq (dayF z (D.rem a (1000000001 : Int))) (dayF (0 : Int) (D.add (D.rem a (1000000001 : Int)) z))) false) (D.eq
    (minF z (D.rem a (1000000001 : Int))) (minF (0 : Int) (D.add (D.rem a (1000000001 : Int)) z))) false) (D.beq (workF w h (D.rem b (900001 : Int))) (workF w h
    (D.rem b (900001 : Int)))) false) (D.eq (nextD w h (D.rem b (900001 : Int))) (nextD w h (D.rem b (900001 : Int)))) false) (D.eq (nextE w h (D.rem b (900001 :
    Int))) (nextE w h (D.rem b (900001 : Int)))) false = true) ∧ (D.cnd (D.cnd (D.cnd (D.cnd (D.cnd true (D.eq (dayF z (D.rem a (1000000001 : Int))) (dayF (0 : Int)
    (D.add (D.rem a (1000000001 : Int)) z))) false) (D.eq (minF z (D.rem a (1000000001 : Int))) (minF (0 : Int) (D.add (D.rem a (1000000001 : Int)) z))) false)
    (D.beq (workF w h (D.rem b (900001 : Int))) (workF w h (D.rem b (900001 : Int)))) false) (D.eq (nextD w h (D.rem b (900001 : Int))) (nextD w h (D.rem b (900001
    : Int)))) false) (D.eq (nextE w h (D.rem b (900001 : Int))) (nextE w h (D.rem b (900001 : Int)))) false = true → D.cnd (D.cnd (D.cnd (D.cnd (D.cnd true (D.eq
    (dayF z (D.rem a (1000000001 : Int))) (dayF (0 : Int) (D.add (D.rem a (1000000001 : Int)) z))) false) (D.eq (minF z (D.rem a (1000000001 : Int))) (minF (0 :
    Int) (D.add (D.rem a (1000000001 : Int)) z))) false) (D.beq (workF w h (D.rem b (900001 : Int))) (workF w h (D.rem b (900001 : Int)))) false) (D.eq (nextD w h
    (D.rem b (900001 : Int))) (nextD w h (D.rem b (900001 : Int)))) false) (D.eq (nextE w h (D.rem b (900001 : Int))) (nextE w h (D.rem b (900001 : Int)))) false =
    true → D.cnd (D.cnd (D.cnd (D.cnd (D.cnd true (D.eq (dayF z (D.rem a (1000000001 : Int))) (dayF (0 : Int) (D.add (D.rem a (1000000001 : Int)) z))) false) (D.eq
    (minF z (D.rem a (1000000001 : Int))) (minF (0 : Int) (D.add (D.rem a (1000000001 : Int)) z))) false) (D.beq (workF w h (D.rem b (900001 : Int))) (workF w h
    (D.rem b (900001 : Int)))) false) (D.eq (nextD w h (D.rem b (900001 : Int))) (nextD w h (D.rem b (900001 : Int)))) false) (D.eq (nextE w h (D.rem b (900001 :
    Int))) (nextE w h (D.rem b (900001 : Int)))) false = true) ∧ (D.cnd (D.cnd (D.cnd (D.cnd (D.cnd true (D.eq (dayF z (D.rem a (1000000001 : Int))) (dayF (0 : Int)
    (D.add (D.rem a (1000000001 : Int)) z))) false) (D.eq (minF z (D.rem a (1000000001 : Int))) (minF (0 : Int) (D.add (D.rem a (1000000001 : Int)) z))) false)
    (D.beq (workF w h (D.rem b (900001 : Int))) (workF w h (D.rem b (900001 : Int)))) false) (D.eq (nextD w h (D.rem b (900001 : Int))) (nextD w h (D.rem b (900001
    : Int)))) false) (D.eq (nextE w h (D.rem b (900001 : Int))) (nextE w h (D.rem b (900001 : Int)))) false = true → inR IntKind.i64 (D.sub (timeF (0 : Int) (D.rem
    b (900001 : Int)) (5 : Int)) z)) ∧ (D.cnd (D.cnd (D.cnd (D.cnd (D.cnd true (D.eq (dayF z (D.rem a (1000000001 : Int))) (dayF (0 : Int) (D.add (D.rem a
    (1000000001 : Int)) z))) false) (D.eq (minF z (D.rem a (1000000001 : Int))) (minF (0 : Int) (D.add (D.rem a (1000000001 : Int)) z))) false) (D.beq (workF w h
    (D.rem b (900001 : Int))) (workF w h (D.rem b (900001 : Int)))) false) (D.eq (nextD w h (D.rem b (900001 : Int))) (nextD w h (D.rem b (900001 : Int)))) false)
    (D.eq (nextE w h (D.rem b (900001 : Int))) (nextE w h (D.rem b (900001 : Int)))) false = true → D.cnd (D.cnd (D.cnd (D.cnd (D.cnd true (D.eq (dayF z (D.rem a
    (1000000001 : Int))) (dayF (0 : Int) (D.add (D.rem a (1000000001 : Int)) z))) false) (D.eq (minF z (D.rem a (1000000001 : Int))) (minF (0 : Int) (D.add (D.rem a
    (1000000001 : Int)) z))) false) (D.beq (workF w h (D.rem b (900001 : Int))) (workF w h (D.rem b (900001 : Int)))) false) (D.eq (nextD w h (D.rem b (900001 :
    Int))) (nextD w h (D.rem b (900001 : Int)))) false) (D.eq (nextE w h (D.rem b (900001 : Int))) (nextE w h (D.rem b (900001 : Int)))) false = true → D.cnd (D.cnd
    (D.cnd (D.cnd (D.cnd true (D.eq (dayF z (D.rem a (1000000001 : Int))) (dayF (0 : Int) (D.add (D.rem a (1000000001 : Int)) z))) false) (D.eq (minF z (D.rem a
    (1000000001 : Int))) (minF (0 : Int) (D.add (D.rem a (1000000001 : Int)) z))) false) (D.beq (workF w h (D.rem b (900001 : Int))) (workF w h (D.rem b (900001 :
    Int)))) false) (D.eq (nextD w h (D.rem b (900001 : Int))) (nextD w h (D.rem b (900001 : Int)))) false) (D.eq (nextE w h (D.rem b (900001 : Int))) (nextE w h
    (D.rem b (900001 : Int)))) false = true) ∧ (D.cnd (D.cnd (D.cnd (D.cnd (D.cnd true (D.eq (dayF z (D.rem a (1000000001 : Int))) (dayF (0 : Int) (D.add (D.rem a
    (1000000001 : Int)) z))) false) (D.eq (minF z (D.rem a (1000000001 : Int))) (minF (0 : Int) (D.add (D.rem a (1000000001 : Int)) z))) false) (D.beq (workF w h
    (D.rem b (900001 : Int))) (workF w h (D.rem b (900001 : Int)))) false) (D.eq (nextD w h (D.rem b (900001 : Int))) (nextD w h (D.rem b (900001 : Int)))) false)
    (D.eq (nextE w h (D.rem b (900001 : Int))) (nextE w h (D.rem b (900001 : Int)))) false = true → D.cnd (D.cnd (D.cnd (D.cnd (D.cnd true (D.eq (dayF z (D.rem a
    (1000000001 : Int))) (dayF (0 : Int) (D.add (D.rem a (1000000001 : Int)) z))) false) (D.eq (minF z (D.rem a (1000000001 : Int))) (minF (0 : Int) (D.add (D.rem a
    (1000000001 : Int)) z))) false) (D.beq (workF w h (D.rem b (900001 : Int))) (workF w h (D.rem b (900001 : Int)))) false) (D.eq (nextD w h (D.rem b (900001 :
    Int))) (nextD w h (D.rem b (900001 : Int)))) false) (D.eq (nextE w h (D.rem b (900001 : Int))) (nextE w h (D.rem b (900001 : Int)))) false = true → D.cnd (D.cnd
    (D.cnd (D.cnd (D.cnd true (D.eq (dayF z (D.rem a (1000000001 : Int))) (dayF (0 : Int) (D.add (D.rem a (1000000001 : Int)) z))) false) (D.eq (minF z (D.rem a
    (1000000001 : Int))) (minF (0 : Int) (D.add (D.rem a (1000000001 : Int)) z))) false) (D.beq (workF w h (D.rem b (900001 : Int))) (workF w h (D.rem b (900001 :
    Int)))) false) (D.eq (nextD w h (D.rem b (900001 : Int))) (nextD w h (D.rem b (900001 : Int)))) false) (D.eq (nextE w h (D.rem b (900001 : Int))) (nextE w h
    (D.rem b (900001 : Int)))) false = true) ∧ (D.and true (D.cnd (D.cnd (D.cnd (D.cnd (D.cnd true (D.eq (dayF z (D.rem a (1000000001 : Int))) (dayF (0 : Int)
    (D.add (D.rem a (1000000001 : Int)) z))) false) (D.eq (minF z (D.rem a (1000000001 : Int))) (minF (0 : Int) (D.add (D.rem a (1000000001 : Int)) z))) false)
    (D.beq (workF w h (D.rem b (900001 : Int))) (workF w h (D.rem b (900001 : Int)))) false) (D.eq (nextD w h (D.rem b (900001 : Int))) (nextD w h (D.rem b (900001
    : Int)))) false) (D.eq (nextE w h (D.rem b (900001 : Int))) (nextE w h (D.rem b (900001 : Int)))) false) = true → D.cnd (D.cnd (D.cnd (D.cnd (D.cnd true (D.eq
    (dayF z (D.rem a (1000000001 : Int))) (dayF (0 : Int) (D.add (D.rem a (1000000001 : Int)) z))) false) (D.eq (minF z (D.rem a (1000000001 : Int))) (minF (0 :
    Int) (D.add (D.rem a (1000000001 : Int)) z))) false) (D.beq (workF w h (D.rem b (900001 : Int))) (workF w h (D.rem b (900001 : Int)))) false) (D.eq (nextD w h
    (D.rem b (900001 : Int))) (nextD w h (D.rem b (900001 : Int)))) false) (D.eq (nextE w h (D.rem b (900001 : Int))) (nextE w h (D.rem b (900001 : Int)))) false =
    true) ∧ D.cnd (D.cnd (D.cnd (D.cnd (D.cnd (D.cnd true (D.eq (dayF z (D.rem a (1000000001 : Int))) (dayF (0 : Int) (D.add (D.rem a (1000000001 : Int)) z)))
    false) (D.eq (minF z (D.rem a (1000000001 : Int))) (minF (0 : Int) (D.add (D.rem a (1000000001 : Int)) z))) false) (D.beq (workF w h (D.rem b (900001 : Int)))
    (workF w h (D.rem b (900001 : Int)))) false) (D.eq (nextD w h (D.rem b (900001 : Int))) (nextD w h (D.rem b (900001 : Int)))) false) (D.eq (nextE w h (D.rem b
    (900001 : Int))) (nextE w h (D.rem b (900001 : Int)))) false) (D.eq (timeF z (D.rem b (900001 : Int)) (5 : Int)) (D.sub (timeF (0 : Int) (D.rem b (900001 :
    Int)) (5 : Int)) z)) false = true ∧ True))) :
    evF (mkc K7) noAnn 9 [cal z w h, .dat S32 a, .dat S32 b] [] ⟨r32 a ∧ r32 b, .dat .bool true, []⟩ := of_eq (by kernel_rfl) hvc


theorem KS7 : KSound Try.prog G0 K7 := by
  intro f args m c h
  unfold K7 at h
  split at h
  · cases h; exact s_head
  · exact KS5 _ _ _ _ h

theorem tm (a : Int) {M : Int} (h : 0 < M) : -M < a.tmod M ∧ a.tmod M < M := by
  have e := Int.tmod_eq_emod (a := a) (b := M)
  have e1 := Int.emod_nonneg a (show M ≠ 0 by omega)
  have e2 := Int.emod_lt_of_pos a h
  have e3 : (M.natAbs : Int) = M := Int.natAbs_of_nonneg (by omega)
  by_cases hc : 0 ≤ a ∨ M ∣ a
  · rw [if_pos hc] at e; omega
  · rw [if_neg hc, e3] at e
    have hz : a % M ≠ 0 := fun h0 => hc (.inr (Int.dvd_of_emod_eq_zero h0))
    omega
theorem tm0 {a M : Int} (h0 : 0 ≤ a) (h : 0 < M) : 0 ≤ a.tmod M := Int.tmod_nonneg M h0
theorem fine_valid {z : Int} {w : List Bool} {h : List Int} (hf : fineF z w h = true) : validF z w h = true := by
  unfold fineF at hf
  exact (Bool.and_eq_true _ _ ▸ hf).2
theorem valid_z {z : Int} {w : List Bool} {h : List Int} (hv : validF z w h = true) : -720 ≤ z ∧ z ≤ 840 := by
  obtain ⟨⟨v1, v2, _, _⟩, _⟩ := validF_iff.1 hv
  exact ⟨v1, v2⟩
theorem inDays_of {d : Int} (h1 : -1000000 ≤ d) (h2 : d ≤ 1000000) : inDays d = true := decide_eq_true ⟨h1, h2⟩

theorem s_ldays (z : Int) (w : List Bool) (h : List Int) (a b : Int) : SoundC Try.prog G0 3 [cal z w h, .dat S32 a, .dat S32 b] [] ⟨r32 a ∧ r32 b, .dat .bool true, []⟩ := by
  refine sound_of_ev (c := mkc K7) KS7 KI0s hm (vc_ldays z w h a b ⟨rfl, fun ⟨ha, hb⟩ => ?_⟩)
  obtain ⟨a1, a2⟩ := ha
  obtain ⟨b1, b2⟩ := hb
  cases hf : fineF z w h with
  | false => simp only [cnd_or, cnd_and, D.and, D.not, D.eq, D.ne, D.beq, D.rem, Bool.true_and, eq_self, true_and, and_true, imp_self, implies_true, Bool.not_true, Bool.not_false, Bool.false_or, Bool.true_or, Bool.or_true, Bool.or_false, Bool.or_self, Bool.and_self, Bool.and_true, Bool.false_and, Bool.and_false, Bool.not_eq_true', Bool.not_eq_false', Bool.false_eq_true, Bool.true_eq_false, reduceCtorEq, false_implies, forall_const, D.lt, D.gt, D.ge, D.le, D.sub, D.add, D.nlt, D.nat, D.len, D.ofN, D.nadd, D.ine, decide_eq_true_eq, decide_eq_false_iff_not, decide_false, decide_true, okLocal, okTime, argP, addP, countP, hf]; simp only [inR]; omega
  | true =>
    have hv := fine_valid hf
    obtain ⟨z1, z2⟩ := valid_z hv
    obtain ⟨t1, t2⟩ := tm a (show (0 : Int) < 1000000001 by omega)
    obtain ⟨u1, u2⟩ := tm b (show (0 : Int) < 1000000001 by omega)
    generalize ht : D.rem a 1000000001 = t
    generalize hu : D.rem b 1000000001 = u
    have ht : a.tmod 1000000001 = t := ht
    have hu : b.tmod 1000000001 = u := hu
    rw [ht] at t1 t2
    rw [hu] at u1 u2
    simp only [cnd_or, cnd_and, D.and, D.not, D.eq, D.ne, D.beq, D.rem, Bool.true_and, eq_self, true_and, and_true, imp_self, implies_true, Bool.not_true, Bool.not_false, Bool.false_or, Bool.true_or, Bool.or_true, Bool.or_false, Bool.or_self, Bool.and_self, Bool.and_true, Bool.false_and, Bool.and_false, Bool.not_eq_true', Bool.not_eq_false', Bool.false_eq_true, Bool.true_eq_false, reduceCtorEq, false_implies, forall_const, D.lt, D.gt, D.ge, D.le, D.sub, D.add, D.nlt, D.nat, D.len, D.ofN, D.nadd, D.ine, decide_eq_true_eq, decide_eq_false_iff_not, decide_false, decide_true, okLocal, okTime, argP, addP, countP, hf, hv]
    simp only [Bool.or_eq_true, Bool.or_eq_false_iff, Bool.and_eq_true, Bool.and_eq_false_iff, bne_iff_ne, bne_eq_false_iff_eq, beq_iff_eq, beq_eq_false_iff_ne, decide_eq_true_eq, decide_eq_false_iff_not, ne_eq, Bool.not_eq_true', Bool.not_eq_false']
    have u9 : ∀ x : Int, dayF z x = (x + z) / 1440 := fun _ => rfl
    have m9 : ∀ x : Int, minF z x = (x + z) % 1440 := fun _ => rfl
    have e9 : ∀ x y : Int, timeF z x y = x * 1440 + y - z := fun _ _ => rfl
    refine ⟨by simp only [inR]; omega, by omega, by simp only [inR]; omega, by omega, by omega, by omega, by simp only [inR]; omega, by omega, fun _ => ⟨inDays_of (by rw [u9]; omega) (by rw [u9]; omega), by rw [m9]; omega, by rw [m9]; omega⟩,
      fun _ => by simp only [inR, u9]; omega, fun hh => by simp only [u9, m9, e9] at hh; omega, fun _ => ⟨?_, ?_⟩⟩
    · rw [Bool.eq_iff_iff]
      simp only [Bool.or_eq_true, Bool.or_eq_false_iff, Bool.and_eq_true, Bool.and_eq_false_iff, bne_iff_ne, bne_eq_false_iff_eq, beq_iff_eq, beq_eq_false_iff_ne, decide_eq_true_eq, decide_eq_false_iff_not, ne_eq, Bool.not_eq_true', Bool.not_eq_false']
      simp only [u9, m9]
      omega
    · rw [Bool.eq_iff_iff]
      simp only [Bool.or_eq_true, Bool.or_eq_false_iff, Bool.and_eq_true, Bool.and_eq_false_iff, bne_iff_ne, bne_eq_false_iff_eq, beq_iff_eq, beq_eq_false_iff_ne, decide_eq_true_eq, decide_eq_false_iff_not, ne_eq, Bool.not_eq_true', Bool.not_eq_false']
      simp only [u9, m9]
      omega

theorem s_lzones (z : Int) (w : List Bool) (h : List Int) (a b : Int) : SoundC Try.prog G0 9 [cal z w h, .dat S32 a, .dat S32 b] [] ⟨r32 a ∧ r32 b, .dat .bool true, []⟩ := by
  refine sound_of_ev (c := mkc K7) KS7 KI0s hm (vc_lzones z w h a b ⟨rfl, fun ⟨ha, hb⟩ => ?_⟩)
  obtain ⟨a1, a2⟩ := ha
  obtain ⟨b1, b2⟩ := hb
  cases hf : fineF z w h with
  | false => simp only [cnd_or, cnd_and, D.and, D.not, D.eq, D.ne, D.beq, D.rem, Bool.true_and, eq_self, true_and, and_true, imp_self, implies_true, Bool.not_true, Bool.not_false, Bool.false_or, Bool.true_or, Bool.or_true, Bool.or_false, Bool.or_self, Bool.and_self, Bool.and_true, Bool.false_and, Bool.and_false, Bool.not_eq_true', Bool.not_eq_false', Bool.false_eq_true, Bool.true_eq_false, reduceCtorEq, false_implies, forall_const, D.lt, D.gt, D.ge, D.le, D.sub, D.add, D.nlt, D.nat, D.len, D.ofN, D.nadd, D.ine, decide_eq_true_eq, decide_eq_false_iff_not, decide_false, decide_true, okLocal, okTime, argP, addP, countP, hf]; simp only [inR]; omega
  | true =>
    have hv := fine_valid hf
    obtain ⟨z1, z2⟩ := valid_z hv
    have hv0 : validF (Int.ofNat 0) w h = true := by
      obtain ⟨⟨_, _, v3, v4⟩, v5⟩ := validF_iff.1 hv
      exact validF_iff.2 ⟨⟨by decide, by decide, v3, v4⟩, v5⟩
    obtain ⟨t1, t2⟩ := tm a (show (0 : Int) < 1000000001 by omega)
    obtain ⟨u1, u2⟩ := tm b (show (0 : Int) < 900001 by omega)
    have hd : inDays (b.tmod 900001) = true := inDays_of (by omega) (by omega)
    have e1 : dayF z (a.tmod 1000000001) = dayF 0 (a.tmod 1000000001 + z) := by simp [dayF]
    have e2 : minF z (a.tmod 1000000001) = minF 0 (a.tmod 1000000001 + z) := by simp [minF]
    have e3 : timeF z (b.tmod 900001) 5 = timeF 0 (b.tmod 900001) 5 - z := by simp only [timeF]; omega
    simp only [cnd_or, cnd_and, D.and, D.not, D.eq, D.ne, D.beq, D.rem, Bool.true_and, eq_self, true_and, and_true, imp_self, implies_true, Bool.not_true, Bool.not_false, Bool.false_or, Bool.true_or, Bool.or_true, Bool.or_false, Bool.or_self, Bool.and_self, Bool.and_true, Bool.false_and, Bool.and_false, Bool.not_eq_true', Bool.not_eq_false', Bool.false_eq_true, Bool.true_eq_false, reduceCtorEq, false_implies, forall_const, D.lt, D.gt, D.ge, D.le, D.sub, D.add, D.nlt, D.nat, D.len, D.ofN, D.nadd, D.ine, decide_eq_true_eq, decide_eq_false_iff_not, decide_false, decide_true, okLocal, okTime, argP, addP, countP, hf, hv, hv0, hd, e1, e2, e3, beq_self_eq_true]
    simp only [inR, timeF]
    omega

/-! ### The next working day -/

theorem head_filt {α : Type} {f : Nat → α} {p : α → Bool} : ∀ N : Nat, ((((List.range N).map f).filter p).head? = none → ∀ i, i < N → p (f i) = false) ∧
    ∀ x, (((List.range N).map f).filter p).head? = some x → ∃ i, i < N ∧ x = f i ∧ p x = true ∧ ∀ j, j < i → p (f j) = false
  | 0 => ⟨fun _ i hi => by omega, fun x hx => by simp at hx⟩
  | N + 1 => by
    obtain ⟨ih1, ih2⟩ := head_filt (f := f) (p := p) N
    rw [List.range_succ, List.map_append, List.filter_append, List.head?_append]
    cases ho : (((List.range N).map f).filter p).head? with
    | some y =>
      refine ⟨fun hn => by simp at hn, fun x hx => ?_⟩
      simp only [Option.some_or, Option.some.injEq] at hx
      subst hx
      obtain ⟨i, i1, i2, i3, i4⟩ := ih2 y ho
      exact ⟨i, by omega, i2, i3, i4⟩
    | none =>
      have hall := ih1 ho
      simp only [Option.none_or, List.map_cons, List.map_nil, List.filter_cons, List.filter_nil]
      refine ⟨fun hn i hi => ?_, fun x hx => ?_⟩
      · rcases Nat.lt_or_ge i N with h1 | h1
        · exact hall i h1
        · have : i = N := by omega
          subst this
          cases hp : p (f i) with
          | false => rfl
          | true => rw [hp] at hn; simp at hn
      · cases hp : p (f N) with
        | false => rw [hp] at hx; simp at hx
        | true =>
          rw [hp] at hx
          simp at hx
          subst hx
          exact ⟨N, by omega, rfl, hp, hall⟩

theorem nextO_none {w : List Bool} {h : List Int} {d : Int} (ho : nextO w h d = none) {y : Int} (h1 : d ≤ y) (h2 : y < d + 60) : workF w h y = false := by
  have := (head_filt (f := fun (i : Nat) => d + (i : Int)) (p := fun d => workF w h d) 60).1 ho (y - d).toNat (by omega)
  rwa [show d + ((y - d).toNat : Int) = y by omega] at this
theorem nextO_some {w : List Bool} {h : List Int} {d x : Int} (ho : nextO w h d = some x) : d ≤ x ∧ x < d + 60 ∧ workF w h x = true ∧ ∀ y, d ≤ y → y < x → workF w h y = false := by
  obtain ⟨i, i1, i2, i3, i4⟩ := (head_filt (f := fun (i : Nat) => d + (i : Int)) (p := fun d => workF w h d) 60).2 x ho
  refine ⟨by omega, by omega, i3, fun y h1 h2 => ?_⟩
  have := i4 (y - d).toNat (by omega)
  rwa [show d + ((y - d).toNat : Int) = y by omega] at this

theorem s_lnext (z : Int) (w : List Bool) (h : List Int) (r : Int) : SoundC Try.prog G0 4 [cal z w h, .dat S32 r] [] ⟨r32 r, .dat .bool true, []⟩ := by
  refine sound_of_ev (c := mkc K7) KS7 KI0s hm (vc_lnext z w h r ⟨rfl, fun ⟨r1, r2⟩ => ?_⟩)
  cases hf : fineF z w h with
  | false => simp only [cnd_or, cnd_and, D.and, D.not, D.eq, D.ne, D.beq, D.rem, Bool.true_and, eq_self, true_and, and_true, imp_self, implies_true, Bool.not_true, Bool.not_false, Bool.false_or, Bool.true_or, Bool.or_true, Bool.or_false, Bool.or_self, Bool.and_self, Bool.and_true, Bool.false_and, Bool.and_false, Bool.not_eq_true', Bool.not_eq_false', Bool.false_eq_true, Bool.true_eq_false, reduceCtorEq, false_implies, forall_const, D.lt, D.gt, D.ge, D.le, D.sub, D.add, D.nlt, D.nat, D.len, D.ofN, D.nadd, D.ine, decide_eq_true_eq, decide_eq_false_iff_not, decide_false, decide_true, okLocal, okTime, argP, addP, countP, hf]; simp only [inR]; omega
  | true =>
    have hv := fine_valid hf
    obtain ⟨t1, t2⟩ := tm r (show (0 : Int) < 900001 by omega)
    generalize hd : D.rem r 900001 = d
    have hd : r.tmod 900001 = d := hd
    rw [hd] at t1 t2
    simp only [cnd_or, cnd_and, D.and, D.not, D.eq, D.ne, D.beq, D.rem, Bool.true_and, eq_self, true_and, and_true, imp_self, implies_true, Bool.not_true, Bool.not_false, Bool.false_or, Bool.true_or, Bool.or_true, Bool.or_false, Bool.or_self, Bool.and_self, Bool.and_true, Bool.false_and, Bool.and_false, Bool.not_eq_true', Bool.not_eq_false', Bool.false_eq_true, Bool.true_eq_false, reduceCtorEq, false_implies, forall_const, D.lt, D.gt, D.ge, D.le, D.sub, D.add, D.nlt, D.nat, D.len, D.ofN, D.nadd, D.ine, decide_eq_true_eq, decide_eq_false_iff_not, decide_false, decide_true, okLocal, okTime, argP, addP, countP, hf, hv]
    refine ⟨by simp only [inR]; omega, by omega, ?_⟩
    cases ho : nextO w h d with
    | none =>
      have hE : nextE w h d = 20 := by simp [nextE, ho]
      have hD : nextD w h d = 0 := by simp [nextD, ho]
      have hw : workF w h d = false := nextO_none ho (by omega) (by omega)
      have e0 : ((20 : Int) == 0) = false := by decide
      have e1 : ((20 : Int) != 0) = true := by decide
      have e2 : ((20 : Int) != 20) = false := by decide
      have e3 : ((0 : Int) != 0) = false := by decide
      simp only [cnd_or, cnd_and, D.and, D.not, D.eq, D.ne, D.beq, D.rem, Bool.true_and, eq_self, true_and, and_true, imp_self, implies_true, Bool.not_true, Bool.not_false, Bool.false_or, Bool.true_or, Bool.or_true, Bool.or_false, Bool.or_self, Bool.and_self, Bool.and_true, Bool.false_and, Bool.and_false, Bool.not_eq_true', Bool.not_eq_false', Bool.false_eq_true, Bool.true_eq_false, reduceCtorEq, false_implies, forall_const, D.lt, D.gt, D.ge, D.le, D.sub, D.add, D.nlt, D.nat, D.len, D.ofN, D.nadd, D.ine, decide_eq_true_eq, decide_eq_false_iff_not, decide_false, decide_true, okLocal, okTime, argP, addP, countP, hE, hD, hw, e0, e1, e2, e3]
      refine ⟨inDays_of (by omega) (by omega), ⟨d, ⟨by omega, by omega, fun x hx => by rw [ho] at hx; cases hx⟩, rfl⟩, fun x hx => ⟨by simp only [inR]; omega, fun hlt => ?_, fun _ => ⟨by simp only [inR]; omega, inDays_of (by omega) (by omega), inDays_of (by omega) (by omega)⟩⟩⟩
      obtain ⟨x1, x2, x3⟩ := hx
      refine ⟨inDays_of (by omega) (by omega), fun hw2 => ?_, fun _ => ⟨by simp only [inR]; omega, x + 1, ⟨by omega, by omega, fun x hx => by rw [ho] at hx; cases hx⟩, rfl, by omega⟩⟩
      rw [nextO_none ho x1 hlt] at hw2; cases hw2
    | some x0 =>
      obtain ⟨s1, s2, s3, s4⟩ := nextO_some ho
      have hE : nextE w h d = 0 := by simp [nextE, ho]
      have hD : nextD w h d = x0 := by simp [nextD, ho]
      have e0 : ((0 : Int) == 0) = true := by decide
      have e3 : ((0 : Int) != 0) = false := by decide
      have g1 : ¬ x0 < d := by omega
      have g2 : ¬ x0 ≥ d + 60 := by omega
      have hdx : workF w h d = true → x0 = d := fun hw => by
        rcases Int.lt_or_le d x0 with g | g
        · rw [s4 d (by omega) g] at hw; cases hw
        · omega
      have fin : (workF w h d && x0 != d) = true → False := fun hb => by
        simp only [Bool.or_eq_true, Bool.or_eq_false_iff, Bool.and_eq_true, Bool.and_eq_false_iff, bne_iff_ne, bne_eq_false_iff_eq, beq_iff_eq, beq_eq_false_iff_ne, decide_eq_true_eq, decide_eq_false_iff_not, ne_eq, Bool.not_eq_true', Bool.not_eq_false'] at hb
        exact hb.2 (hdx hb.1)
      have last : (nextE w h (d + 1) != 0 || decide (nextD w h (d + 1) ≥ x0)) = true := by
        cases ho2 : nextO w h (d + 1) with
        | none => simp [nextE, ho2]
        | some y0 =>
          obtain ⟨q1, q2, q3, q4⟩ := nextO_some ho2
          have : x0 ≤ y0 := by
            rcases Int.lt_or_le y0 x0 with g | g
            · rw [s4 y0 (by omega) g] at q3; cases q3
            · exact g
          simp [nextE, nextD, ho2, this]
      simp only [cnd_or, cnd_and, D.and, D.not, D.eq, D.ne, D.beq, D.rem, Bool.true_and, eq_self, true_and, and_true, imp_self, implies_true, Bool.not_true, Bool.not_false, Bool.false_or, Bool.true_or, Bool.or_true, Bool.or_false, Bool.or_self, Bool.and_self, Bool.and_true, Bool.false_and, Bool.and_false, Bool.not_eq_true', Bool.not_eq_false', Bool.false_eq_true, Bool.true_eq_false, reduceCtorEq, false_implies, forall_const, D.lt, D.gt, D.ge, D.le, D.sub, D.add, D.nlt, D.nat, D.len, D.ofN, D.nadd, D.ine, decide_eq_true_eq, decide_eq_false_iff_not, decide_false, decide_true, okLocal, okTime, argP, addP, countP, hE, hD, e0, e3, s3, g1, g2]
      refine ⟨inDays_of (by omega) (by omega), by simp only [inR]; omega, ⟨d, ⟨by omega, by omega, fun x hx => by rw [ho] at hx; cases hx; omega⟩, rfl⟩, fun x hx => ⟨by simp only [inR]; omega, fun hlt => ⟨fun _ => ⟨by simp only [inR]; omega, inDays_of (by omega) (by omega), inDays_of (by omega) (by omega), inDays_of (by omega) (by omega), fin, fun _ => last⟩, fun hne => ?_⟩,
        fun _ => ⟨by simp only [inR]; omega, inDays_of (by omega) (by omega), inDays_of (by omega) (by omega), inDays_of (by omega) (by omega), fin, fun _ => last⟩⟩⟩
      obtain ⟨x1, x2, x3⟩ := hx
      have x3 := x3 x0 ho
      have hne : x ≠ x0 := by simpa using hne
      refine ⟨inDays_of (by omega) (by omega), fun hw2 => ?_, fun _ => ⟨by simp only [inR]; omega, x + 1, ⟨by omega, by omega, fun y hy => by rw [ho] at hy; cases hy; omega⟩, rfl, by omega⟩⟩
      rw [s4 x x1 (by omega)] at hw2; cases hw2

/-! ### Adding days -/

theorem addO_add (w : List Bool) (h : List Int) (n : Nat) : ∀ (m : Nat) (d : Int), addO w h (m + n) d = (addO w h m d).bind (addO w h n)
  | 0, d => by rw [Nat.zero_add]; rfl
  | m + 1, d => by
    rw [show m + 1 + n = (m + n) + 1 by omega]
    simp only [addO]
    cases nextO w h (d + 1) with
    | none => rfl
    | some y => simp only [Option.bind_some]; exact addO_add w h n m y
theorem addO_spec {w : List Bool} {h : List Int} : ∀ {n : Nat} {d e : Int}, addO w h n d = some e → d + n ≤ e ∧ e ≤ d + 60 * n ∧ (0 < n → workF w h e = true)
  | 0, d, e, he => by
    simp only [addO, Option.some.injEq] at he
    subst he
    exact ⟨by omega, by omega, fun h0 => by omega⟩
  | n + 1, d, e, he => by
    simp only [addO] at he
    cases ho : nextO w h (d + 1) with
    | none => rw [ho] at he; cases he
    | some y =>
      rw [ho] at he
      simp only [Option.bind_some] at he
      obtain ⟨s1, s2, s3, _⟩ := nextO_some ho
      obtain ⟨g1, g2, g3⟩ := addO_spec he
      refine ⟨by omega, by omega, fun _ => ?_⟩
      cases n with
      | zero => simp only [addO, Option.some.injEq] at he; subst he; exact s3
      | succ n => exact g3 (by omega)

theorem s_ladds (z : Int) (w : List Bool) (h : List Int) (r p q : Int) : SoundC Try.prog G0 5 [cal z w h, .dat S32 r, .dat U8 p, .dat U8 q] [] ⟨r32 r ∧ r8 p ∧ r8 q, .dat .bool true, []⟩ := by
  refine sound_of_ev (c := mkc K7) KS7 KI0s hm (vc_ladds z w h r p q ⟨rfl, fun ⟨⟨r1, r2⟩, ⟨p1, p2⟩, ⟨q1, q2⟩⟩ => ?_⟩)
  cases hf : fineF z w h with
  | false => simp only [cnd_or, cnd_and, D.and, D.not, D.eq, D.ne, D.beq, D.rem, Bool.true_and, eq_self, true_and, and_true, imp_self, implies_true, Bool.not_true, Bool.not_false, Bool.false_or, Bool.true_or, Bool.or_true, Bool.or_false, Bool.or_self, Bool.and_self, Bool.and_true, Bool.false_and, Bool.and_false, Bool.not_eq_true', Bool.not_eq_false', Bool.false_eq_true, Bool.true_eq_false, reduceCtorEq, false_implies, forall_const, D.lt, D.gt, D.ge, D.le, D.sub, D.add, D.nlt, D.nat, D.len, D.ofN, D.nadd, D.ine, decide_eq_true_eq, decide_eq_false_iff_not, decide_false, decide_true, okLocal, okTime, argP, addP, countP, hf]; simp only [inR]; omega
  | true =>
    have hv := fine_valid hf
    obtain ⟨t1, t2⟩ := tm r (show (0 : Int) < 900001 by omega)
    obtain ⟨_, a2⟩ := tm p (show (0 : Int) < 61 by omega)
    obtain ⟨_, b2⟩ := tm q (show (0 : Int) < 61 by omega)
    have a1 := tm0 p1 (show (0 : Int) < 61 by omega)
    have b1 := tm0 q1 (show (0 : Int) < 61 by omega)
    generalize hd : D.rem r 900001 = d
    generalize hda : D.rem p 61 = a
    generalize hdb : D.rem q 61 = b
    have hd : r.tmod 900001 = d := hd
    have hda : p.tmod 61 = a := hda
    have hdb : q.tmod 61 = b := hdb
    rw [hd] at t1 t2
    rw [hda] at a1 a2
    rw [hdb] at b1 b2
    simp only [cnd_or, cnd_and, D.and, D.not, D.eq, D.ne, D.beq, D.rem, Bool.true_and, eq_self, true_and, and_true, imp_self, implies_true, Bool.not_true, Bool.not_false, Bool.false_or, Bool.true_or, Bool.or_true, Bool.or_false, Bool.or_self, Bool.and_self, Bool.and_true, Bool.false_and, Bool.and_false, Bool.not_eq_true', Bool.not_eq_false', Bool.false_eq_true, Bool.true_eq_false, reduceCtorEq, false_implies, forall_const, D.lt, D.gt, D.ge, D.le, D.sub, D.add, D.nlt, D.nat, D.len, D.ofN, D.nadd, D.ine, decide_eq_true_eq, decide_eq_false_iff_not, decide_false, decide_true, okLocal, okTime, argP, addP, countP, hf, hv]
    refine ⟨by simp only [inR]; omega, by omega, by simp only [inR]; omega, by omega, by simp only [inR]; omega, by omega, ?_⟩
    have hcomp := addO_add w h b.toNat a.toNat d
    have htn : (a + b).toNat = a.toNat + b.toNat := by omega
    have hdd : inDays d = true := inDays_of (by omega) (by omega)
    refine ⟨⟨hdd, by omega, by omega⟩, by simp only [inR]; omega, ⟨hdd, by omega, by omega⟩, ?_⟩
    cases ha : addO w h a.toNat d with
    | none =>
      rw [ha] at hcomp
      have hE : addE w h d a = 20 := by simp [addE, ha]
      have hD : addD w h d a = 0 := by simp [addD, ha]
      have hE2 : addE w h d (a + b) = 20 := by simp [addE, htn, hcomp]
      have hD2 : addD w h d (a + b) = 0 := by simp [addD, htn, hcomp]
      rw [hE, hD, hE2, hD2]
      exact ⟨fun _ => by decide, fun hb => by cases hb⟩
    | some x =>
      rw [ha, Option.bind_some] at hcomp
      obtain ⟨g1, g2, g3⟩ := addO_spec ha
      have hE : addE w h d a = 0 := by simp [addE, ha]
      have hD : addD w h d a = x := by simp [addD, ha]
      have hE2 : addE w h x b = addE w h d (a + b) := by simp only [addE, htn, hcomp]
      have hD2 : addD w h x b = addD w h d (a + b) := by simp only [addD, htn, hcomp]
      have hx : inDays x = true := inDays_of (by omega) (by omega)
      rw [hE, hD, hE2, hD2]
      simp only [Bool.or_eq_true, Bool.or_eq_false_iff, Bool.and_eq_true, Bool.and_eq_false_iff, bne_iff_ne, bne_eq_false_iff_eq, beq_iff_eq, beq_eq_false_iff_ne, decide_eq_true_eq, decide_eq_false_iff_not, ne_eq, Bool.not_eq_true', Bool.not_eq_false']
      refine ⟨fun hb => (hb trivial).elim, fun _ => ⟨⟨hx, by omega, by omega⟩, fun hb => by simp at hb, fun _ => ⟨fun _ => hx, fun hb => ?_, fun _ => ?_⟩⟩⟩
      · rcases hb with (⟨e1, e2⟩ | ⟨e1, e2⟩) | ⟨e1, e2⟩
        · rw [e1] at ha
          simp only [Int.toNat_zero, addO, Option.some.injEq] at ha
          exact e2 ha.symm
        · rw [g3 (by omega)] at e2; cases e2
        · omega
      · cases hs : addO w h b.toNat x with
        | none =>
          rw [hs] at hcomp
          left; left
          simp [addE, htn, hcomp]
        | some y =>
          rw [hs] at hcomp
          obtain ⟨k1, k2, k3⟩ := addO_spec hs
          have hD3 : addD w h d (a + b) = y := by simp [addD, htn, hcomp]
          rw [hD3]
          rcases Int.lt_or_le 0 b with g | g
          · right; exact ⟨by omega, by omega⟩
          · left; right
            have hb0 : b = 0 := by omega
            subst hb0
            simp only [Int.toNat_zero, addO, Option.some.injEq] at hs
            exact ⟨rfl, hs.symm⟩

end Go.Eng.Cal
