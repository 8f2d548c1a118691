/- PeCal7 -/
import Derived.Test.YtmofcccjepbhjaaW21
import Derived.Test.YtmofcccjepbhjaaCal5
set_option linter.unusedSimpArgs false
set_option linter.unusedVariables false
namespace Go.Eng.Cal
open Go.Proofs

noncomputable def insF (d : Int) : List Int → List Int
  | [] => [d]
  | x :: r => if x > d then d :: x :: r else x :: insF d r
noncomputable def gtTo (l : List Int) (d i : Int) : Bool := (l.take i.toNat).any fun x => decide (x > d)
noncomputable def outTo (l : List Int) (d i : Int) : List Int := if gtTo l d i then insF d (l.take i.toNat) else l.take i.toNat
noncomputable def addsTo (l : List Int) (d i : Int) : Prop := 0 ≤ i ∧ i ≤ l.length ∧ ∀ x, x ∈ l.take i.toNat → x ≠ d
noncomputable def addedF (l : List Int) (d : Int) : List Int := if l.contains d then [] else insF d l
noncomputable def addedB (l : List Int) (d : Int) : Bool := !l.contains d
noncomputable def shortP (l : List Int) : Prop := l.length ≤ 1048576

noncomputable def addedA (l : List Int) (d : Int) : Ann := ⟨fun id s => match id with
  | 4 => some { α := Int, inv := fun i => addsTo l d i, st := fun i => putM (put s [(6, .buf 0 (D.len (outTo l d i))), (7, .dat .bool (gtTo l d i)), (8, .dat I i)]) 0 (.buf 3 I (outTo l d i) []), μ := fun i => D.nat (D.sub (D.ilen l) i) }
  | _ => none, fun _ _ => none, fun _ _ => none⟩
theorem vc_added (l : List Int) (d : Int) (hvc :
     true = true ∧ (shortP l → (∃ x, addsTo l d x ∧ l = l ∧ d = d ∧ D.len (outTo l d x) = 0 ∧ outTo l d x = D.nil Int ∧ false = gtTo l d x ∧ (0 : Int) = x
    ∧ outTo l d x = D.nil Int ∧ True) ∧ ∀ (x : Int), addsTo l d x → (D.lt x (D.ilen l) = true → D.ile (0 : Int) x ∧ D.ilt x (D.ilen l) ∧ (D.eq (D.get l (D.nat x) (0
    : Int)) d = true → addedF l d = D.nil Int ∧ false = addedB l d ∧ True) ∧ (D.eq (D.get l (D.nat x) (0 : Int)) d = false → D.ile (0 : Int) x ∧ D.ilt x (D.ilen l)
    ∧ (D.gt (D.get l (D.nat x) (0 : Int)) d = true → D.gt (D.get l (D.nat x) (0 : Int)) d = true → D.gt (D.get l (D.nat x) (0 : Int)) d = true) ∧ (D.and true (D.gt
    (D.get l (D.nat x) (0 : Int)) d) = true → D.gt (D.get l (D.nat x) (0 : Int)) d = true) ∧ (D.cnd (D.gt (D.get l (D.nat x) (0 : Int)) d) (D.not (gtTo l d x))
    false = true → D.len (outTo l d x) = D.len (outTo l d x) ∧ D.nle (D.nmul (D.nadd (D.len (outTo l d x)) (D.len [d])) (8)) (140737488355328) ∧ D.nle (D.nadd
    (D.len (outTo l d x)) (D.len [d])) (9223372036854775807) ∧ D.ile (0 : Int) x ∧ D.ilt x (D.ilen l) ∧ D.len (D.app (outTo l d x) [d]) = D.nadd (D.len (outTo l d
    x)) (D.len [d]) ∧ D.nle (D.nmul (D.nadd (D.nadd (D.len (outTo l d x)) (D.len [d])) (D.len [D.get l (D.nat x) (0 : Int)])) (8)) (140737488355328) ∧ D.nle (D.nadd
    (D.nadd (D.len (outTo l d x)) (D.len [d])) (D.len [D.get l (D.nat x) (0 : Int)])) (9223372036854775807) ∧ inR IntKind.i64 (D.add x (1 : Int)) ∧ ∃ y, addsTo l d
    y ∧ (l = l ∧ d = d ∧ D.nadd (D.nadd (D.len (outTo l d x)) (D.len [d])) (D.len [D.get l (D.nat x) (0 : Int)]) = D.len (outTo l d y) ∧ true = gtTo l d y ∧ D.add x
    (1 : Int) = y ∧ D.app (D.app (outTo l d x) [d]) [D.get l (D.nat x) (0 : Int)] = outTo l d y ∧ True) ∧ D.nlt (D.nat (D.sub (D.ilen l) y)) (D.nat (D.sub (D.ilen
    l) x))) ∧ (D.cnd (D.gt (D.get l (D.nat x) (0 : Int)) d) (D.not (gtTo l d x)) false = false → D.ile (0 : Int) x ∧ D.ilt x (D.ilen l) ∧ D.len (outTo l d x) =
    D.len (outTo l d x) ∧ D.nle (D.nmul (D.nadd (D.len (outTo l d x)) (D.len [D.get l (D.nat x) (0 : Int)])) (8)) (140737488355328) ∧ D.nle (D.nadd (D.len (outTo l
    d x)) (D.len [D.get l (D.nat x) (0 : Int)])) (9223372036854775807) ∧ inR IntKind.i64 (D.add x (1 : Int)) ∧ ∃ y, addsTo l d y ∧ (l = l ∧ d = d ∧ D.nadd (D.len
    (outTo l d x)) (D.len [D.get l (D.nat x) (0 : Int)]) = D.len (outTo l d y) ∧ gtTo l d x = gtTo l d y ∧ D.add x (1 : Int) = y ∧ D.app (outTo l d x) [D.get l
    (D.nat x) (0 : Int)] = outTo l d y ∧ True) ∧ D.nlt (D.nat (D.sub (D.ilen l) y)) (D.nat (D.sub (D.ilen l) x))))) ∧ (D.lt x (D.ilen l) = false → (D.not (gtTo l d
    x) = true → D.len (outTo l d x) = D.len (outTo l d x) ∧ D.nle (D.nmul (D.nadd (D.len (outTo l d x)) (D.len [d])) (8)) (140737488355328) ∧ D.nle (D.nadd (D.len
    (outTo l d x)) (D.len [d])) (9223372036854775807) ∧ D.len (D.app (outTo l d x) [d]) = D.nadd (D.len (outTo l d x)) (D.len [d]) ∧ D.app (outTo l d x) [d] =
    addedF l d ∧ true = addedB l d ∧ True) ∧ (D.not (gtTo l d x) = false → D.len (outTo l d x) = D.len (outTo l d x) ∧ outTo l d x = addedF l d ∧ true = addedB l d
    ∧ True)))) :
    evF (mkc K0) (addedA l d) 18 [.dat R l, .dat I d] [] ⟨shortP l, .tup [.dat R (addedF l d), .dat .bool (addedB l d)], []⟩ := of_eq (by kernel_rfl) hvc


noncomputable def K8 : Kt := fun f args m => match f, args, m with
  | 18, [.dat (.sl (.int .i64)) l, .dat (.int .i64) d], [] => some ⟨shortP l, .tup [.dat R (addedF l d), .dat .bool (addedB l d)], []⟩
  | 10, [], [] => some ⟨True, .dat .bool true, []⟩
  | _, _, _ => K5 f args m
theorem vc_lholi (z : Int) (w : List Bool) (h : List Int) (r p q o : Int) (hvc :
     true = true ∧ (r32 r ∧ r8 p ∧ r8 q ∧ r8 o ∧ shortP h → True ∧ inR IntKind.i64 r ∧ D.ine (900001 : Int) (0 : Int) ∧ shortP h ∧ 1 = 1 ∧ 0 = 0
    ∧ True ∧ (D.not (D.not (fineF z w h)) = true → D.not (D.not (fineF z w h)) = true → D.not (D.not (fineF z w h)) = true) ∧ (D.and true (D.not (D.not (fineF z w
    h))) = true → D.not (D.not (fineF z w h)) = true) ∧ (D.not (D.cnd (D.not (fineF z w h)) true (D.not (addedB h (D.rem r (900001 : Int))))) = true → 1 = 1) ∧
    (D.not (D.cnd (D.not (fineF z w h)) true (D.not (addedB h (D.rem r (900001 : Int))))) = true → 0 = 0) ∧ (D.not (D.cnd (D.not (fineF z w h)) true (D.not (addedB
    h (D.rem r (900001 : Int))))) = true → D.not (D.cnd (D.not (fineF z w h)) true (D.not (addedB h (D.rem r (900001 : Int))))) = true → D.not (D.cnd (D.not (fineF
    z w h)) true (D.not (addedB h (D.rem r (900001 : Int))))) = true) ∧ (D.not (D.cnd (D.not (fineF z w h)) true (D.not (addedB h (D.rem r (900001 : Int))))) = true
    → True) ∧ (D.not (D.cnd (D.not (fineF z w h)) true (D.not (addedB h (D.rem r (900001 : Int))))) = true → D.not (D.cnd (D.not (fineF z w h)) true (D.not (addedB
    h (D.rem r (900001 : Int))))) = true → D.not (D.cnd (D.not (fineF z w h)) true (D.not (addedB h (D.rem r (900001 : Int))))) = true) ∧ (D.and true (D.not (D.cnd
    (D.not (fineF z w h)) true (D.not (addedB h (D.rem r (900001 : Int)))))) = true → D.not (D.cnd (D.not (fineF z w h)) true (D.not (addedB h (D.rem r (900001 :
    Int))))) = true) ∧ (D.cnd (D.cnd (D.not (fineF z w h)) true (D.not (addedB h (D.rem r (900001 : Int))))) true (D.not (fineF z w (addedF h (D.rem r (900001 :
    Int))))) = true → true = true ∧ True) ∧ (D.cnd (D.cnd (D.not (fineF z w h)) true (D.not (addedB h (D.rem r (900001 : Int))))) true (D.not (fineF z w (addedF h
    (D.rem r (900001 : Int))))) = false → inR IntKind.i64 p ∧ inR IntKind.i64 (D.sub (D.rem r (900001 : Int)) p) ∧ inR IntKind.i64 o ∧ inR IntKind.i64 (D.add (D.sub
    (D.rem r (900001 : Int)) p) o) ∧ 1 = 1 ∧ 0 = 0 ∧ (validF z w (addedF h (D.rem r (900001 : Int))) = true ∧ inDays (D.rem r (900001 : Int)) = true) ∧ (D.not
    (workF w (addedF h (D.rem r (900001 : Int))) (D.rem r (900001 : Int))) = true → D.not (workF w (addedF h (D.rem r (900001 : Int))) (D.rem r (900001 : Int))) =
    true → D.not (workF w (addedF h (D.rem r (900001 : Int))) (D.rem r (900001 : Int))) = true) ∧ (D.not (workF w (addedF h (D.rem r (900001 : Int))) (D.rem r
    (900001 : Int))) = true → D.not (workF w (addedF h (D.rem r (900001 : Int))) (D.rem r (900001 : Int))) = true → D.not (workF w (addedF h (D.rem r (900001 :
    Int))) (D.rem r (900001 : Int))) = true) ∧ (D.not (workF w (addedF h (D.rem r (900001 : Int))) (D.rem r (900001 : Int))) = true → D.not (workF w (addedF h
    (D.rem r (900001 : Int))) (D.rem r (900001 : Int))) = true → D.not (workF w (addedF h (D.rem r (900001 : Int))) (D.rem r (900001 : Int))) = true) ∧ (D.and
    (D.not (workF w (addedF h (D.rem r (900001 : Int))) (D.rem r (900001 : Int)))) (D.ne (D.add (D.sub (D.rem r (900001 : Int)) p) o) (D.rem r (900001 : Int))) =
    true → 1 = 1) ∧ (D.and (D.not (workF w (addedF h (D.rem r (900001 : Int))) (D.rem r (900001 : Int)))) (D.ne (D.add (D.sub (D.rem r (900001 : Int)) p) o) (D.rem
    r (900001 : Int))) = true → 0 = 0) ∧ (D.and (D.not (workF w (addedF h (D.rem r (900001 : Int))) (D.rem r (900001 : Int)))) (D.ne (D.add (D.sub (D.rem r (900001
    : Int)) p) o) (D.rem r (900001 : Int))) = true → D.and (D.not (workF w (addedF h (D.rem r (900001 : Int))) (D.rem r (900001 : Int)))) (D.ne (D.add (D.sub (D.rem
    r (900001 : Int)) p) o) (D.rem r (900001 : Int))) = true → D.and (D.not (workF w (addedF h (D.rem r (900001 : Int))) (D.rem r (900001 : Int)))) (D.ne (D.add
    (D.sub (D.rem r (900001 : Int)) p) o) (D.rem r (900001 : Int))) = true) ∧ (D.and (D.not (workF w (addedF h (D.rem r (900001 : Int))) (D.rem r (900001 : Int))))
    (D.ne (D.add (D.sub (D.rem r (900001 : Int)) p) o) (D.rem r (900001 : Int))) = true → D.and (D.not (workF w (addedF h (D.rem r (900001 : Int))) (D.rem r (900001
    : Int)))) (D.ne (D.add (D.sub (D.rem r (900001 : Int)) p) o) (D.rem r (900001 : Int))) = true → D.and (D.not (workF w (addedF h (D.rem r (900001 : Int))) (D.rem
    r (900001 : Int)))) (D.ne (D.add (D.sub (D.rem r (900001 : Int)) p) o) (D.rem r (900001 : Int))) = true) ∧ (D.and (D.not (workF w (addedF h (D.rem r (900001 :
    Int))) (D.rem r (900001 : Int)))) (D.ne (D.add (D.sub (D.rem r (900001 : Int)) p) o) (D.rem r (900001 : Int))) = true → validF z w (addedF h (D.rem r (900001 :
    Int))) = true ∧ inDays (D.add (D.sub (D.rem r (900001 : Int)) p) o) = true) ∧ (D.and (D.not (workF w (addedF h (D.rem r (900001 : Int))) (D.rem r (900001 :
    Int)))) (D.ne (D.add (D.sub (D.rem r (900001 : Int)) p) o) (D.rem r (900001 : Int))) = true → D.and (D.not (workF w (addedF h (D.rem r (900001 : Int))) (D.rem r
    (900001 : Int)))) (D.ne (D.add (D.sub (D.rem r (900001 : Int)) p) o) (D.rem r (900001 : Int))) = true → D.and (D.not (workF w (addedF h (D.rem r (900001 :
    Int))) (D.rem r (900001 : Int)))) (D.ne (D.add (D.sub (D.rem r (900001 : Int)) p) o) (D.rem r (900001 : Int))) = true) ∧ (D.and (D.not (workF w (addedF h (D.rem
    r (900001 : Int))) (D.rem r (900001 : Int)))) (D.ne (D.add (D.sub (D.rem r (900001 : Int)) p) o) (D.rem r (900001 : Int))) = true → D.and (D.not (workF w
    (addedF h (D.rem r (900001 : Int))) (D.rem r (900001 : Int)))) (D.ne (D.add (D.sub (D.rem r (900001 : Int)) p) o) (D.rem r (900001 : Int))) = true → D.and
    (D.not (workF w (addedF h (D.rem r (900001 : Int))) (D.rem r (900001 : Int)))) (D.ne (D.add (D.sub (D.rem r (900001 : Int)) p) o) (D.rem r (900001 : Int))) =
    true) ∧ (D.and (D.not (workF w (addedF h (D.rem r (900001 : Int))) (D.rem r (900001 : Int)))) (D.ne (D.add (D.sub (D.rem r (900001 : Int)) p) o) (D.rem r
    (900001 : Int))) = true → validF z w h = true ∧ inDays (D.add (D.sub (D.rem r (900001 : Int)) p) o) = true) ∧ (D.and (D.not (workF w (addedF h (D.rem r (900001
    : Int))) (D.rem r (900001 : Int)))) (D.ne (D.add (D.sub (D.rem r (900001 : Int)) p) o) (D.rem r (900001 : Int))) = true → D.and (D.not (workF w (addedF h (D.rem
    r (900001 : Int))) (D.rem r (900001 : Int)))) (D.ne (D.add (D.sub (D.rem r (900001 : Int)) p) o) (D.rem r (900001 : Int))) = true → D.and (D.not (workF w
    (addedF h (D.rem r (900001 : Int))) (D.rem r (900001 : Int)))) (D.ne (D.add (D.sub (D.rem r (900001 : Int)) p) o) (D.rem r (900001 : Int))) = true) ∧ (D.and
    (D.not (workF w (addedF h (D.rem r (900001 : Int))) (D.rem r (900001 : Int)))) (D.ne (D.add (D.sub (D.rem r (900001 : Int)) p) o) (D.rem r (900001 : Int))) =
    true → D.and (D.not (workF w (addedF h (D.rem r (900001 : Int))) (D.rem r (900001 : Int)))) (D.ne (D.add (D.sub (D.rem r (900001 : Int)) p) o) (D.rem r (900001
    : Int))) = true → D.and (D.not (workF w (addedF h (D.rem r (900001 : Int))) (D.rem r (900001 : Int)))) (D.ne (D.add (D.sub (D.rem r (900001 : Int)) p) o) (D.rem
    r (900001 : Int))) = true) ∧ (D.not (workF w (addedF h (D.rem r (900001 : Int))) (D.rem r (900001 : Int))) = true → D.not (workF w (addedF h (D.rem r (900001 :
    Int))) (D.rem r (900001 : Int))) = true → D.not (workF w (addedF h (D.rem r (900001 : Int))) (D.rem r (900001 : Int))) = true) ∧ (D.not (workF w (addedF h
    (D.rem r (900001 : Int))) (D.rem r (900001 : Int))) = true → D.and (D.not (workF w (addedF h (D.rem r (900001 : Int))) (D.rem r (900001 : Int)))) (D.ne (D.add
    (D.sub (D.rem r (900001 : Int)) p) o) (D.rem r (900001 : Int))) = true → D.and (D.not (workF w (addedF h (D.rem r (900001 : Int))) (D.rem r (900001 : Int))))
    (D.ne (D.add (D.sub (D.rem r (900001 : Int)) p) o) (D.rem r (900001 : Int))) = true) ∧ (D.and true (D.not (workF w (addedF h (D.rem r (900001 : Int))) (D.rem r
    (900001 : Int)))) = true → D.not (workF w (addedF h (D.rem r (900001 : Int))) (D.rem r (900001 : Int))) = true) ∧ (D.cnd (workF w (addedF h (D.rem r (900001 :
    Int))) (D.rem r (900001 : Int))) true (D.cnd (D.ne (D.add (D.sub (D.rem r (900001 : Int)) p) o) (D.rem r (900001 : Int))) (D.not (D.beq (workF w (addedF h
    (D.rem r (900001 : Int))) (D.add (D.sub (D.rem r (900001 : Int)) p) o)) (workF w h (D.add (D.sub (D.rem r (900001 : Int)) p) o)))) false) = true → false = true
    ∧ True) ∧ (D.cnd (workF w (addedF h (D.rem r (900001 : Int))) (D.rem r (900001 : Int))) true (D.cnd (D.ne (D.add (D.sub (D.rem r (900001 : Int)) p) o) (D.rem r
    (900001 : Int))) (D.not (D.beq (workF w (addedF h (D.rem r (900001 : Int))) (D.add (D.sub (D.rem r (900001 : Int)) p) o)) (workF w h (D.add (D.sub (D.rem r
    (900001 : Int)) p) o)))) false) = false → inR IntKind.i64 p ∧ inR IntKind.i64 (D.sub (D.rem r (900001 : Int)) p) ∧ inR IntKind.i64 q ∧ inR IntKind.i64 (D.add
    (D.sub (D.rem r (900001 : Int)) p) q) ∧ (validF z w h = true ∧ inDays (D.rem r (900001 : Int)) = true) ∧ (workF w h (D.rem r (900001 : Int)) = true → workF w h
    (D.rem r (900001 : Int)) = true → workF w h (D.rem r (900001 : Int)) = true) ∧ (workF w h (D.rem r (900001 : Int)) = true → workF w h (D.rem r (900001 : Int)) =
    true → workF w h (D.rem r (900001 : Int)) = true) ∧ (D.and true (workF w h (D.rem r (900001 : Int))) = true → workF w h (D.rem r (900001 : Int)) = true) ∧
    (D.cnd (workF w h (D.rem r (900001 : Int))) (D.gt (D.rem r (900001 : Int)) (D.sub (D.rem r (900001 : Int)) p)) false = true → D.cnd (workF w h (D.rem r (900001
    : Int))) (D.gt (D.rem r (900001 : Int)) (D.sub (D.rem r (900001 : Int)) p)) false = true → D.cnd (workF w h (D.rem r (900001 : Int))) (D.gt (D.rem r (900001 :
    Int)) (D.sub (D.rem r (900001 : Int)) p)) false = true) ∧ (D.cnd (workF w h (D.rem r (900001 : Int))) (D.gt (D.rem r (900001 : Int)) (D.sub (D.rem r (900001 :
    Int)) p)) false = true → D.cnd (workF w h (D.rem r (900001 : Int))) (D.gt (D.rem r (900001 : Int)) (D.sub (D.rem r (900001 : Int)) p)) false = true → D.cnd
    (workF w h (D.rem r (900001 : Int))) (D.gt (D.rem r (900001 : Int)) (D.sub (D.rem r (900001 : Int)) p)) false = true) ∧ (D.and true (D.cnd (workF w h (D.rem r
    (900001 : Int))) (D.gt (D.rem r (900001 : Int)) (D.sub (D.rem r (900001 : Int)) p)) false) = true → D.cnd (workF w h (D.rem r (900001 : Int))) (D.gt (D.rem r
    (900001 : Int)) (D.sub (D.rem r (900001 : Int)) p)) false = true) ∧ (D.cnd (D.cnd (workF w h (D.rem r (900001 : Int))) (D.gt (D.rem r (900001 : Int)) (D.sub
    (D.rem r (900001 : Int)) p)) false) (D.le (D.rem r (900001 : Int)) (D.add (D.sub (D.rem r (900001 : Int)) p) q)) false = true → (true = true → 1 = 1) ∧ (true =
    true → 0 = 0) ∧ (true = true → true = true → true = true) ∧ (true = true → true = true → true = true) ∧ (true = true → true = true → true = true) ∧ (true = true
    → countP z w (addedF h (D.rem r (900001 : Int))) (D.sub (D.rem r (900001 : Int)) p) (D.add (D.sub (D.rem r (900001 : Int)) p) q)) ∧ (true = true → true = true →
    true = true) ∧ (true = true → true = true → true = true) ∧ (true = true → true = true → true = true) ∧ (true = true → countP z w h (D.sub (D.rem r (900001 :
    Int)) p) (D.add (D.sub (D.rem r (900001 : Int)) p) q)) ∧ (true = true → true = true → true = true) ∧ (true = true → true = true → true = true) ∧ (true = true →
    inR IntKind.i64 (D.sub (countF w h (D.sub (D.rem r (900001 : Int)) p) (D.add (D.sub (D.rem r (900001 : Int)) p) q)) (1 : Int))) ∧ (true = true → true = true →
    true = true) ∧ (true = true → true = true → true = true) ∧ (D.and true true = true → true = true) ∧ D.cnd true (D.eq (countF w (addedF h (D.rem r (900001 :
    Int))) (D.sub (D.rem r (900001 : Int)) p) (D.add (D.sub (D.rem r (900001 : Int)) p) q)) (D.sub (countF w h (D.sub (D.rem r (900001 : Int)) p) (D.add (D.sub
    (D.rem r (900001 : Int)) p) q)) (1 : Int))) false = true ∧ True) ∧ (D.cnd (D.cnd (workF w h (D.rem r (900001 : Int))) (D.gt (D.rem r (900001 : Int)) (D.sub
    (D.rem r (900001 : Int)) p)) false) (D.le (D.rem r (900001 : Int)) (D.add (D.sub (D.rem r (900001 : Int)) p) q)) false = false → (true = true → 1 = 1) ∧ (true =
    true → 0 = 0) ∧ (true = true → true = true → true = true) ∧ (true = true → true = true → true = true) ∧ (true = true → true = true → true = true) ∧ (true = true
    → countP z w (addedF h (D.rem r (900001 : Int))) (D.sub (D.rem r (900001 : Int)) p) (D.add (D.sub (D.rem r (900001 : Int)) p) q)) ∧ (true = true → true = true →
    true = true) ∧ (true = true → true = true → true = true) ∧ (true = true → true = true → true = true) ∧ (true = true → countP z w h (D.sub (D.rem r (900001 :
    Int)) p) (D.add (D.sub (D.rem r (900001 : Int)) p) q)) ∧ (true = true → true = true → true = true) ∧ (true = true → true = true → true = true) ∧ (true = true →
    inR IntKind.i64 (D.sub (countF w h (D.sub (D.rem r (900001 : Int)) p) (D.add (D.sub (D.rem r (900001 : Int)) p) q)) (0 : Int))) ∧ (true = true → true = true →
    true = true) ∧ (true = true → true = true → true = true) ∧ (D.and true true = true → true = true) ∧ D.cnd true (D.eq (countF w (addedF h (D.rem r (900001 :
    Int))) (D.sub (D.rem r (900001 : Int)) p) (D.add (D.sub (D.rem r (900001 : Int)) p) q)) (D.sub (countF w h (D.sub (D.rem r (900001 : Int)) p) (D.add (D.sub
    (D.rem r (900001 : Int)) p) q)) (0 : Int))) false = true ∧ True))))) :
    evF (mkc K8) noAnn 8 [cal z w h, .dat (.int .i32) r, .dat (.int .u8) p, .dat (.int .u8) q, .dat (.int .u8) o] [] ⟨r32 r ∧ r8 p ∧ r8 q ∧ r8 o ∧ shortP h, .dat .bool true, []⟩ := of_eq (by kernel_rfl) hvc

end Go.Eng.Cal
