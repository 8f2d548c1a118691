/- PeCal3 -/
import Derived.Test.YtmofcccjepbhjaaW21
import Derived.Test.YtmofcccjepbhjaaCal2
set_option linter.unusedSimpArgs false
set_option linter.unusedVariables false
namespace Go.Eng.Cal
open Go.Proofs

noncomputable def listF (w : List Bool) (h : List Int) (a n : Int) : List Int := ((List.range n.toNat).map fun (i : Nat) => a + (i : Int)).filter fun d => workF w h d
noncomputable def cntTo (w : List Bool) (h : List Int) (a d : Int) : Nat := (((List.range (d - a).toNat).map fun (i : Nat) => a + (i : Int)).filter fun d => workF w h d).length
noncomputable def daysP (w : List Bool) (h : List Int) (a n : Int) : Prop := calOk w h ∧ -1000000000 ≤ a ∧ a ≤ 1000000000 ∧ -100000000 ≤ n ∧ n ≤ 100000000
noncomputable def daysTo (a n d : Int) : Prop := a ≤ d ∧ (d ≤ a + n ∨ d = a)
noncomputable def nextO (w : List Bool) (h : List Int) (d : Int) : Option Int := (listF w h d 60).head?
noncomputable def nextD (w : List Bool) (h : List Int) (d : Int) : Int := (nextO w h d).getD 0
noncomputable def nextE (w : List Bool) (h : List Int) (d : Int) : Int := if (nextO w h d).isSome then 0 else 20
noncomputable def argP (z : Int) (w : List Bool) (h : List Int) (d : Int) : Prop := validF z w h = true ∧ inDays d = true
noncomputable def addO (w : List Bool) (h : List Int) : Nat → Int → Option Int
  | 0, d => some d
  | n + 1, d => (nextO w h (d + 1)).bind (addO w h n)
noncomputable def addD (w : List Bool) (h : List Int) (d n : Int) : Int := (addO w h n.toNat d).getD 0
noncomputable def addE (w : List Bool) (h : List Int) (d n : Int) : Int := if (addO w h n.toNat d).isSome then 0 else 20
noncomputable def addP (z : Int) (w : List Bool) (h : List Int) (d n : Int) : Prop := validF z w h = true ∧ inDays d = true ∧ 0 ≤ n ∧ n ≤ 200
noncomputable def addTo (w : List Bool) (h : List Int) (d n i e : Int) : Prop := 0 ≤ i ∧ i ≤ n ∧ -1000000 ≤ e ∧ e ≤ 1000000 + 100 * i ∧ addO w h (n - i).toNat e = addO w h n.toNat d
noncomputable def isZ (k : Nat) : Prop := k = 0
noncomputable def countF (w : List Bool) (h : List Int) (a b : Int) : Int := if b ≤ a + 2000 then ((listF w h (a + 1) (b - a)).length : Int) else -1
noncomputable def countP (z : Int) (w : List Bool) (h : List Int) (a b : Int) : Prop := validF z w h = true ∧ inDays a = true ∧ inDays b = true
noncomputable def toLen (k : Nat) (l : List Int) : Prop := k ≤ l.length ∧ l.length ≤ 100000

noncomputable def daysA (w : List Bool) (h : List Int) (a n : Int) : AnnY := ⟨fun id y => match id with
  | 1 => some { α := Int, inv := fun d => daysTo a n d, st := fun d => ⟨put y.s [(5, .dat I d)], cntTo w h a d, true⟩, μ := fun d => D.nat (D.sub (D.add a n) d) }
  | _ => none, fun _ _ => none, fun id => id == 3⟩
theorem vc_iter2 (z a n : Int) (w w' : List Bool) (h : List Int) (hvc :
     true = true ∧ true = true ∧ true = true ∧ false = false ∧ ∀ (l : Nat), daysP w h a n → (∃ x, daysTo a n x ∧ (l = l ∧ a = a ∧ n = n ∧ AV.fn
    (28) [AV.ia Ty.bool w, AV.ip ((Ty.int IntKind.i64).pair (Ty.bool.sl.pair (Ty.int IntKind.i64).sl)) (z, w', h)] = AV.fn (28) [AV.ia Ty.bool w, AV.ip ((Ty.int
    IntKind.i64).pair (Ty.bool.sl.pair (Ty.int IntKind.i64).sl)) (z, w', h)] ∧ a = x ∧ a = a ∧ True) ∧ 0 = cntTo w h a x ∧ true = true) ∧ ∀ (x : Int), daysTo a n x
    → inR IntKind.i64 (D.add a n) ∧ (D.lt x (D.add a n) = true → false = false ∧ (calOk w h ∧ okDay x) ∧ (workF w h x = true → (workF w h x = true → workF w h x =
    true) ∧ (workF w h x = true → workF w h x = true) ∧ l = l ∧ true = true ∧ isAt (listF w h a n) (cntTo w h a x) x ∧ ∀ (b : Bool), (D.and true (workF w h x) =
    true → workF w h x = true) ∧ (D.cnd (workF w h x) (D.not b) false = true → b = true → D.nadd (cntTo w h a x) (1) = D.len (listF w h a n)) ∧ (D.cnd (workF w h x)
    (D.not b) false = false → inR IntKind.i64 (D.add x (1 : Int)) ∧ ∃ y, daysTo a n y ∧ ((l = l ∧ a = a ∧ n = n ∧ AV.fn (28) [AV.ia Ty.bool w, AV.ip ((Ty.int
    IntKind.i64).pair (Ty.bool.sl.pair (Ty.int IntKind.i64).sl)) (z, w', h)] = AV.fn (28) [AV.ia Ty.bool w, AV.ip ((Ty.int IntKind.i64).pair (Ty.bool.sl.pair
    (Ty.int IntKind.i64).sl)) (z, w', h)] ∧ D.add x (1 : Int) = y ∧ a = a ∧ True) ∧ D.nadd (cntTo w h a x) (1) = cntTo w h a y ∧ b = true) ∧ D.nlt (D.nat (D.sub
    (D.add a n) y)) (D.nat (D.sub (D.add a n) x)))) ∧ (workF w h x = false → (workF w h x = true → workF w h x = true → workF w h x = true) ∧ (D.and true (workF w h
    x) = true → workF w h x = true) ∧ (D.cnd (workF w h x) (D.not false) false = true → true = true → cntTo w h a x = D.len (listF w h a n)) ∧ (D.cnd (workF w h x)
    (D.not false) false = false → inR IntKind.i64 (D.add x (1 : Int)) ∧ ∃ y, daysTo a n y ∧ ((l = l ∧ a = a ∧ n = n ∧ AV.fn (28) [AV.ia Ty.bool w, AV.ip ((Ty.int
    IntKind.i64).pair (Ty.bool.sl.pair (Ty.int IntKind.i64).sl)) (z, w', h)] = AV.fn (28) [AV.ia Ty.bool w, AV.ip ((Ty.int IntKind.i64).pair (Ty.bool.sl.pair
    (Ty.int IntKind.i64).sl)) (z, w', h)] ∧ D.add x (1 : Int) = y ∧ a = a ∧ True) ∧ cntTo w h a x = cntTo w h a y ∧ true = true) ∧ D.nlt (D.nat (D.sub (D.add a n)
    y)) (D.nat (D.sub (D.add a n) x))))) ∧ (D.lt x (D.add a n) = false → true = true → cntTo w h a x = D.len (listF w h a n))) :
    evI (mkc K3) (daysA w h a n) 27 [.ip I a, .ip I n, .ipv (.fn 28 [.ia .bool w, .ip C (z, w', h)])] ⟨daysP w h a n, I, listF w h a n⟩ := of_eq (by kernel_rfl) hvc


noncomputable def K4 : Kt := fun f args m => match f, args, m with
  | 25, [.agg [.dat (.int .i64) z, .dat (.sl .bool) w, .dat (.sl (.int .i64)) h], .dat (.int .i64) a, .dat (.int .i64) n], [] => some ⟨D.len w = 7, .fn 27 [.ip I a, .ip I n, .ipv (.fn 28 [.ia .bool w, .ip C (z, w, h)])], []⟩
  | _, _, _ => K3 f args m
noncomputable def KI4 : FuncId → List AV → Option IRes := fun f caps => match f, caps with
  | 27, [.ip (.int .i64) a, .ip (.int .i64) n, .ipv (.fn 28 [.ia .bool w, .ip (.pair (.int .i64) (.pair (.sl .bool) (.sl (.int .i64)))) c])] => some ⟨daysP w c.2.2 a n, I, listF w c.2.2 a n⟩
  | _, _ => none
noncomputable def mkr (K : Kt) (mb : Tmp → Bool) : Cfg := ⟨Try.prog, G0, K, mb, KI4, true⟩

noncomputable def flat (s : St) : St := { s with tm := s.tm.map topU }
noncomputable def nextA : Ann := ⟨fun id s => match id with
  | 4 => some { α := Nat, inv := fun k => isZ k, st := fun _ => flat s, μ := fun k => k }
  | _ => none, fun _ _ => none, fun _ _ => none⟩
theorem vc_next (z : Int) (w : List Bool) (h : List Int) (d : Int) (hvc :
     true = true ∧ (argP z w h d → True ∧ (D.not (D.not (validF z w h)) = true → D.not (D.not (validF z w h)) = true → D.not (D.not (validF z w h)) =
    true) ∧ (D.not (D.not (validF z w h)) = true → True) ∧ (D.not (D.not (validF z w h)) = true → D.not (D.not (validF z w h)) = true → D.not (D.not (validF z w h))
    = true) ∧ (D.and true (D.not (D.not (validF z w h))) = true → D.not (D.not (validF z w h)) = true) ∧ (D.cnd (D.not (validF z w h)) true (D.not (inDays d)) =
    true → 1 = 1 ∧ 0 = 0 ∧ 1 = 1 ∧ 0 = 0 ∧ 1 = 1 ∧ 0 = 0 ∧ 1 = 1 ∧ 0 = 0 ∧ (0 : Int) = nextD w h d ∧ (1 : Int) = nextE w h d ∧ True) ∧ (D.cnd (D.not (validF z w h))
    true (D.not (inDays d)) = false → D.len w = 7 ∧ daysP w h d (60 : Int) ∧ (∃ x, isZ x ∧ x = 0 ∧ z = z ∧ w = w ∧ h = h ∧ d = d ∧ (z, w, h) = (z, w, h) ∧ 1 = 1 ∧ 0
    = 0 ∧ 0 = 0 ∧ 1 = 1 ∧ 0 = 0 ∧ 0 = 0 ∧ z = z ∧ w = w ∧ h = h ∧ validF z w h = validF z w h ∧ D.not (validF z w h) = D.not (validF z w h) ∧ D.not (validF z w h) =
    D.not (validF z w h) ∧ D.cnd (D.not (validF z w h)) true (D.not (inDays d)) = D.cnd (D.not (validF z w h)) true (D.not (inDays d)) ∧ z = z ∧ w = w ∧ h = h ∧ d =
    d ∧ d = d ∧ (60 : Int) = (60 : Int) ∧ AV.fn (28) [AV.ia Ty.bool w, AV.ip ((Ty.int IntKind.i64).pair (Ty.bool.sl.pair (Ty.int IntKind.i64).sl)) (z, w, h)] =
    AV.fn (28) [AV.ia Ty.bool w, AV.ip ((Ty.int IntKind.i64).pair (Ty.bool.sl.pair (Ty.int IntKind.i64).sl)) (z, w, h)] ∧ (0 : Int) = (0 : Int) ∧ (0 : Int) = (0 :
    Int) ∧ True) ∧ (∀ (x : Nat) (y : Int), isZ x → isAt (listF w h d (60 : Int)) x y → 1 = 1 ∧ 0 = 0 ∧ 1 = 1 ∧ 0 = 0 ∧ 1 = 1 ∧ 0 = 0 ∧ 1 = 1 ∧ 0 = 0 ∧ y = nextD w h
    d ∧ (0 : Int) = nextE w h d ∧ True) ∧ ∀ (x : Nat), isZ x → x = D.len (listF w h d (60 : Int)) → 1 = 1 ∧ 0 = 0 ∧ 1 = 1 ∧ 0 = 0 ∧ 1 = 1 ∧ 0 = 0 ∧ 1 = 1 ∧ 0 = 0 ∧
    (0 : Int) = nextD w h d ∧ (20 : Int) = nextE w h d ∧ True))) :
    evF (mkr K4 fun _ => false) nextA 14 [cal z w h, .dat I d] [] ⟨argP z w h d, .tup [.dat I (nextD w h d), .dat I (nextE w h d)], []⟩ := of_eq (by kernel_rfl) hvc


noncomputable def addA (w : List Bool) (h : List Int) (d n : Int) : Ann := ⟨fun id s => match id with
  | 4 => some { α := Int × Int, inv := fun x => addTo w h d n (p1 x) (p2 x), st := fun x => putM (put s [(27, .dat I (p1 x))]) 0 (.var [.dat I (p2 x)]), μ := fun x => D.nat (D.sub n (p1 x)) }
  | 7 => some { α := Nat, inv := fun k => isZ k, st := fun _ => flat s, μ := fun k => k }
  | _ => none, fun _ _ => none, fun _ _ => none⟩
theorem vc_add (z : Int) (w : List Bool) (h : List Int) (d n : Int) (hvc :
     true = true ∧ (addP z w h d n → True ∧ (D.not (D.not (validF z w h)) = true → 1 = 1) ∧ (D.not (D.not (validF z w h)) = true → 0 = 0) ∧ (D.not
    (D.not (validF z w h)) = true → D.not (D.not (validF z w h)) = true → D.not (D.not (validF z w h)) = true) ∧ (D.not (D.not (validF z w h)) = true → True) ∧
    (D.not (D.not (validF z w h)) = true → D.not (D.not (validF z w h)) = true → D.not (D.not (validF z w h)) = true) ∧ (D.and true (D.not (D.not (validF z w h))) =
    true → D.not (D.not (validF z w h)) = true) ∧ (D.not (D.cnd (D.not (validF z w h)) true (D.not (inDays d))) = true → D.not (D.cnd (D.not (validF z w h)) true
    (D.not (inDays d))) = true → D.not (D.cnd (D.not (validF z w h)) true (D.not (inDays d))) = true) ∧ (D.and true (D.not (D.cnd (D.not (validF z w h)) true (D.not
    (inDays d)))) = true → D.not (D.cnd (D.not (validF z w h)) true (D.not (inDays d))) = true) ∧ (D.not (D.cnd (D.cnd (D.not (validF z w h)) true (D.not (inDays
    d))) true (D.lt n (0 : Int))) = true → D.not (D.cnd (D.cnd (D.not (validF z w h)) true (D.not (inDays d))) true (D.lt n (0 : Int))) = true → D.not (D.cnd (D.cnd
    (D.not (validF z w h)) true (D.not (inDays d))) true (D.lt n (0 : Int))) = true) ∧ (D.and true (D.not (D.cnd (D.cnd (D.not (validF z w h)) true (D.not (inDays
    d))) true (D.lt n (0 : Int)))) = true → D.not (D.cnd (D.cnd (D.not (validF z w h)) true (D.not (inDays d))) true (D.lt n (0 : Int))) = true) ∧ (D.cnd (D.cnd
    (D.cnd (D.not (validF z w h)) true (D.not (inDays d))) true (D.lt n (0 : Int))) true (D.gt n (200 : Int)) = true → (0 : Int) = addD w h d n ∧ (1 : Int) = addE w
    h d n ∧ True) ∧ (D.cnd (D.cnd (D.cnd (D.not (validF z w h)) true (D.not (inDays d))) true (D.lt n (0 : Int))) true (D.gt n (200 : Int)) = false → (∃ x, addTo w
    h d n (p1 x) (p2 x) ∧ z = z ∧ w = w ∧ h = h ∧ d = d ∧ n = n ∧ (z, w, h) = (z, w, h) ∧ 1 = 1 ∧ 0 = 0 ∧ 0 = 0 ∧ z = z ∧ w = w ∧ h = h ∧ validF z w h = validF z w
    h ∧ D.not (validF z w h) = D.not (validF z w h) ∧ D.not (validF z w h) = D.not (validF z w h) ∧ D.cnd (D.not (validF z w h)) true (D.not (inDays d)) = D.cnd
    (D.not (validF z w h)) true (D.not (inDays d)) ∧ D.cnd (D.not (validF z w h)) true (D.not (inDays d)) = D.cnd (D.not (validF z w h)) true (D.not (inDays d)) ∧
    D.cnd (D.cnd (D.not (validF z w h)) true (D.not (inDays d))) true (D.lt n (0 : Int)) = D.cnd (D.cnd (D.not (validF z w h)) true (D.not (inDays d))) true (D.lt n
    (0 : Int)) ∧ D.cnd (D.cnd (D.not (validF z w h)) true (D.not (inDays d))) true (D.lt n (0 : Int)) = D.cnd (D.cnd (D.not (validF z w h)) true (D.not (inDays d)))
    true (D.lt n (0 : Int)) ∧ D.cnd (D.cnd (D.cnd (D.not (validF z w h)) true (D.not (inDays d))) true (D.lt n (0 : Int))) true (D.gt n (200 : Int)) = D.cnd (D.cnd
    (D.cnd (D.not (validF z w h)) true (D.not (inDays d))) true (D.lt n (0 : Int))) true (D.gt n (200 : Int)) ∧ n = n ∧ (0 : Int) = p1 x ∧ d = p2 x ∧ True) ∧ ∀ (x :
    Int × Int), addTo w h d n (p1 x) (p2 x) → (D.lt (p1 x) n = true → 1 = 1 ∧ 0 = 0 ∧ 1 = 1 ∧ 0 = 0 ∧ inR IntKind.i64 (D.add (p2 x) (1 : Int)) ∧ D.len w = 7 ∧ daysP
    w h (D.add (p2 x) (1 : Int)) (60 : Int) ∧ (∃ x_3, isZ x_3 ∧ x_3 = 0 ∧ z = z ∧ w = w ∧ h = h ∧ d = d ∧ n = n ∧ (z, w, h) = (z, w, h) ∧ 1 = 1 ∧ 0 = 0 ∧ 0 = 0 ∧ 1
    = 1 ∧ 0 = 0 ∧ 0 = 0 ∧ z = z ∧ w = w ∧ h = h ∧ validF z w h = validF z w h ∧ D.not (validF z w h) = D.not (validF z w h) ∧ D.not (validF z w h) = D.not (validF z
    w h) ∧ D.cnd (D.not (validF z w h)) true (D.not (inDays d)) = D.cnd (D.not (validF z w h)) true (D.not (inDays d)) ∧ D.cnd (D.not (validF z w h)) true (D.not
    (inDays d)) = D.cnd (D.not (validF z w h)) true (D.not (inDays d)) ∧ D.cnd (D.cnd (D.not (validF z w h)) true (D.not (inDays d))) true (D.lt n (0 : Int)) =
    D.cnd (D.cnd (D.not (validF z w h)) true (D.not (inDays d))) true (D.lt n (0 : Int)) ∧ D.cnd (D.cnd (D.not (validF z w h)) true (D.not (inDays d))) true (D.lt n
    (0 : Int)) = D.cnd (D.cnd (D.not (validF z w h)) true (D.not (inDays d))) true (D.lt n (0 : Int)) ∧ D.cnd (D.cnd (D.cnd (D.not (validF z w h)) true (D.not
    (inDays d))) true (D.lt n (0 : Int))) true (D.gt n (200 : Int)) = D.cnd (D.cnd (D.cnd (D.not (validF z w h)) true (D.not (inDays d))) true (D.lt n (0 : Int)))
    true (D.gt n (200 : Int)) ∧ n = n ∧ p1 x = p1 x ∧ D.lt (p1 x) n = D.lt (p1 x) n ∧ z = z ∧ w = w ∧ h = h ∧ p2 x = p2 x ∧ D.add (p2 x) (1 : Int) = D.add (p2 x) (1
    : Int) ∧ D.add (p2 x) (1 : Int) = D.add (p2 x) (1 : Int) ∧ (60 : Int) = (60 : Int) ∧ AV.fn (28) [AV.ia Ty.bool w, AV.ip ((Ty.int IntKind.i64).pair
    (Ty.bool.sl.pair (Ty.int IntKind.i64).sl)) (z, w, h)] = AV.fn (28) [AV.ia Ty.bool w, AV.ip ((Ty.int IntKind.i64).pair (Ty.bool.sl.pair (Ty.int IntKind.i64).sl))
    (z, w, h)] ∧ p2 x = p2 x ∧ false = false ∧ True) ∧ (∀ (x_3 : Nat) (y : Int), isZ x_3 → isAt (listF w h (D.add (p2 x) (1 : Int)) (60 : Int)) x_3 y → 1 = 1 ∧ 0 =
    0 ∧ 1 = 1 ∧ 0 = 0 ∧ 1 = 1 ∧ 0 = 0 ∧ (D.not true = true → (0 : Int) = addD w h d n ∧ (20 : Int) = addE w h d n ∧ True) ∧ (D.not true = false → inR IntKind.i64
    (D.add (p1 x) (1 : Int)) ∧ ∃ y_1, addTo w h d n (p1 y_1) (p2 y_1) ∧ (z = z ∧ w = w ∧ h = h ∧ d = d ∧ n = n ∧ (z, w, h) = (z, w, h) ∧ 1 = 1 ∧ 0 = 0 ∧ 0 = 0 ∧ z =
    z ∧ w = w ∧ h = h ∧ validF z w h = validF z w h ∧ D.not (validF z w h) = D.not (validF z w h) ∧ D.not (validF z w h) = D.not (validF z w h) ∧ D.cnd (D.not
    (validF z w h)) true (D.not (inDays d)) = D.cnd (D.not (validF z w h)) true (D.not (inDays d)) ∧ D.cnd (D.not (validF z w h)) true (D.not (inDays d)) = D.cnd
    (D.not (validF z w h)) true (D.not (inDays d)) ∧ D.cnd (D.cnd (D.not (validF z w h)) true (D.not (inDays d))) true (D.lt n (0 : Int)) = D.cnd (D.cnd (D.not
    (validF z w h)) true (D.not (inDays d))) true (D.lt n (0 : Int)) ∧ D.cnd (D.cnd (D.not (validF z w h)) true (D.not (inDays d))) true (D.lt n (0 : Int)) = D.cnd
    (D.cnd (D.not (validF z w h)) true (D.not (inDays d))) true (D.lt n (0 : Int)) ∧ D.cnd (D.cnd (D.cnd (D.not (validF z w h)) true (D.not (inDays d))) true (D.lt
    n (0 : Int))) true (D.gt n (200 : Int)) = D.cnd (D.cnd (D.cnd (D.not (validF z w h)) true (D.not (inDays d))) true (D.lt n (0 : Int))) true (D.gt n (200 : Int))
    ∧ n = n ∧ D.add (p1 x) (1 : Int) = p1 y_1 ∧ y = p2 y_1 ∧ True) ∧ D.nlt (D.nat (D.sub n (p1 y_1))) (D.nat (D.sub n (p1 x))))) ∧ ∀ (x_3 : Nat), isZ x_3 → x_3 =
    D.len (listF w h (D.add (p2 x) (1 : Int)) (60 : Int)) → 1 = 1 ∧ 0 = 0 ∧ (D.not false = true → (0 : Int) = addD w h d n ∧ (20 : Int) = addE w h d n ∧ True) ∧
    (D.not false = false → inR IntKind.i64 (D.add (p1 x) (1 : Int)) ∧ ∃ y, addTo w h d n (p1 y) (p2 y) ∧ (z = z ∧ w = w ∧ h = h ∧ d = d ∧ n = n ∧ (z, w, h) = (z, w,
    h) ∧ 1 = 1 ∧ 0 = 0 ∧ 0 = 0 ∧ z = z ∧ w = w ∧ h = h ∧ validF z w h = validF z w h ∧ D.not (validF z w h) = D.not (validF z w h) ∧ D.not (validF z w h) = D.not
    (validF z w h) ∧ D.cnd (D.not (validF z w h)) true (D.not (inDays d)) = D.cnd (D.not (validF z w h)) true (D.not (inDays d)) ∧ D.cnd (D.not (validF z w h)) true
    (D.not (inDays d)) = D.cnd (D.not (validF z w h)) true (D.not (inDays d)) ∧ D.cnd (D.cnd (D.not (validF z w h)) true (D.not (inDays d))) true (D.lt n (0 : Int))
    = D.cnd (D.cnd (D.not (validF z w h)) true (D.not (inDays d))) true (D.lt n (0 : Int)) ∧ D.cnd (D.cnd (D.not (validF z w h)) true (D.not (inDays d))) true (D.lt
    n (0 : Int)) = D.cnd (D.cnd (D.not (validF z w h)) true (D.not (inDays d))) true (D.lt n (0 : Int)) ∧ D.cnd (D.cnd (D.cnd (D.not (validF z w h)) true (D.not
    (inDays d))) true (D.lt n (0 : Int))) true (D.gt n (200 : Int)) = D.cnd (D.cnd (D.cnd (D.not (validF z w h)) true (D.not (inDays d))) true (D.lt n (0 : Int)))
    true (D.gt n (200 : Int)) ∧ n = n ∧ D.add (p1 x) (1 : Int) = p1 y ∧ p2 x = p2 y ∧ True) ∧ D.nlt (D.nat (D.sub n (p1 y))) (D.nat (D.sub n (p1 x))))) ∧ (D.lt (p1
    x) n = false → 1 = 1 ∧ 0 = 0 ∧ p2 x = addD w h d n ∧ (0 : Int) = addE w h d n ∧ True)))) :
    evF (mkr K4 fun t => t == 4) (addA w h d n) 16 [cal z w h, .dat I d, .dat I n] [] ⟨addP z w h d n, .tup [.dat I (addD w h d n), .dat I (addE w h d n)], []⟩ := of_eq (by kernel_rfl) hvc


noncomputable def countA (w : List Bool) (h : List Int) (a b : Int) : Ann := ⟨fun id s => match id with
  | 5 => some { α := Nat, inv := fun k => toLen k (listF w h (D.add a 1) (D.sub b a)), st := fun k => putM (flat s) 0 (.var [.dat I (D.ofN k)]), μ := fun k => k }
  | _ => none, fun _ _ => none, fun _ _ => none⟩
theorem vc_count (z : Int) (w : List Bool) (h : List Int) (a b : Int) (hvc :
     true = true ∧ (countP z w h a b → True ∧ (D.not (D.not (validF z w h)) = true → D.not (D.not (validF z w h)) = true → D.not (D.not (validF z w
    h)) = true) ∧ (D.not (D.not (validF z w h)) = true → True) ∧ (D.not (D.not (validF z w h)) = true → D.not (D.not (validF z w h)) = true → D.not (D.not (validF z
    w h)) = true) ∧ (D.and true (D.not (D.not (validF z w h))) = true → D.not (D.not (validF z w h)) = true) ∧ (D.not (D.cnd (D.not (validF z w h)) true (D.not
    (inDays a))) = true → D.not (D.cnd (D.not (validF z w h)) true (D.not (inDays a))) = true → D.not (D.cnd (D.not (validF z w h)) true (D.not (inDays a))) = true)
    ∧ (D.not (D.cnd (D.not (validF z w h)) true (D.not (inDays a))) = true → True) ∧ (D.not (D.cnd (D.not (validF z w h)) true (D.not (inDays a))) = true → D.not
    (D.cnd (D.not (validF z w h)) true (D.not (inDays a))) = true → D.not (D.cnd (D.not (validF z w h)) true (D.not (inDays a))) = true) ∧ (D.and true (D.not (D.cnd
    (D.not (validF z w h)) true (D.not (inDays a)))) = true → D.not (D.cnd (D.not (validF z w h)) true (D.not (inDays a))) = true) ∧ (D.not (D.cnd (D.cnd (D.not
    (validF z w h)) true (D.not (inDays a))) true (D.not (inDays b))) = true → D.not (D.cnd (D.cnd (D.not (validF z w h)) true (D.not (inDays a))) true (D.not
    (inDays b))) = true → D.not (D.cnd (D.cnd (D.not (validF z w h)) true (D.not (inDays a))) true (D.not (inDays b))) = true) ∧ (D.not (D.cnd (D.cnd (D.not (validF
    z w h)) true (D.not (inDays a))) true (D.not (inDays b))) = true → inR IntKind.i64 (D.add a (2000 : Int))) ∧ (D.not (D.cnd (D.cnd (D.not (validF z w h)) true
    (D.not (inDays a))) true (D.not (inDays b))) = true → D.not (D.cnd (D.cnd (D.not (validF z w h)) true (D.not (inDays a))) true (D.not (inDays b))) = true →
    D.not (D.cnd (D.cnd (D.not (validF z w h)) true (D.not (inDays a))) true (D.not (inDays b))) = true) ∧ (D.not (D.cnd (D.cnd (D.not (validF z w h)) true (D.not
    (inDays a))) true (D.not (inDays b))) = true → D.not (D.cnd (D.cnd (D.not (validF z w h)) true (D.not (inDays a))) true (D.not (inDays b))) = true → D.not
    (D.cnd (D.cnd (D.not (validF z w h)) true (D.not (inDays a))) true (D.not (inDays b))) = true) ∧ (D.and true (D.not (D.cnd (D.cnd (D.not (validF z w h)) true
    (D.not (inDays a))) true (D.not (inDays b)))) = true → D.not (D.cnd (D.cnd (D.not (validF z w h)) true (D.not (inDays a))) true (D.not (inDays b))) = true) ∧
    (D.cnd (D.cnd (D.cnd (D.not (validF z w h)) true (D.not (inDays a))) true (D.not (inDays b))) true (D.gt b (D.add a (2000 : Int))) = true → (-1 : Int) = countF
    w h a b ∧ True) ∧ (D.cnd (D.cnd (D.cnd (D.not (validF z w h)) true (D.not (inDays a))) true (D.not (inDays b))) true (D.gt b (D.add a (2000 : Int))) = false → 1
    = 1 ∧ 0 = 0 ∧ inR IntKind.i64 (D.add a (1 : Int)) ∧ inR IntKind.i64 (D.sub b a) ∧ D.len w = 7 ∧ daysP w h (D.add a (1 : Int)) (D.sub b a) ∧ (∃ x, toLen x (listF
    w h (D.add a (1 : Int)) (D.sub b a)) ∧ x = 0 ∧ z = z ∧ w = w ∧ h = h ∧ a = a ∧ b = b ∧ (z, w, h) = (z, w, h) ∧ (0 : Int) = (0 : Int) ∧ 1 = 1 ∧ 0 = 0 ∧ 0 = 0 ∧ z
    = z ∧ w = w ∧ h = h ∧ validF z w h = validF z w h ∧ D.not (validF z w h) = D.not (validF z w h) ∧ D.not (validF z w h) = D.not (validF z w h) ∧ D.cnd (D.not
    (validF z w h)) true (D.not (inDays a)) = D.cnd (D.not (validF z w h)) true (D.not (inDays a)) ∧ D.cnd (D.not (validF z w h)) true (D.not (inDays a)) = D.cnd
    (D.not (validF z w h)) true (D.not (inDays a)) ∧ D.cnd (D.cnd (D.not (validF z w h)) true (D.not (inDays a))) true (D.not (inDays b)) = D.cnd (D.cnd (D.not
    (validF z w h)) true (D.not (inDays a))) true (D.not (inDays b)) ∧ D.cnd (D.cnd (D.not (validF z w h)) true (D.not (inDays a))) true (D.not (inDays b)) = D.cnd
    (D.cnd (D.not (validF z w h)) true (D.not (inDays a))) true (D.not (inDays b)) ∧ D.cnd (D.cnd (D.cnd (D.not (validF z w h)) true (D.not (inDays a))) true (D.not
    (inDays b))) true (D.gt b (D.add a (2000 : Int))) = D.cnd (D.cnd (D.cnd (D.not (validF z w h)) true (D.not (inDays a))) true (D.not (inDays b))) true (D.gt b
    (D.add a (2000 : Int))) ∧ z = z ∧ w = w ∧ h = h ∧ a = a ∧ D.add a (1 : Int) = D.add a (1 : Int) ∧ b = b ∧ a = a ∧ D.sub b a = D.sub b a ∧ D.add a (1 : Int) =
    D.add a (1 : Int) ∧ D.sub b a = D.sub b a ∧ AV.fn (28) [AV.ia Ty.bool w, AV.ip ((Ty.int IntKind.i64).pair (Ty.bool.sl.pair (Ty.int IntKind.i64).sl)) (z, w, h)]
    = AV.fn (28) [AV.ia Ty.bool w, AV.ip ((Ty.int IntKind.i64).pair (Ty.bool.sl.pair (Ty.int IntKind.i64).sl)) (z, w, h)] ∧ (0 : Int) = D.ofN x ∧ True) ∧ (∀ (x :
    Nat) (y : Int), toLen x (listF w h (D.add a (1 : Int)) (D.sub b a)) → isAt (listF w h (D.add a (1 : Int)) (D.sub b a)) x y → 1 = 1 ∧ 0 = 0 ∧ inR IntKind.i64
    (D.add (D.ofN x) (1 : Int)) ∧ 1 = 1 ∧ 0 = 0 ∧ ∃ z_1, toLen z_1 (listF w h (D.add a (1 : Int)) (D.sub b a)) ∧ z_1 = D.nadd x (1) ∧ z = z ∧ w = w ∧ h = h ∧ a = a
    ∧ b = b ∧ (z, w, h) = (z, w, h) ∧ (0 : Int) = (0 : Int) ∧ 1 = 1 ∧ 0 = 0 ∧ 0 = 0 ∧ z = z ∧ w = w ∧ h = h ∧ validF z w h = validF z w h ∧ D.not (validF z w h) =
    D.not (validF z w h) ∧ D.not (validF z w h) = D.not (validF z w h) ∧ D.cnd (D.not (validF z w h)) true (D.not (inDays a)) = D.cnd (D.not (validF z w h)) true
    (D.not (inDays a)) ∧ D.cnd (D.not (validF z w h)) true (D.not (inDays a)) = D.cnd (D.not (validF z w h)) true (D.not (inDays a)) ∧ D.cnd (D.cnd (D.not (validF z
    w h)) true (D.not (inDays a))) true (D.not (inDays b)) = D.cnd (D.cnd (D.not (validF z w h)) true (D.not (inDays a))) true (D.not (inDays b)) ∧ D.cnd (D.cnd
    (D.not (validF z w h)) true (D.not (inDays a))) true (D.not (inDays b)) = D.cnd (D.cnd (D.not (validF z w h)) true (D.not (inDays a))) true (D.not (inDays b)) ∧
    D.cnd (D.cnd (D.cnd (D.not (validF z w h)) true (D.not (inDays a))) true (D.not (inDays b))) true (D.gt b (D.add a (2000 : Int))) = D.cnd (D.cnd (D.cnd (D.not
    (validF z w h)) true (D.not (inDays a))) true (D.not (inDays b))) true (D.gt b (D.add a (2000 : Int))) ∧ z = z ∧ w = w ∧ h = h ∧ a = a ∧ D.add a (1 : Int) =
    D.add a (1 : Int) ∧ b = b ∧ a = a ∧ D.sub b a = D.sub b a ∧ D.add a (1 : Int) = D.add a (1 : Int) ∧ D.sub b a = D.sub b a ∧ AV.fn (28) [AV.ia Ty.bool w, AV.ip
    ((Ty.int IntKind.i64).pair (Ty.bool.sl.pair (Ty.int IntKind.i64).sl)) (z, w, h)] = AV.fn (28) [AV.ia Ty.bool w, AV.ip ((Ty.int IntKind.i64).pair
    (Ty.bool.sl.pair (Ty.int IntKind.i64).sl)) (z, w, h)] ∧ D.add (D.ofN x) (1 : Int) = D.ofN z_1 ∧ True) ∧ ∀ (x : Nat), toLen x (listF w h (D.add a (1 : Int))
    (D.sub b a)) → x = D.len (listF w h (D.add a (1 : Int)) (D.sub b a)) → 1 = 1 ∧ 0 = 0 ∧ D.ofN x = countF w h a b ∧ True))) :
    evF (mkr K4 fun _ => false) (countA w h a b) 17 [cal z w h, .dat I a, .dat I b] [] ⟨countP z w h a b, .dat I (countF w h a b), []⟩ := of_eq (by kernel_rfl) hvc


theorem KS4 : KSound Try.prog G0 K4 := by
  intro f args m c h
  unfold K4 at h
  split at h
  · cases h; exact s_days _ _ _ _ _
  · exact KS3 _ _ _ _ h

theorem filt_at {α : Type} {f : Nat → α} {p : α → Bool} {k : Nat} (hp : p (f k) = true) : ∀ N : Nat, k < N → (((List.range N).map f).filter p)[(((List.range k).map f).filter p).length]? = some (f k)
  | 0, h => by omega
  | N + 1, h => by
    rw [List.range_succ, List.map_append, List.filter_append]
    rcases Nat.lt_or_ge k N with hk | hk
    · have ih := filt_at hp N hk
      rw [List.getElem?_append_left (List.getElem?_eq_some_iff.1 ih).1]
      exact ih
    · have e : N = k := by omega
      subst e
      rw [List.getElem?_append_right (Nat.le_refl _), Nat.sub_self]
      simp [hp]
theorem at_list {w : List Bool} {h : List Int} {a n x : Int} (h1 : a ≤ x) (h2 : x < a + n) (hw : workF w h x = true) : isAt (listF w h a n) (cntTo w h a x) x := by
  have e : a + ((x - a).toNat : Int) = x := by omega
  have := filt_at (f := fun (i : Nat) => a + (i : Int)) (p := fun d => workF w h d) (k := (x - a).toNat) (by simp only [e]; exact hw) n.toNat (by omega)
  simp only [e] at this
  exact this
theorem cnt_succ {w : List Bool} {h : List Int} {a x : Int} (h1 : a ≤ x) : cntTo w h a (x + 1) = cntTo w h a x + (if workF w h x then 1 else 0) := by
  unfold cntTo
  rw [show (x + 1 - a).toNat = (x - a).toNat + 1 by omega, List.range_succ, List.map_append, List.filter_append, List.length_append]
  have e : a + ((x - a).toNat : Int) = x := by omega
  congr 1
  simp only [List.map_cons, List.map_nil, e, List.filter_cons, List.filter_nil]
  split <;> simp_all
theorem cnt_zero (w : List Bool) (h : List Int) (a : Int) : cntTo w h a a = 0 := by
  unfold cntTo
  rw [show (a - a).toNat = 0 by omega]; rfl
theorem cnt_end {w : List Bool} {h : List Int} {a n x : Int} (hx : daysTo a n x) (hge : ¬ x < a + n) : cntTo w h a x = (listF w h a n).length := by
  unfold cntTo listF
  obtain ⟨g1, g2⟩ := hx
  rw [show (x - a).toNat = n.toNat by omega]

theorem s_iter (a n : Int) (w : List Bool) (c : C.den) : IterC Try.prog G0 27 [.ip I a, .ip I n, .ipv (.fn 28 [.ia .bool w, .ip C c])] ⟨daysP w c.2.2 a n, I, listF w c.2.2 a n⟩ := by
  obtain ⟨z, w', h⟩ := c
  refine iter_of_ev (c := mkc K3) (A := daysA w h a n) KS3 KI0s hm ?_
  refine vc_iter2 z a n w w' h ⟨rfl, rfl, rfl, rfl, fun l ⟨hc, b1, b2, b3, b4⟩ => ?_⟩
  simp only [cnd_or, cnd_and, D.and, D.not, Bool.true_and, eq_self, true_and, and_true, imp_self, implies_true, Bool.not_true, Bool.not_false, Bool.false_or, Bool.or_false, Bool.or_self, Bool.and_self, Bool.and_true, Bool.false_and, Bool.not_eq_true', Bool.not_eq_false', Bool.false_eq_true, Bool.true_eq_false, reduceCtorEq, false_implies, forall_const, D.lt, D.gt, D.ge, D.le, D.sub, D.add, D.nlt, D.nat, D.len, D.ofN, D.nadd, decide_eq_true_eq, decide_eq_false_iff_not, decide_false, decide_true]
  refine ⟨⟨a, ⟨Int.le_refl _, .inr rfl⟩, rfl, (cnt_zero w h a).symm⟩, fun x hx => ?_⟩
  have hx1 := hx.1
  have hx2 := hx.2
  refine ⟨⟨by omega, by omega⟩, fun hlt => ⟨⟨hc, by omega, by omega⟩, fun hw => ?_, fun hw => ?_⟩, fun hge => cnt_end hx hge⟩
  · simp only [hw, cnd_or, cnd_and, D.and, D.not, Bool.true_and, eq_self, true_and, and_true, imp_self, implies_true, Bool.not_true, Bool.not_false, Bool.false_or, Bool.or_false, Bool.or_self, Bool.and_self, Bool.and_true, Bool.false_and, Bool.not_eq_true', Bool.not_eq_false', Bool.false_eq_true, Bool.true_eq_false, reduceCtorEq, false_implies, forall_const, D.lt, D.gt, D.ge, D.le, D.sub, D.add, D.nlt, D.nat, D.len, D.ofN, D.nadd, decide_eq_true_eq, decide_eq_false_iff_not, decide_false, decide_true]
    refine ⟨at_list hx1 hlt hw, fun b => ⟨fun e1 e2 => (by rw [e1] at e2; cases e2), fun hb => ⟨⟨by omega, by omega⟩, x + 1, ⟨by omega, .inl (by omega)⟩, ⟨rfl, ?_, hb⟩, by omega⟩⟩⟩
    rw [cnt_succ hx1, hw]; rfl
  · simp only [hw, cnd_or, cnd_and, D.and, D.not, Bool.true_and, eq_self, true_and, and_true, imp_self, implies_true, Bool.not_true, Bool.not_false, Bool.false_or, Bool.or_false, Bool.or_self, Bool.and_self, Bool.and_true, Bool.false_and, Bool.not_eq_true', Bool.not_eq_false', Bool.false_eq_true, Bool.true_eq_false, reduceCtorEq, false_implies, forall_const, D.lt, D.gt, D.ge, D.le, D.sub, D.add, D.nlt, D.nat, D.len, D.ofN, D.nadd, decide_eq_true_eq, decide_eq_false_iff_not, decide_false, decide_true]
    refine ⟨⟨by omega, by omega⟩, x + 1, ⟨by omega, .inl (by omega)⟩, ⟨rfl, ?_⟩, by omega⟩
    rw [cnt_succ hx1, hw]; rfl

theorem KI4s : KISound Try.prog G0 KI4 := by
  intro f caps c h
  unfold KI4 at h
  split at h
  · cases h; exact s_iter _ _ _ _
  · cases h

theorem okd {d : Int} (hd : inDays d = true) : -1000000 ≤ d ∧ d ≤ 1000000 := by
  unfold inDays at hd
  exact of_decide_eq_true hd

theorem s_next (z : Int) (w : List Bool) (h : List Int) (d : Int) : SoundC Try.prog G0 14 [cal z w h, .dat I d] [] ⟨argP z w h d, .tup [.dat I (nextD w h d), .dat I (nextE w h d)], []⟩ := by
  refine sound_of_ev (c := mkr K4 fun _ => false) KS4 KI4s hm (vc_next z w h d ⟨rfl, fun ⟨hv, hd⟩ => ?_⟩)
  have hc := calOk_of hv
  have hd' := okd hd
  simp only [hv, hd, cnd_or, cnd_and, D.and, D.not, Bool.true_and, eq_self, true_and, and_true, imp_self, implies_true, Bool.not_true, Bool.not_false, Bool.false_or, Bool.or_false, Bool.or_self, Bool.and_self, Bool.and_true, Bool.false_and, Bool.not_eq_true', Bool.not_eq_false', Bool.false_eq_true, Bool.true_eq_false, reduceCtorEq, false_implies, forall_const, D.lt, D.gt, D.ge, D.le, D.sub, D.add, D.nlt, D.nat, D.len, D.ofN, D.nadd, decide_eq_true_eq, decide_eq_false_iff_not, decide_false, decide_true]
  refine ⟨hc.1, ⟨hc, by omega, by omega, by omega, by omega⟩, ⟨0, rfl, rfl⟩, fun x y hx hy => ?_, fun x hx hl => ?_⟩
  · have hx : x = 0 := hx
    subst hx
    have : nextO w h d = some y := by
      have hy : (listF w h d 60)[0]? = some y := hy
      unfold nextO
      rw [List.head?_eq_getElem?]; exact hy
    simp [nextD, nextE, this]
  · have hx : x = 0 := hx
    subst hx
    have : nextO w h d = none := by
      unfold nextO
      rw [List.eq_nil_of_length_eq_zero hl.symm]; rfl
    simp [nextD, nextE, this]

theorem listF_mem {w : List Bool} {h : List Int} {a n y : Int} (hy : y ∈ listF w h a n) : a ≤ y ∧ y < a + n ∧ workF w h y = true := by
  unfold listF at hy
  obtain ⟨h1, h2⟩ := List.mem_filter.1 hy
  obtain ⟨i, hi, rfl⟩ := List.mem_map.1 h1
  have := List.mem_range.1 hi
  exact ⟨by omega, by omega, h2⟩

theorem s_add (z : Int) (w : List Bool) (h : List Int) (d n : Int) : SoundC Try.prog G0 16 [cal z w h, .dat I d, .dat I n] [] ⟨addP z w h d n, .tup [.dat I (addD w h d n), .dat I (addE w h d n)], []⟩ := by
  refine sound_of_ev (c := mkr K4 fun t => t == 4) KS4 KI4s hm (vc_add z w h d n ⟨rfl, fun ⟨hv, hd, n1, n2⟩ => ?_⟩)
  have hc := calOk_of hv
  have hd' := okd hd
  have a1 : ¬ n < 0 := by omega
  have a2 : ¬ n > 200 := by omega
  simp only [hv, hd, a1, a2, cnd_or, cnd_and, D.and, D.not, Bool.true_and, eq_self, true_and, and_true, imp_self, implies_true, Bool.not_true, Bool.not_false, Bool.false_or, Bool.or_false, Bool.or_self, Bool.and_self, Bool.and_true, Bool.false_and, Bool.not_eq_true', Bool.not_eq_false', Bool.false_eq_true, Bool.true_eq_false, reduceCtorEq, false_implies, forall_const, D.lt, D.gt, D.ge, D.le, D.sub, D.add, D.nlt, D.nat, D.len, D.ofN, D.nadd, decide_eq_true_eq, decide_eq_false_iff_not, decide_false, decide_true]
  refine ⟨⟨(0, d), ⟨Int.le_refl _, n1, by simp only [p2]; omega, by simp only [p1, p2]; omega, by simp only [p1, p2, Int.sub_zero]⟩, rfl, rfl⟩, fun x hx => ⟨fun hlt => ?_, fun hge => ?_⟩⟩
  · obtain ⟨i, e⟩ := x
    obtain ⟨i0, i1, i2, i3, i4⟩ := hx
    simp only [p1, p2] at i0 i1 i2 i3 i4 hlt ⊢
    have hsub : (n - i).toNat = (n - (i + 1)).toNat + 1 := by omega
    rw [hsub] at i4
    refine ⟨⟨by omega, by omega⟩, hc.1, ⟨hc, by omega, by omega, by omega, by omega⟩, ⟨0, rfl, rfl⟩, fun k y hk hy => ?_, fun k hk hl => ?_⟩
    · have hk : k = 0 := hk
      subst hk
      have hy : (listF w h (e + 1) 60)[0]? = some y := hy
      obtain ⟨m1, m2, m3⟩ := listF_mem (List.mem_of_getElem? hy)
      have hno : nextO w h (e + 1) = some y := by
        unfold nextO
        rw [List.head?_eq_getElem?]; exact hy
      refine ⟨⟨by omega, by omega⟩, (i + 1, y), ⟨by simp only [p1]; omega, by simp only [p1]; omega, by simp only [p2]; omega, by simp only [p1, p2]; omega, ?_⟩, ⟨rfl, rfl⟩, by simp only; omega⟩
      simp only [p1, p2]
      rw [← i4]
      simp only [addO, hno, Option.bind_some]
    · have hk : k = 0 := hk
      subst hk
      have hno : nextO w h (e + 1) = none := by
        unfold nextO
        rw [List.eq_nil_of_length_eq_zero hl.symm]; rfl
      have : addO w h n.toNat d = none := by
        rw [← i4]
        simp only [addO, hno, Option.bind_none]
      simp [addD, addE, this]
  · obtain ⟨i, e⟩ := x
    obtain ⟨i0, i1, i2, i3, i4⟩ := hx
    simp only [p1, p2] at i0 i1 i2 i3 i4 hge ⊢
    rw [show (n - i).toNat = 0 by omega] at i4
    have : addO w h n.toNat d = some e := by rw [← i4]; rfl
    simp [addD, addE, this]

theorem listF_len (w : List Bool) (h : List Int) (a n : Int) : (listF w h a n).length ≤ n.toNat := by
  unfold listF
  exact Nat.le_trans (List.length_filter_le _ _) (by simp)

theorem s_count (z : Int) (w : List Bool) (h : List Int) (a b : Int) : SoundC Try.prog G0 17 [cal z w h, .dat I a, .dat I b] [] ⟨countP z w h a b, .dat I (countF w h a b), []⟩ := by
  refine sound_of_ev (c := mkr K4 fun _ => false) KS4 KI4s hm (vc_count z w h a b ⟨rfl, fun ⟨hv, ha, hb⟩ => ?_⟩)
  have hc := calOk_of hv
  have ha' := okd ha
  have hb' := okd hb
  have hl := listF_len w h (a + 1) (b - a)
  simp only [hv, ha, hb, cnd_or, cnd_and, D.and, D.not, Bool.true_and, eq_self, true_and, and_true, imp_self, implies_true, Bool.not_true, Bool.not_false, Bool.false_or, Bool.or_false, Bool.or_self, Bool.and_self, Bool.and_true, Bool.false_and, Bool.not_eq_true', Bool.not_eq_false', Bool.false_eq_true, Bool.true_eq_false, reduceCtorEq, false_implies, forall_const, D.lt, D.gt, D.ge, D.le, D.sub, D.add, D.nlt, D.nat, D.len, D.ofN, D.nadd, decide_eq_true_eq, decide_eq_false_iff_not, decide_false, decide_true]
  refine ⟨⟨by omega, by omega⟩, fun hgt => (if_neg (by omega)).symm, fun hab => ⟨⟨by omega, by omega⟩, ⟨by omega, by omega⟩, hc.1, ⟨hc, by omega, by omega, by omega, by omega⟩, ⟨0, ⟨by omega, by omega⟩, rfl, rfl⟩, fun k y hk hy => ?_, fun k hk hlen => ?_⟩⟩
  · have hy : (listF w h (a + 1) (b - a))[k]? = some y := hy
    have := (List.getElem?_eq_some_iff.1 hy).1
    obtain ⟨k1, k2⟩ := hk
    refine ⟨⟨by omega, by omega⟩, k + 1, ⟨by omega, k2⟩, rfl, by omega⟩
  · rw [hlen]; exact (if_pos (by omega)).symm

end Go.Eng.Cal
