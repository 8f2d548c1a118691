/- PeCal1 -/
import Derived.Test.YtmofcccjepbhjaaW18
import Derived.Test.YtmofcccjepbhjaaChecked
set_option linter.unusedSimpArgs false
set_option linter.unusedVariables false
namespace Go.Eng.Cal
open Go.Proofs

abbrev I : Ty := .int .i64
abbrev B : Ty := .sl .bool
abbrev R : Ty := .sl I
abbrev C : Ty := .pair I (.pair B R)
abbrev cal (z : Int) (w : List Bool) (h : List Int) : AV := .agg [.dat I z, .dat B w, .dat R h]

noncomputable def remF (a b : Int) : Int := a % b
noncomputable def inDays (d : Int) : Bool := decide (-1000000 ≤ d ∧ d ≤ 1000000)
noncomputable def validF (z : Int) (w : List Bool) (h : List Int) : Bool := decide (-720 ≤ z ∧ z ≤ 840 ∧ w.length = 7 ∧ h.length ≤ 40) && (List.range (h.length - 1)).all fun i => decide (h.getD i 0 < h.getD (i + 1) 0)
noncomputable def smallF (w : List Bool) (h : List Int) : Bool := decide (w.length ≤ 20) && decide (h.length ≤ 60)
noncomputable def fineF (z : Int) (w : List Bool) (h : List Int) : Bool := smallF w h && validF z w h
noncomputable def incTo (h : List Int) (k : Int) : Prop := 1 ≤ k ∧ (k ≤ h.length ∨ k = 1) ∧ h.length ≤ 40 ∧ ∀ i : Nat, (i : Int) + 1 < k → h.getD i 0 < h.getD (i + 1) 0
noncomputable def okDay (d : Int) : Prop := -1000000000000 ≤ d ∧ d ≤ 1000000000000
noncomputable def okMod (b : Int) : Prop := 0 < b ∧ b ≤ 1000000
noncomputable def okLocal (z : Int) (w : List Bool) (h : List Int) (t : Int) : Prop := validF z w h = true ∧ -2000000000 ≤ t ∧ t ≤ 2000000000
noncomputable def okTime (z : Int) (w : List Bool) (h : List Int) (d m : Int) : Prop := validF z w h = true ∧ inDays d = true ∧ 0 ≤ m ∧ m < 1440
noncomputable def dayF (z t : Int) : Int := (t + z) / 1440
noncomputable def minF (z t : Int) : Int := (t + z) % 1440
noncomputable def timeF (z d m : Int) : Int := d * 1440 + m - z

noncomputable def K0 : Kt := fun f args m => none
noncomputable def G0 : List (Nat × AV) := []
noncomputable def KI0 : FuncId → List AV → Option IRes := fun _ _ => none
noncomputable def mkc (K : Kt) : Cfg := ⟨Try.prog, G0, K, fun _ => false, KI0, false⟩

noncomputable def validA (h : List Int) : Ann := ⟨fun id s => match id with
  | 4 => some { α := Int, inv := fun k => incTo h k, st := fun k => put s [(3, .dat I k)], μ := fun k => D.nat (D.sub (D.ilen h) k) }
  | _ => none, fun _ _ => none, fun _ _ => none⟩

theorem vc_rem (a b : Int) (hvc :
     true = true ∧ (okDay a ∧ okMod b → D.ine b (0 : Int) ∧ (D.lt (D.rem a b) (0 : Int) = true → inR IntKind.i64 (D.add (D.rem a b) b) ∧ D.add (D.rem a b)
    b = remF a b ∧ True) ∧ (D.lt (D.rem a b) (0 : Int) = false → D.rem a b = remF a b ∧ True))) :
    evF (mkc K0) noAnn 23 [.dat I a, .dat I b] [] ⟨okDay a ∧ okMod b, .dat I (remF a b), []⟩ := of_eq (by kernel_rfl) hvc

theorem vc_inRange (a : Int) (hvc :
     true = true ∧ (True → (D.ge a (-1000000 : Int) = true → D.ge a (-1000000 : Int) = true → D.ge a (-1000000 : Int) = true) ∧ (D.and true (D.ge a (-1000000
    : Int)) = true → D.ge a (-1000000 : Int) = true) ∧ D.cnd (D.ge a (-1000000 : Int)) (D.le a (1000000 : Int)) false = inDays a ∧ True)) :
    evF (mkc K0) noAnn 24 [.dat I a] [] ⟨True, .dat .bool (inDays a), []⟩ := of_eq (by kernel_rfl) hvc

theorem vc_valid (z : Int) (w : List Bool) (h : List Int) (hvc :
     true = true ∧ (True → (D.not (D.lt z (-720 : Int)) = true → D.not (D.lt z (-720 : Int)) = true → D.not (D.lt z (-720 : Int)) = true) ∧ (D.not (D.lt
    z (-720 : Int)) = true → D.not (D.lt z (-720 : Int)) = true → D.not (D.lt z (-720 : Int)) = true) ∧ (D.and true (D.not (D.lt z (-720 : Int))) = true → D.not
    (D.lt z (-720 : Int)) = true) ∧ (D.not (D.cnd (D.lt z (-720 : Int)) true (D.gt z (840 : Int))) = true → D.not (D.cnd (D.lt z (-720 : Int)) true (D.gt z (840 :
    Int))) = true → D.not (D.cnd (D.lt z (-720 : Int)) true (D.gt z (840 : Int))) = true) ∧ (D.not (D.cnd (D.lt z (-720 : Int)) true (D.gt z (840 : Int))) = true →
    D.not (D.cnd (D.lt z (-720 : Int)) true (D.gt z (840 : Int))) = true → D.not (D.cnd (D.lt z (-720 : Int)) true (D.gt z (840 : Int))) = true) ∧ (D.not (D.cnd
    (D.lt z (-720 : Int)) true (D.gt z (840 : Int))) = true → D.not (D.cnd (D.lt z (-720 : Int)) true (D.gt z (840 : Int))) = true → D.not (D.cnd (D.lt z (-720 :
    Int)) true (D.gt z (840 : Int))) = true) ∧ (D.and true (D.not (D.cnd (D.lt z (-720 : Int)) true (D.gt z (840 : Int)))) = true → D.not (D.cnd (D.lt z (-720 :
    Int)) true (D.gt z (840 : Int))) = true) ∧ (D.not (D.cnd (D.cnd (D.lt z (-720 : Int)) true (D.gt z (840 : Int))) true (D.ne (D.ilen w) (7 : Int))) = true →
    D.not (D.cnd (D.cnd (D.lt z (-720 : Int)) true (D.gt z (840 : Int))) true (D.ne (D.ilen w) (7 : Int))) = true → D.not (D.cnd (D.cnd (D.lt z (-720 : Int)) true
    (D.gt z (840 : Int))) true (D.ne (D.ilen w) (7 : Int))) = true) ∧ (D.not (D.cnd (D.cnd (D.lt z (-720 : Int)) true (D.gt z (840 : Int))) true (D.ne (D.ilen w) (7
    : Int))) = true → D.not (D.cnd (D.cnd (D.lt z (-720 : Int)) true (D.gt z (840 : Int))) true (D.ne (D.ilen w) (7 : Int))) = true → D.not (D.cnd (D.cnd (D.lt z
    (-720 : Int)) true (D.gt z (840 : Int))) true (D.ne (D.ilen w) (7 : Int))) = true) ∧ (D.not (D.cnd (D.cnd (D.lt z (-720 : Int)) true (D.gt z (840 : Int))) true
    (D.ne (D.ilen w) (7 : Int))) = true → D.not (D.cnd (D.cnd (D.lt z (-720 : Int)) true (D.gt z (840 : Int))) true (D.ne (D.ilen w) (7 : Int))) = true → D.not
    (D.cnd (D.cnd (D.lt z (-720 : Int)) true (D.gt z (840 : Int))) true (D.ne (D.ilen w) (7 : Int))) = true) ∧ (D.and true (D.not (D.cnd (D.cnd (D.lt z (-720 :
    Int)) true (D.gt z (840 : Int))) true (D.ne (D.ilen w) (7 : Int)))) = true → D.not (D.cnd (D.cnd (D.lt z (-720 : Int)) true (D.gt z (840 : Int))) true (D.ne
    (D.ilen w) (7 : Int))) = true) ∧ (D.cnd (D.cnd (D.cnd (D.lt z (-720 : Int)) true (D.gt z (840 : Int))) true (D.ne (D.ilen w) (7 : Int))) true (D.gt (D.ilen h)
    (40 : Int)) = true → false = validF z w h ∧ True) ∧ (D.cnd (D.cnd (D.cnd (D.lt z (-720 : Int)) true (D.gt z (840 : Int))) true (D.ne (D.ilen w) (7 : Int))) true
    (D.gt (D.ilen h) (40 : Int)) = false → (∃ x, incTo h x ∧ z = z ∧ w = w ∧ h = h ∧ (z, w, h) = (z, w, h) ∧ (1 : Int) = x ∧ (z, w, h) = (z, w, h) ∧ z = z ∧ D.lt z
    (-720 : Int) = D.lt z (-720 : Int) ∧ D.lt z (-720 : Int) = D.lt z (-720 : Int) ∧ D.cnd (D.lt z (-720 : Int)) true (D.gt z (840 : Int)) = D.cnd (D.lt z (-720 :
    Int)) true (D.gt z (840 : Int)) ∧ D.cnd (D.lt z (-720 : Int)) true (D.gt z (840 : Int)) = D.cnd (D.lt z (-720 : Int)) true (D.gt z (840 : Int)) ∧ D.cnd (D.cnd
    (D.lt z (-720 : Int)) true (D.gt z (840 : Int))) true (D.ne (D.ilen w) (7 : Int)) = D.cnd (D.cnd (D.lt z (-720 : Int)) true (D.gt z (840 : Int))) true (D.ne
    (D.ilen w) (7 : Int)) ∧ D.cnd (D.cnd (D.lt z (-720 : Int)) true (D.gt z (840 : Int))) true (D.ne (D.ilen w) (7 : Int)) = D.cnd (D.cnd (D.lt z (-720 : Int)) true
    (D.gt z (840 : Int))) true (D.ne (D.ilen w) (7 : Int)) ∧ D.cnd (D.cnd (D.cnd (D.lt z (-720 : Int)) true (D.gt z (840 : Int))) true (D.ne (D.ilen w) (7 : Int)))
    true (D.gt (D.ilen h) (40 : Int)) = D.cnd (D.cnd (D.cnd (D.lt z (-720 : Int)) true (D.gt z (840 : Int))) true (D.ne (D.ilen w) (7 : Int))) true (D.gt (D.ilen h)
    (40 : Int)) ∧ True) ∧ ∀ (x : Int), incTo h x → (D.lt x (D.ilen h) = true → D.ile (0 : Int) x ∧ D.ilt x (D.ilen h) ∧ inR IntKind.i64 (D.sub x (1 : Int)) ∧ D.ile
    (0 : Int) (D.sub x (1 : Int)) ∧ D.ilt (D.sub x (1 : Int)) (D.ilen h) ∧ (D.le (D.get h (D.nat x) (0 : Int)) (D.get h (D.nat (D.sub x (1 : Int))) (0 : Int)) =
    true → false = validF z w h ∧ True) ∧ (D.le (D.get h (D.nat x) (0 : Int)) (D.get h (D.nat (D.sub x (1 : Int))) (0 : Int)) = false → inR IntKind.i64 (D.add x (1
    : Int)) ∧ ∃ y, incTo h y ∧ (z = z ∧ w = w ∧ h = h ∧ (z, w, h) = (z, w, h) ∧ D.add x (1 : Int) = y ∧ (z, w, h) = (z, w, h) ∧ z = z ∧ D.lt z (-720 : Int) = D.lt z
    (-720 : Int) ∧ D.lt z (-720 : Int) = D.lt z (-720 : Int) ∧ D.cnd (D.lt z (-720 : Int)) true (D.gt z (840 : Int)) = D.cnd (D.lt z (-720 : Int)) true (D.gt z (840
    : Int)) ∧ D.cnd (D.lt z (-720 : Int)) true (D.gt z (840 : Int)) = D.cnd (D.lt z (-720 : Int)) true (D.gt z (840 : Int)) ∧ D.cnd (D.cnd (D.lt z (-720 : Int))
    true (D.gt z (840 : Int))) true (D.ne (D.ilen w) (7 : Int)) = D.cnd (D.cnd (D.lt z (-720 : Int)) true (D.gt z (840 : Int))) true (D.ne (D.ilen w) (7 : Int)) ∧
    D.cnd (D.cnd (D.lt z (-720 : Int)) true (D.gt z (840 : Int))) true (D.ne (D.ilen w) (7 : Int)) = D.cnd (D.cnd (D.lt z (-720 : Int)) true (D.gt z (840 : Int)))
    true (D.ne (D.ilen w) (7 : Int)) ∧ D.cnd (D.cnd (D.cnd (D.lt z (-720 : Int)) true (D.gt z (840 : Int))) true (D.ne (D.ilen w) (7 : Int))) true (D.gt (D.ilen h)
    (40 : Int)) = D.cnd (D.cnd (D.cnd (D.lt z (-720 : Int)) true (D.gt z (840 : Int))) true (D.ne (D.ilen w) (7 : Int))) true (D.gt (D.ilen h) (40 : Int)) ∧ True) ∧
    D.nlt (D.nat (D.sub (D.ilen h) y)) (D.nat (D.sub (D.ilen h) x)))) ∧ (D.lt x (D.ilen h) = false → true = validF z w h ∧ True)))) :
    evF (mkc K0) (validA h) 20 [cal z w h] [] ⟨True, .dat .bool (validF z w h), []⟩ := of_eq (by kernel_rfl) hvc

theorem vc_rvalid (z : Int) (w : List Bool) (h : List Int) (hvc :
     true = true ∧ (True → (D.not (D.lt z (-720 : Int)) = true → D.not (D.lt z (-720 : Int)) = true → D.not (D.lt z (-720 : Int)) = true) ∧ (D.not (D.lt
    z (-720 : Int)) = true → D.not (D.lt z (-720 : Int)) = true → D.not (D.lt z (-720 : Int)) = true) ∧ (D.and true (D.not (D.lt z (-720 : Int))) = true → D.not
    (D.lt z (-720 : Int)) = true) ∧ (D.not (D.cnd (D.lt z (-720 : Int)) true (D.gt z (840 : Int))) = true → D.not (D.cnd (D.lt z (-720 : Int)) true (D.gt z (840 :
    Int))) = true → D.not (D.cnd (D.lt z (-720 : Int)) true (D.gt z (840 : Int))) = true) ∧ (D.not (D.cnd (D.lt z (-720 : Int)) true (D.gt z (840 : Int))) = true →
    D.not (D.cnd (D.lt z (-720 : Int)) true (D.gt z (840 : Int))) = true → D.not (D.cnd (D.lt z (-720 : Int)) true (D.gt z (840 : Int))) = true) ∧ (D.not (D.cnd
    (D.lt z (-720 : Int)) true (D.gt z (840 : Int))) = true → D.not (D.cnd (D.lt z (-720 : Int)) true (D.gt z (840 : Int))) = true → D.not (D.cnd (D.lt z (-720 :
    Int)) true (D.gt z (840 : Int))) = true) ∧ (D.and true (D.not (D.cnd (D.lt z (-720 : Int)) true (D.gt z (840 : Int)))) = true → D.not (D.cnd (D.lt z (-720 :
    Int)) true (D.gt z (840 : Int))) = true) ∧ (D.not (D.cnd (D.cnd (D.lt z (-720 : Int)) true (D.gt z (840 : Int))) true (D.ne (D.ilen w) (7 : Int))) = true →
    D.not (D.cnd (D.cnd (D.lt z (-720 : Int)) true (D.gt z (840 : Int))) true (D.ne (D.ilen w) (7 : Int))) = true → D.not (D.cnd (D.cnd (D.lt z (-720 : Int)) true
    (D.gt z (840 : Int))) true (D.ne (D.ilen w) (7 : Int))) = true) ∧ (D.not (D.cnd (D.cnd (D.lt z (-720 : Int)) true (D.gt z (840 : Int))) true (D.ne (D.ilen w) (7
    : Int))) = true → D.not (D.cnd (D.cnd (D.lt z (-720 : Int)) true (D.gt z (840 : Int))) true (D.ne (D.ilen w) (7 : Int))) = true → D.not (D.cnd (D.cnd (D.lt z
    (-720 : Int)) true (D.gt z (840 : Int))) true (D.ne (D.ilen w) (7 : Int))) = true) ∧ (D.not (D.cnd (D.cnd (D.lt z (-720 : Int)) true (D.gt z (840 : Int))) true
    (D.ne (D.ilen w) (7 : Int))) = true → D.not (D.cnd (D.cnd (D.lt z (-720 : Int)) true (D.gt z (840 : Int))) true (D.ne (D.ilen w) (7 : Int))) = true → D.not
    (D.cnd (D.cnd (D.lt z (-720 : Int)) true (D.gt z (840 : Int))) true (D.ne (D.ilen w) (7 : Int))) = true) ∧ (D.and true (D.not (D.cnd (D.cnd (D.lt z (-720 :
    Int)) true (D.gt z (840 : Int))) true (D.ne (D.ilen w) (7 : Int)))) = true → D.not (D.cnd (D.cnd (D.lt z (-720 : Int)) true (D.gt z (840 : Int))) true (D.ne
    (D.ilen w) (7 : Int))) = true) ∧ (D.cnd (D.cnd (D.cnd (D.lt z (-720 : Int)) true (D.gt z (840 : Int))) true (D.ne (D.ilen w) (7 : Int))) true (D.gt (D.ilen h)
    (40 : Int)) = true → false = validF z w h ∧ True) ∧ (D.cnd (D.cnd (D.cnd (D.lt z (-720 : Int)) true (D.gt z (840 : Int))) true (D.ne (D.ilen w) (7 : Int))) true
    (D.gt (D.ilen h) (40 : Int)) = false → (∃ x, incTo h x ∧ z = z ∧ w = w ∧ h = h ∧ (z, w, h) = (z, w, h) ∧ (1 : Int) = x ∧ (z, w, h) = (z, w, h) ∧ z = z ∧ D.lt z
    (-720 : Int) = D.lt z (-720 : Int) ∧ D.lt z (-720 : Int) = D.lt z (-720 : Int) ∧ D.cnd (D.lt z (-720 : Int)) true (D.gt z (840 : Int)) = D.cnd (D.lt z (-720 :
    Int)) true (D.gt z (840 : Int)) ∧ D.cnd (D.lt z (-720 : Int)) true (D.gt z (840 : Int)) = D.cnd (D.lt z (-720 : Int)) true (D.gt z (840 : Int)) ∧ D.cnd (D.cnd
    (D.lt z (-720 : Int)) true (D.gt z (840 : Int))) true (D.ne (D.ilen w) (7 : Int)) = D.cnd (D.cnd (D.lt z (-720 : Int)) true (D.gt z (840 : Int))) true (D.ne
    (D.ilen w) (7 : Int)) ∧ D.cnd (D.cnd (D.lt z (-720 : Int)) true (D.gt z (840 : Int))) true (D.ne (D.ilen w) (7 : Int)) = D.cnd (D.cnd (D.lt z (-720 : Int)) true
    (D.gt z (840 : Int))) true (D.ne (D.ilen w) (7 : Int)) ∧ D.cnd (D.cnd (D.cnd (D.lt z (-720 : Int)) true (D.gt z (840 : Int))) true (D.ne (D.ilen w) (7 : Int)))
    true (D.gt (D.ilen h) (40 : Int)) = D.cnd (D.cnd (D.cnd (D.lt z (-720 : Int)) true (D.gt z (840 : Int))) true (D.ne (D.ilen w) (7 : Int))) true (D.gt (D.ilen h)
    (40 : Int)) ∧ True) ∧ ∀ (x : Int), incTo h x → (D.lt x (D.ilen h) = true → inR IntKind.i64 (D.sub x (1 : Int)) ∧ D.ile (0 : Int) (D.sub x (1 : Int)) ∧ D.ilt
    (D.sub x (1 : Int)) (D.ilen h) ∧ D.ile (0 : Int) x ∧ D.ilt x (D.ilen h) ∧ (D.ge (D.get h (D.nat (D.sub x (1 : Int))) (0 : Int)) (D.get h (D.nat x) (0 : Int)) =
    true → false = validF z w h ∧ True) ∧ (D.ge (D.get h (D.nat (D.sub x (1 : Int))) (0 : Int)) (D.get h (D.nat x) (0 : Int)) = false → inR IntKind.i64 (D.add x (1
    : Int)) ∧ ∃ y, incTo h y ∧ (z = z ∧ w = w ∧ h = h ∧ (z, w, h) = (z, w, h) ∧ D.add x (1 : Int) = y ∧ (z, w, h) = (z, w, h) ∧ z = z ∧ D.lt z (-720 : Int) = D.lt z
    (-720 : Int) ∧ D.lt z (-720 : Int) = D.lt z (-720 : Int) ∧ D.cnd (D.lt z (-720 : Int)) true (D.gt z (840 : Int)) = D.cnd (D.lt z (-720 : Int)) true (D.gt z (840
    : Int)) ∧ D.cnd (D.lt z (-720 : Int)) true (D.gt z (840 : Int)) = D.cnd (D.lt z (-720 : Int)) true (D.gt z (840 : Int)) ∧ D.cnd (D.cnd (D.lt z (-720 : Int))
    true (D.gt z (840 : Int))) true (D.ne (D.ilen w) (7 : Int)) = D.cnd (D.cnd (D.lt z (-720 : Int)) true (D.gt z (840 : Int))) true (D.ne (D.ilen w) (7 : Int)) ∧
    D.cnd (D.cnd (D.lt z (-720 : Int)) true (D.gt z (840 : Int))) true (D.ne (D.ilen w) (7 : Int)) = D.cnd (D.cnd (D.lt z (-720 : Int)) true (D.gt z (840 : Int)))
    true (D.ne (D.ilen w) (7 : Int)) ∧ D.cnd (D.cnd (D.cnd (D.lt z (-720 : Int)) true (D.gt z (840 : Int))) true (D.ne (D.ilen w) (7 : Int))) true (D.gt (D.ilen h)
    (40 : Int)) = D.cnd (D.cnd (D.cnd (D.lt z (-720 : Int)) true (D.gt z (840 : Int))) true (D.ne (D.ilen w) (7 : Int))) true (D.gt (D.ilen h) (40 : Int)) ∧ True) ∧
    D.nlt (D.nat (D.sub (D.ilen h) y)) (D.nat (D.sub (D.ilen h) x)))) ∧ (D.lt x (D.ilen h) = false → true = validF z w h ∧ True)))) :
    evF (mkc K0) (validA h) 22 [cal z w h] [] ⟨True, .dat .bool (validF z w h), []⟩ := of_eq (by kernel_rfl) hvc

theorem vc_small (z : Int) (w : List Bool) (h : List Int) (hvc :
     true = true ∧ (True → (D.le (D.ilen w) (20 : Int) = true → D.le (D.ilen w) (20 : Int) = true → D.le (D.ilen w) (20 : Int) = true) ∧ (D.le (D.ilen w)
    (20 : Int) = true → D.le (D.ilen w) (20 : Int) = true → D.le (D.ilen w) (20 : Int) = true) ∧ (D.le (D.ilen w) (20 : Int) = true → D.le (D.ilen w) (20 : Int) =
    true → D.le (D.ilen w) (20 : Int) = true) ∧ (D.and true (D.le (D.ilen w) (20 : Int)) = true → D.le (D.ilen w) (20 : Int) = true) ∧ D.cnd (D.le (D.ilen w) (20 :
    Int)) (D.le (D.ilen h) (60 : Int)) false = smallF w h ∧ True)) :
    evF (mkc K0) noAnn 21 [cal z w h] [] ⟨True, .dat .bool (smallF w h), []⟩ := of_eq (by kernel_rfl) hvc


noncomputable def K1 : Kt := fun f args m => match f, args, m with
  | 23, [.dat (.int .i64) a, .dat (.int .i64) b], [] => some ⟨okDay a ∧ okMod b, .dat I (remF a b), []⟩
  | 24, [.dat (.int .i64) a], [] => some ⟨True, .dat .bool (inDays a), []⟩
  | 20, [.agg [.dat (.int .i64) z, .dat (.sl .bool) w, .dat (.sl (.int .i64)) h]], [] => some ⟨True, .dat .bool (validF z w h), []⟩
  | 22, [.agg [.dat (.int .i64) z, .dat (.sl .bool) w, .dat (.sl (.int .i64)) h]], [] => some ⟨True, .dat .bool (validF z w h), []⟩
  | 21, [.agg [.dat (.int .i64) z, .dat (.sl .bool) w, .dat (.sl (.int .i64)) h]], [] => some ⟨True, .dat .bool (smallF w h), []⟩
  | _, _, _ => none

theorem vc_fine (z : Int) (w : List Bool) (h : List Int) (hvc :
     true = true ∧ (True → True ∧ (smallF w h = true → smallF w h = true → smallF w h = true) ∧ (smallF w h = true → True) ∧ (D.and true (smallF w h) =
    true → smallF w h = true) ∧ D.cnd (smallF w h) (validF z w h) false = fineF z w h ∧ True)) :
    evF (mkc K1) noAnn 11 [cal z w h] [] ⟨True, .dat .bool (fineF z w h), []⟩ := of_eq (by kernel_rfl) hvc

theorem vc_local (z : Int) (w : List Bool) (h : List Int) (t : Int) (hvc :
     true = true ∧ (okLocal z w h t → True ∧ (D.not (D.not (validF z w h)) = true → D.not (D.not (validF z w h)) = true → D.not (D.not (validF z w h))
    = true) ∧ (D.and true (D.not (D.not (validF z w h))) = true → D.not (D.not (validF z w h)) = true) ∧ (D.not (D.cnd (D.not (validF z w h)) true (D.lt t
    (-2000000000 : Int))) = true → D.not (D.cnd (D.not (validF z w h)) true (D.lt t (-2000000000 : Int))) = true → D.not (D.cnd (D.not (validF z w h)) true (D.lt t
    (-2000000000 : Int))) = true) ∧ (D.and true (D.not (D.cnd (D.not (validF z w h)) true (D.lt t (-2000000000 : Int)))) = true → D.not (D.cnd (D.not (validF z w
    h)) true (D.lt t (-2000000000 : Int))) = true) ∧ (D.cnd (D.cnd (D.not (validF z w h)) true (D.lt t (-2000000000 : Int))) true (D.gt t (2000000000 : Int)) = true
    → (0 : Int) = dayF z t ∧ (0 : Int) = minF z t ∧ True) ∧ (D.cnd (D.cnd (D.not (validF z w h)) true (D.lt t (-2000000000 : Int))) true (D.gt t (2000000000 : Int))
    = false → inR IntKind.i64 (D.add t z) ∧ (okDay (D.add t z) ∧ okMod (1440 : Int)) ∧ inR IntKind.i64 (D.sub (D.add t z) (remF (D.add t z) (1440 : Int))) ∧ D.ine
    (1440 : Int) (0 : Int) ∧ inR IntKind.i64 (D.quo (D.sub (D.add t z) (remF (D.add t z) (1440 : Int))) (1440 : Int)) ∧ D.quo (D.sub (D.add t z) (remF (D.add t z)
    (1440 : Int))) (1440 : Int) = dayF z t ∧ remF (D.add t z) (1440 : Int) = minF z t ∧ True))) :
    evF (mkc K1) noAnn 12 [cal z w h, .dat I t] [] ⟨okLocal z w h t, .tup [.dat I (dayF z t), .dat I (minF z t)], []⟩ := of_eq (by kernel_rfl) hvc

theorem vc_time (z : Int) (w : List Bool) (h : List Int) (d m : Int) (hvc :
     true = true ∧ (okTime z w h d m → True ∧ (D.not (D.not (validF z w h)) = true → D.not (D.not (validF z w h)) = true → D.not (D.not (validF z w
    h)) = true) ∧ (D.not (D.not (validF z w h)) = true → True) ∧ (D.not (D.not (validF z w h)) = true → D.not (D.not (validF z w h)) = true → D.not (D.not (validF z
    w h)) = true) ∧ (D.and true (D.not (D.not (validF z w h))) = true → D.not (D.not (validF z w h)) = true) ∧ (D.not (D.cnd (D.not (validF z w h)) true (D.not
    (inDays d))) = true → D.not (D.cnd (D.not (validF z w h)) true (D.not (inDays d))) = true → D.not (D.cnd (D.not (validF z w h)) true (D.not (inDays d))) = true)
    ∧ (D.and true (D.not (D.cnd (D.not (validF z w h)) true (D.not (inDays d)))) = true → D.not (D.cnd (D.not (validF z w h)) true (D.not (inDays d))) = true) ∧
    (D.not (D.cnd (D.cnd (D.not (validF z w h)) true (D.not (inDays d))) true (D.lt m (0 : Int))) = true → D.not (D.cnd (D.cnd (D.not (validF z w h)) true (D.not
    (inDays d))) true (D.lt m (0 : Int))) = true → D.not (D.cnd (D.cnd (D.not (validF z w h)) true (D.not (inDays d))) true (D.lt m (0 : Int))) = true) ∧ (D.and
    true (D.not (D.cnd (D.cnd (D.not (validF z w h)) true (D.not (inDays d))) true (D.lt m (0 : Int)))) = true → D.not (D.cnd (D.cnd (D.not (validF z w h)) true
    (D.not (inDays d))) true (D.lt m (0 : Int))) = true) ∧ (D.cnd (D.cnd (D.cnd (D.not (validF z w h)) true (D.not (inDays d))) true (D.lt m (0 : Int))) true (D.ge
    m (1440 : Int)) = true → (0 : Int) = timeF z d m ∧ True) ∧ (D.cnd (D.cnd (D.cnd (D.not (validF z w h)) true (D.not (inDays d))) true (D.lt m (0 : Int))) true
    (D.ge m (1440 : Int)) = false → inR IntKind.i64 (D.mul d (1440 : Int)) ∧ inR IntKind.i64 (D.add (D.mul d (1440 : Int)) m) ∧ inR IntKind.i64 (D.sub (D.add (D.mul
    d (1440 : Int)) m) z) ∧ D.sub (D.add (D.mul d (1440 : Int)) m) z = timeF z d m ∧ True))) :
    evF (mkc K1) noAnn 13 [cal z w h, .dat I d, .dat I m] [] ⟨okTime z w h d m, .dat I (timeF z d m), []⟩ := of_eq (by kernel_rfl) hvc


theorem cnd_or (x y : Bool) : D.cnd x true y = (x || y) := by cases x <;> rfl
theorem cnd_and (x y : Bool) : D.cnd x y false = (x && y) := by cases x <;> rfl
theorem hm : Try.prog.follows .mixedOrders = true := by kernel_rfl
theorem KS0 : KSound Try.prog G0 K0 := fun f args m c h => by cases h
theorem KI0s : KISound Try.prog G0 KI0 := fun f args c h => by cases h

noncomputable def ValidP (z : Int) (w : List Bool) (h : List Int) : Prop := (-720 ≤ z ∧ z ≤ 840 ∧ w.length = 7 ∧ h.length ≤ 40) ∧ ∀ i : Nat, i + 1 < h.length → h.getD i 0 < h.getD (i + 1) 0
theorem validF_iff {z : Int} {w : List Bool} {h : List Int} : validF z w h = true ↔ ValidP z w h := by
  unfold validF ValidP
  rw [Bool.and_eq_true, decide_eq_true_eq, List.all_eq_true]
  refine and_congr_right fun _ => ⟨fun g i hi => ?_, fun g i hi => ?_⟩
  · have := g i (List.mem_range.2 (by omega))
    simpa using this
  · have := List.mem_range.1 hi
    simpa using g i (by omega)
theorem validF_not {z : Int} {w : List Bool} {h : List Int} (hn : ¬ ValidP z w h) : false = validF z w h := by
  cases hv : validF z w h with
  | false => rfl
  | true => exact (hn (validF_iff.1 hv)).elim

theorem s_rem (a b : Int) : SoundC Try.prog G0 23 [.dat I a, .dat I b] [] ⟨okDay a ∧ okMod b, .dat I (remF a b), []⟩ := by
  refine sound_of_ev (c := mkc K0) KS0 KI0s hm (vc_rem a b ⟨rfl, fun ⟨⟨h1, h2⟩, h3, h4⟩ => ?_⟩)
  have e := Int.tmod_eq_emod (a := a) (b := b)
  have e1 := Int.emod_nonneg a (show b ≠ 0 by omega)
  have e2 := Int.emod_lt_of_pos a h3
  have e3 : (b.natAbs : Int) = b := Int.natAbs_of_nonneg (by omega)
  simp only [D.ine, D.lt, D.rem, D.add, remF, inR, decide_eq_true_eq, decide_eq_false_iff_not]
  by_cases hc : 0 ≤ a ∨ b ∣ a
  · rw [if_pos hc] at e
    refine ⟨by omega, fun h => by omega, fun h => ⟨by omega, trivial⟩⟩
  · rw [if_neg hc, e3] at e
    have hz : a % b ≠ 0 := fun h0 => hc (.inr (Int.dvd_of_emod_eq_zero h0))
    refine ⟨by omega, fun h => ⟨by omega, by omega, trivial⟩, fun h => by omega⟩

theorem s_inRange (a : Int) : SoundC Try.prog G0 24 [.dat I a] [] ⟨True, .dat .bool (inDays a), []⟩ := by
  refine sound_of_ev (c := mkc K0) KS0 KI0s hm (vc_inRange a ⟨rfl, fun _ => ⟨fun h _ => h, fun h => by simpa [D.and] using h, ?_, trivial⟩⟩)
  rw [cnd_and]; simp [inDays, D.ge, D.le]

theorem incTo_one {h : List Int} (hl : ¬ (h.length : Int) > 40) : incTo h 1 := ⟨Int.le_refl _, .inr rfl, by omega, fun i hi => by omega⟩
theorem incTo_next {h : List Int} {x : Int} (hx : incTo h x) (hlt : x < h.length) (hn : h.getD (x - 1).toNat 0 < h.getD x.toNat 0) : incTo h (x + 1) := by
  obtain ⟨g1, g2, g3, g4⟩ := hx
  refine ⟨by omega, by omega, g3, fun i hi => ?_⟩
  by_cases e : (i : Int) + 1 < x
  · exact g4 i e
  · have e1 : (x - 1).toNat = i := by omega
    have e2 : x.toNat = i + 1 := by omega
    rwa [e1, e2] at hn
theorem incTo_not {z : Int} {w : List Bool} {h : List Int} {x : Int} (hx : incTo h x) (hlt : x < h.length) (hn : h.getD x.toNat 0 ≤ h.getD (x - 1).toNat 0) : false = validF z w h := by
  refine validF_not fun hv => ?_
  have := hx.1
  have := hv.2 (x - 1).toNat (by omega)
  rw [show (x - 1).toNat + 1 = x.toNat by omega] at this
  omega
theorem incTo_end {z : Int} {w : List Bool} {h : List Int} {x : Int} (hx : incTo h x) (hge : ¬ x < h.length) (h1 : -720 ≤ z) (h2 : z ≤ 840) (h3 : w.length = 7) : true = validF z w h :=
  (validF_iff.2 ⟨⟨h1, h2, h3, by have := hx.2.2.1; omega⟩, fun i hi => hx.2.2.2 i (by omega)⟩).symm

theorem s_valid (z : Int) (w : List Bool) (h : List Int) : SoundC Try.prog G0 20 [cal z w h] [] ⟨True, .dat .bool (validF z w h), []⟩ := by
  refine sound_of_ev (c := mkc K0) KS0 KI0s hm (vc_valid z w h ⟨rfl, fun _ => ?_⟩)
  simp only [cnd_or, cnd_and, D.and, D.not, Bool.true_and, eq_self, true_and, and_true, imp_self, implies_true, Bool.not_eq_true', Bool.or_eq_true, Bool.or_eq_false_iff, Bool.not_eq_false', Bool.and_eq_true, D.lt, D.gt, D.le, D.ge, D.ne, D.ilen, D.ile, D.ilt, D.sub, D.add, D.nlt, D.nat, D.get, decide_eq_true_eq, decide_eq_false_iff_not, bne_eq_false_iff_eq, bne_iff_ne, exists_eq_right, exists_eq_right']
  refine ⟨fun hb => validF_not fun hv => ?_, fun ⟨⟨⟨h1, h2⟩, h3⟩, h4⟩ => ⟨incTo_one h4, fun x hx => ⟨fun hlt => ?_, fun hge => incTo_end hx hge (by omega) (by omega) (by omega)⟩⟩⟩
  · obtain ⟨⟨g1, g2, g3, g4⟩, _⟩ := hv
    omega
  · have hx1 := hx.1
    have hx3 := hx.2.2.1
    refine ⟨by omega, hlt, ⟨by omega, by omega⟩, by omega, by omega, fun hle => incTo_not hx hlt hle, fun hn => ⟨⟨by omega, by omega⟩, x + 1, incTo_next hx hlt (by omega), rfl, by omega⟩⟩
theorem s_rvalid (z : Int) (w : List Bool) (h : List Int) : SoundC Try.prog G0 22 [cal z w h] [] ⟨True, .dat .bool (validF z w h), []⟩ := by
  refine sound_of_ev (c := mkc K0) KS0 KI0s hm (vc_rvalid z w h ⟨rfl, fun _ => ?_⟩)
  simp only [cnd_or, cnd_and, D.and, D.not, Bool.true_and, eq_self, true_and, and_true, imp_self, implies_true, Bool.not_eq_true', Bool.or_eq_true, Bool.or_eq_false_iff, Bool.not_eq_false', Bool.and_eq_true, D.lt, D.gt, D.le, D.ge, D.ne, D.ilen, D.ile, D.ilt, D.sub, D.add, D.nlt, D.nat, D.get, decide_eq_true_eq, decide_eq_false_iff_not, bne_eq_false_iff_eq, bne_iff_ne, exists_eq_right, exists_eq_right']
  refine ⟨fun hb => validF_not fun hv => ?_, fun ⟨⟨⟨h1, h2⟩, h3⟩, h4⟩ => ⟨incTo_one h4, fun x hx => ⟨fun hlt => ?_, fun hge => incTo_end hx hge (by omega) (by omega) (by omega)⟩⟩⟩
  · obtain ⟨⟨g1, g2, g3, g4⟩, _⟩ := hv
    omega
  · have hx1 := hx.1
    have hx3 := hx.2.2.1
    refine ⟨⟨by omega, by omega⟩, by omega, by omega, by omega, hlt, fun hle => incTo_not hx hlt hle, fun hn => ⟨⟨by omega, by omega⟩, x + 1, incTo_next hx hlt (by omega), rfl, by omega⟩⟩
theorem s_small (z : Int) (w : List Bool) (h : List Int) : SoundC Try.prog G0 21 [cal z w h] [] ⟨True, .dat .bool (smallF w h), []⟩ := by
  refine sound_of_ev (c := mkc K0) KS0 KI0s hm (vc_small z w h ⟨rfl, fun _ => ?_⟩)
  simp only [cnd_or, cnd_and, D.and, Bool.true_and, eq_self, true_and, and_true, imp_self, implies_true, smallF, D.le, D.ilen]
  congr 1 <;> congr 1 <;> exact propext (by omega)

theorem KS1 : KSound Try.prog G0 K1 := by
  intro f args m c h
  unfold K1 at h
  split at h
  · cases h; exact s_rem _ _
  · cases h; exact s_inRange _
  · cases h; exact s_valid _ _ _
  · cases h; exact s_rvalid _ _ _
  · cases h; exact s_small _ _ _
  · cases h

theorem s_fine (z : Int) (w : List Bool) (h : List Int) : SoundC Try.prog G0 11 [cal z w h] [] ⟨True, .dat .bool (fineF z w h), []⟩ := by
  refine sound_of_ev (c := mkc K1) KS1 KI0s hm (vc_fine z w h ⟨rfl, fun _ => ⟨trivial, fun h _ => h, fun _ => trivial, fun h => by simpa [D.and] using h, ?_, trivial⟩⟩)
  rw [cnd_and]; rfl
theorem s_local (z : Int) (w : List Bool) (h : List Int) (t : Int) : SoundC Try.prog G0 12 [cal z w h, .dat I t] [] ⟨okLocal z w h t, .tup [.dat I (dayF z t), .dat I (minF z t)], []⟩ := by
  refine sound_of_ev (c := mkc K1) KS1 KI0s hm (vc_local z w h t ⟨rfl, fun ⟨hv, h1, h2⟩ => ?_⟩)
  obtain ⟨⟨v1, v2, v3, v4⟩, _⟩ := validF_iff.1 hv
  have a1 : ¬ t < -2000000000 := by omega
  have a2 : ¬ t > 2000000000 := by omega
  simp only [hv, a1, a2, cnd_or, cnd_and, D.and, D.not, Bool.true_and, eq_self, true_and, and_true, imp_self, implies_true, Bool.not_true, Bool.false_or, Bool.not_false, D.lt, D.gt, decide_false, Bool.not_eq_true', Bool.false_eq_true, Bool.false_and, Bool.and_true, Bool.or_false, Bool.and_self, Bool.or_self, false_implies, forall_const, D.ine, D.sub, D.add, D.quo, inR, remF, dayF, minF, okDay, okMod]
  have e0 := Int.emod_nonneg (t + z) (show (1440 : Int) ≠ 0 by omega)
  have e1 := Int.emod_lt_of_pos (t + z) (show (0 : Int) < 1440 by omega)
  have e3 : t + z - (t + z) % 1440 = 1440 * ((t + z) / 1440) := by omega
  rw [e3, Int.mul_tdiv_cancel_left _ (by omega)]
  omega
theorem s_time (z : Int) (w : List Bool) (h : List Int) (d m : Int) : SoundC Try.prog G0 13 [cal z w h, .dat I d, .dat I m] [] ⟨okTime z w h d m, .dat I (timeF z d m), []⟩ := by
  refine sound_of_ev (c := mkc K1) KS1 KI0s hm (vc_time z w h d m ⟨rfl, fun ⟨hv, hd, h1, h2⟩ => ?_⟩)
  obtain ⟨⟨v1, v2, v3, v4⟩, _⟩ := validF_iff.1 hv
  have a1 : ¬ m < 0 := by omega
  have a2 : ¬ m ≥ 1440 := by omega
  simp only [hv, hd, a1, a2, cnd_or, cnd_and, D.and, D.not, Bool.true_and, eq_self, true_and, and_true, imp_self, implies_true, Bool.not_true, Bool.false_or, Bool.not_false, D.lt, D.ge, decide_false, Bool.not_eq_true', Bool.false_eq_true, Bool.false_and, Bool.and_true, Bool.or_false, Bool.and_self, Bool.or_self, false_implies, forall_const, D.sub, D.add, D.mul, inR, timeF]
  unfold inDays at hd
  have := of_decide_eq_true hd
  omega

end Go.Eng.Cal
