/- PeTt1t -/
import Derived.Test.YtgphkkpblecfgabGreatDoorY22
import Derived.Test.YtgphkkpblecfgabGreatDoorSvSt
set_option linter.unusedSimpArgs false
set_option linter.unusedVariables false
set_option maxRecDepth 100000
noncomputable section
namespace Go.Eng.Sv
open Go.Proofs
def remF (a b : Int) : Int := a % b
def inDays (d : Int) : Bool := decide (-1000000 ≤ d ∧ d ≤ 1000000)
def okDay (d : Int) : Prop := -1000000000000 ≤ d ∧ d ≤ 1000000000000
def okMod (b : Int) : Prop := 0 < b ∧ b ≤ 1000000
def okLocal (z : Int) (w : List Bool) (h : List Int) (t : Int) : Prop := validF z w h = true ∧ -2000000000 ≤ t ∧ t ≤ 2000000000
def okTime (z : Int) (w : List Bool) (h : List Int) (d m : Int) : Prop := validF z w h = true ∧ inDays d = true ∧ 0 ≤ m ∧ m < 1440
def dayF (z t : Int) : Int := (t + z) / 1440
def minF (z t : Int) : Int := (t + z) % 1440
def timeF (z d m : Int) : Int := d * 1440 + m - z
theorem vc_rem (a b : Int) (hvc :
 let c1 := D.lt (D.rem a b) (0 : Int);
 let c2 := D.add (D.rem a b) b; true = true ∧ (okDay a ∧ okMod b → D.ine b (0 : Int) ∧ (c1 = true → inR IntKind.i64 c2 ∧ c2 = remF a b ∧ True) ∧ (c1 = false →
  D.rem a b = remF a b ∧ True))) :
    evF (mkc K19) noAnn 124 [.dat I a, .dat I b] [] ⟨okDay a ∧ okMod b, .dat I (remF a b), []⟩ := of_eq (by kernel_rfl) hvc
theorem vc_inRange (a : Int) (hvc :
 let c1 := D.ge a (-1000000 : Int); true = true ∧ (True → (c1 = true → c1 = true → c1 = true) ∧ (D.and true c1 = true → c1 = true) ∧ D.cnd c1 (D.le a (1000000 :
  Int)) false = inDays a ∧ True)) :
    evF (mkc K19) noAnn 125 [.dat I a] [] ⟨True, .dat .bool (inDays a), []⟩ := of_eq (by kernel_rfl) hvc
def KT1 : Kt := kOr 124 (dataK [.val I, .val I] (fun (a, b, _) => okDay a ∧ okMod b) fun (a, b, _) => .dat I (remF a b)) <|
  kOr 125 (dataK [.val I] (fun _ => True) fun (a, _) => .dat .bool (inDays a)) K19
theorem vc_local (z : Int) (w : List Bool) (h : List Int) (t : Int) (hvc :
 let c1 := D.not (validF z w h);
 let c2 := D.not c1;
 let c3 := D.cnd c1 true (D.lt t (-2000000000 : Int));
 let c4 := D.not c3;
 let c5 := D.cnd c3 true (D.gt t (2000000000 : Int));
 let c6 := remF (D.add t z) (1440 : Int);
 let c7 := D.sub (D.add t z) c6;
 let c8 := D.quo c7 (1440 : Int); true = true ∧ (okLocal z w h t → True ∧ (c2 = true → c2 = true → c2 = true) ∧ (D.and true c2 = true → c2 = true) ∧ (c4 = true →
  c4 = true → c4 = true) ∧ (D.and true c4 = true → c4 = true) ∧ (c5 = true → (0 : Int) = dayF z t ∧ (0 : Int) = minF z t ∧ True) ∧ (c5 = false → inR IntKind.i64
  (D.add t z) ∧ (okDay (D.add t z) ∧ okMod (1440 : Int)) ∧ inR IntKind.i64 c7 ∧ D.ine (1440 : Int) (0 : Int) ∧ inR IntKind.i64 c8 ∧ c8 = dayF z t ∧ c6 = minF z t
  ∧ True))) :
    evF (mkc KT1) noAnn 116 [cal z w h, .dat I t] [] ⟨okLocal z w h t, .tup [.dat I (dayF z t), .dat I (minF z t)], []⟩ := of_eq (by kernel_rfl) hvc
theorem vc_time (z : Int) (w : List Bool) (h : List Int) (d m : Int) (hvc :
 let c1 := D.not (validF z w h);
 let c2 := D.not c1;
 let c3 := D.cnd c1 true (D.not (inDays d));
 let c4 := D.not c3;
 let c5 := D.cnd c3 true (D.lt m (0 : Int));
 let c6 := D.not c5;
 let c7 := D.cnd c5 true (D.ge m (1440 : Int));
 let c8 := D.mul d (1440 : Int);
 let c9 := D.add c8 m;
 let c10 := D.sub c9 z; true = true ∧ (okTime z w h d m → True ∧ (c2 = true → c2 = true → c2 = true) ∧ (c2 = true → True) ∧ (c2 = true → c2 = true → c2 = true) ∧
  (D.and true c2 = true → c2 = true) ∧ (c4 = true → c4 = true → c4 = true) ∧ (D.and true c4 = true → c4 = true) ∧ (c6 = true → c6 = true → c6 = true) ∧ (D.and
  true c6 = true → c6 = true) ∧ (c7 = true → (0 : Int) = timeF z d m ∧ True) ∧ (c7 = false → inR IntKind.i64 c8 ∧ inR IntKind.i64 c9 ∧ inR IntKind.i64 c10 ∧ c10
  = timeF z d m ∧ True))) :
    evF (mkc KT1) noAnn 118 [cal z w h, .dat I d, .dat I m] [] ⟨okTime z w h d m, .dat I (timeF z d m), []⟩ := of_eq (by kernel_rfl) hvc
def KT2 : Kt := kOr 116 (dataK [.row C, .val I] (fun (c, t, _) => okLocal c.1 c.2.1 c.2.2 t) fun (c, t, _) => .tup [.dat I (dayF c.1 t), .dat I (minF c.1 t)]) <|
  kOr 118 (dataK [.row C, .val I, .val I] (fun (c, d, m, _) => okTime c.1 c.2.1 c.2.2 d m) fun (c, d, m, _) => .dat I (timeF c.1 d m)) KT1
theorem s_rem (a b : Int) : SoundC Tryz.prog G0 124 [.dat I a, .dat I b] [] ⟨okDay a ∧ okMod b, .dat I (remF a b), []⟩ := by
  refine sound_of_ev (c := mkc K19) KS19 KI0s hm (vc_rem a b ⟨rfl, fun ⟨⟨h1, h2⟩, h3, h4⟩ => ?_⟩)
  have e := Int.tmod_eq_emod (a := a) (b := b)
  have e1 := Int.emod_nonneg a (show b ≠ 0 by omega)
  have e2 := Int.emod_lt_of_pos a h3
  have e3 : (b.natAbs : Int) = b := Int.natAbs_of_nonneg (by omega)
  simp only [D.ine, D.lt, D.rem, D.add, remF, inR, decide_eq_true_eq, decide_eq_false_iff_not]
  by_cases hc : 0 ≤ a ∨ b ∣ a
  · rw [if_pos hc] at e
    refine ⟨by omega, fun h => by omega, fun h => ⟨by omega, trivial⟩⟩
  · rw [if_neg hc, e3] at e
    have hz : a % b ≠ 0 := fun h0 => hc (.inr (Int.dvd_of_emod_eq_zero h0))
    refine ⟨by omega, fun h => ⟨by omega, by omega, trivial⟩, fun h => by omega⟩
theorem s_inRange (a : Int) : SoundC Tryz.prog G0 125 [.dat I a] [] ⟨True, .dat .bool (inDays a), []⟩ := by
  refine sound_of_ev (c := mkc K19) KS19 KI0s hm (vc_inRange a ⟨rfl, fun _ => ⟨fun h _ => h, fun h => by simpa [D.and] using h, ?_, trivial⟩⟩)
  rw [cnd_and]; simp [inDays, D.ge, D.le]
theorem KST1 : KSound Tryz.prog G0 KT1 := kOr_ok (dataK_ok fun (a, b, _) => s_rem a b) <| kOr_ok (dataK_ok fun (a, _) => s_inRange a) KS19
theorem s_local (z : Int) (w : List Bool) (h : List Int) (t : Int) : SoundC Tryz.prog G0 116 [cal z w h, .dat I t] [] ⟨okLocal z w h t, .tup [.dat I (dayF z t), .dat I (minF z t)], []⟩ := by
  refine sound_of_ev (c := mkc KT1) KST1 KI0s hm (vc_local z w h t ⟨rfl, fun ⟨hv, h1, h2⟩ => ?_⟩)
  obtain ⟨⟨v1, v2, v3, v4⟩, _⟩ := validF_iff.1 hv
  have a1 : ¬ t < -2000000000 := by omega
  have a2 : ¬ t > 2000000000 := by omega
  simp only [hv, a1, a2, cnd_or, cnd_and, D.and, D.not, Bool.true_and, eq_self, true_and, and_true, imp_self, implies_true, Bool.not_true, Bool.false_or, Bool.not_false, D.lt, D.gt, decide_false, Bool.not_eq_true', Bool.false_eq_true, Bool.false_and, Bool.and_true, Bool.or_false, Bool.and_self, Bool.or_self, false_implies, forall_const, D.ine, D.sub, D.add, D.quo, inR, remF, dayF, minF, okDay, okMod]
  have e0 := Int.emod_nonneg (t + z) (show (1440 : Int) ≠ 0 by omega)
  have e1 := Int.emod_lt_of_pos (t + z) (show (0 : Int) < 1440 by omega)
  have e3 : t + z - (t + z) % 1440 = 1440 * ((t + z) / 1440) := by omega
  rw [e3, Int.mul_tdiv_cancel_left _ (by omega)]
  omega
theorem s_time (z : Int) (w : List Bool) (h : List Int) (d m : Int) : SoundC Tryz.prog G0 118 [cal z w h, .dat I d, .dat I m] [] ⟨okTime z w h d m, .dat I (timeF z d m), []⟩ := by
  refine sound_of_ev (c := mkc KT1) KST1 KI0s hm (vc_time z w h d m ⟨rfl, fun ⟨hv, hd, h1, h2⟩ => ?_⟩)
  obtain ⟨⟨v1, v2, v3, v4⟩, _⟩ := validF_iff.1 hv
  have a1 : ¬ m < 0 := by omega
  have a2 : ¬ m ≥ 1440 := by omega
  simp only [hv, hd, a1, a2, cnd_or, cnd_and, D.and, D.not, Bool.true_and, eq_self, true_and, and_true, imp_self, implies_true, Bool.not_true, Bool.false_or, Bool.not_false, D.lt, D.ge, decide_false, Bool.not_eq_true', Bool.false_eq_true, Bool.false_and, Bool.and_true, Bool.or_false, Bool.and_self, Bool.or_self, false_implies, forall_const, D.sub, D.add, D.mul, inR, timeF]
  unfold inDays at hd
  have := of_decide_eq_true hd
  omega
theorem KST2 : KSound Tryz.prog G0 KT2 := kOr_ok (dataK_ok fun ((z, w, h), t, _) => s_local z w h t) <| kOr_ok (dataK_ok fun ((z, w, h), d, m, _) => s_time z w h d m) KST1
end Go.Eng.Sv
