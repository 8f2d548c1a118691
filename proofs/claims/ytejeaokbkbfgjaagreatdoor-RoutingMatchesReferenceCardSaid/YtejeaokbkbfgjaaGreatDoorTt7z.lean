/- PeTt7z -/
import Derived.Test.YtejeaokbkbfgjaaGreatDoorX22
import Derived.Test.YtejeaokbkbfgjaaGreatDoorTt6z
set_option linter.unusedSimpArgs false
set_option linter.unusedVariables false
set_option maxRecDepth 100000
noncomputable section
namespace Go.Eng.Sv
open Go.Proofs
def waitGo (n : Net) (line till : Int) : Nat → Int → Int → Option Int
  | 0, _, m => some m
  | k + 1, t, m => if t < till then (firstO n line t).bind fun u => waitGo n line till k (u + 1) (maxF m (u - t)) else some m
def waitO (n : Net) (line a b : Int) : Option Int := waitGo n line b (b - a).toNat a 0
def waitOk (n : Net) (line a b : Int) : Bool := usableF n line [a, b] && decide (a < b) && decide (b ≤ a + 86400)
def waitD (n : Net) (line a b : Int) : Int := if waitOk n line a b then (waitO n line a b).getD 0 else 0
def waitE (n : Net) (line a b : Int) : Int := if waitOk n line a b then (if (waitO n line a b).isSome then 0 else 20) else 1
def waitTo (n : Net) (line a b m t : Int) : Prop := waitOk n line a b = true ∧ a ≤ t ∧ t ≤ b + 86400 ∧ 0 ≤ m ∧ m ≤ 86400 ∧ waitGo n line b (b - t).toNat t m = waitO n line a b
def waitA (n : Net) (line a b : Int) : Ann := ⟨fun id s => match id with
  | 5 => some { α := Int × Int, inv := fun x => waitTo n line a b x.1 x.2, st := fun x => put s [(10, .dat I x.1), (11, .dat I x.2)], μ := fun x => D.nat (D.sub b x.2) }
  | _ => none, fun _ _ => none, fun _ _ => none⟩
theorem vc_wait (line a b : Int) (cs : LC) (ns os : LB) (fs : List Off) (ls : List Line) (ks : List Cla) (hvc :
 let c1 := [a, b];
 let c2 := (cs, ns, os, fs, ls, ks);
 let c3 := usableF c2 line c1;
 let c4 := D.not c3;
 let c5 := D.not c4;
 let c6 := D.cnd c4 true (D.le b a);
 let c7 := D.not c6;
 let c8 := D.add a (86400 : Int);
 let c9 := D.cnd c6 true (D.gt b c8);
 let c10 := waitD c2 line a b;
 let c11 := waitE c2 line a b; true = true ∧ (True → fewTs c1 ∧ (c5 = true → c5 = true → c5 = true) ∧ (c5 = true → c5 = true → c5 = true) ∧ (D.and true c5 = true
  → c5 = true) ∧ (c7 = true → c7 = true → c7 = true) ∧ (c7 = true → inR IntKind.i64 c8) ∧ (c7 = true → c7 = true → c7 = true) ∧ (c7 = true → c7 = true → c7 =
  true) ∧ (D.and true c7 = true → c7 = true) ∧ (c9 = true → (0 : Int) = c10 ∧ (1 : Int) = c11 ∧ True) ∧ (c9 = false → (∃ (x : Int × Int), waitTo c2 line a b
  x.fst x.snd ∧ cs = cs ∧ ns = ns ∧ os = os ∧ fs = fs ∧ ls = ls ∧ ks = ks ∧ line = line ∧ a = a ∧ b = b ∧ c2 = c2 ∧ (0 : Int) = x.fst ∧ a = x.snd ∧ cs = cs ∧ ns
  = ns ∧ os = os ∧ fs = fs ∧ ls = ls ∧ ks = ks ∧ line = line ∧ a = a ∧ b = b ∧ c1 = c1 ∧ c3 = c3 ∧ c4 = c4 ∧ c4 = c4 ∧ c6 = c6 ∧ c6 = c6 ∧ c9 = c9 ∧ a = a ∧
  True) ∧ ∀ (x : Int × Int),
 let c12 := D.lt x.snd b;
 let c13 := D.not (firstB c2 line x.snd);
 let c14 := firstD c2 line x.snd;
 let c15 := D.sub c14 x.snd;
 let c16 := D.add c14 (1 : Int); waitTo c2 line a b x.fst x.snd → (c12 = true → firstP c2 line x.snd ∧ (c13 = true → (0 : Int) = c10 ∧ (20 : Int) = c11 ∧ True) ∧
  (c13 = false → inR IntKind.i64 c15 ∧ True ∧ inR IntKind.i64 c16 ∧ ∃ (y : Int × Int), waitTo c2 line a b y.fst y.snd ∧ (cs = cs ∧ ns = ns ∧ os = os ∧ fs = fs ∧
  ls = ls ∧ ks = ks ∧ line = line ∧ a = a ∧ b = b ∧ c2 = c2 ∧ maxF x.fst c15 = y.fst ∧ c16 = y.snd ∧ cs = cs ∧ ns = ns ∧ os = os ∧ fs = fs ∧ ls = ls ∧ ks = ks ∧
  line = line ∧ a = a ∧ b = b ∧ c1 = c1 ∧ c3 = c3 ∧ c4 = c4 ∧ c4 = c4 ∧ c6 = c6 ∧ c6 = c6 ∧ c9 = c9 ∧ a = a ∧ True) ∧ D.nlt (D.nat (D.sub b y.snd)) (D.nat (D.sub
  b x.snd)))) ∧ (c12 = false → x.fst = c10 ∧ (0 : Int) = c11 ∧ True)))) :
    evF (mkr KT13 fun _ => false) (waitA (cs, ns, os, fs, ls, ks) line a b) 15 [net cs ns os fs ls ks, .dat I line, .dat I a, .dat I b] [] ⟨True, .tup [.dat I (waitD (cs, ns, os, fs, ls, ks) line a b), .dat I (waitE (cs, ns, os, fs, ls, ks) line a b)], []⟩ := of_eq (by kernel_rfl) hvc
def KT14 : Kt := kOr 15 (dataK [.row N, .val I, .val I, .val I] (fun _ => True) fun (n, l, a, b, _) => .tup [.dat I (waitD n l a b), .dat I (waitE n l a b)]) KT13
theorem firstO_range {n : Net} {l t u : Int} (h : firstO n l t = some u) : t ≤ u ∧ u < t + 86400 := by
  unfold firstO at h
  cases e : ((todayL n l t).map (leaveF n l)).find? (fun v => decide (t ≤ v)) with
  | none => rw [e] at h; cases h
  | some v =>
    rw [e] at h
    have h1 := of_decide_eq_true (List.find?_some (p := fun v => decide (t ≤ v)) e)
    have h : (if v < t + 86400 then some v else none) = some u := h
    split at h
    · cases h; exact ⟨h1, by assumption⟩
    · cases h
theorem waitGo_fuel {n : Net} {l b : Int} : ∀ (k j : Nat) (t m : Int), (b - t).toNat ≤ k → (b - t).toNat ≤ j → waitGo n l b k t m = waitGo n l b j t m
  | 0, 0, _, _, _, _ => rfl
  | 0, j + 1, t, m, h, _ => by rw [waitGo, waitGo, if_neg (by omega)]
  | k + 1, 0, t, m, _, h => by rw [waitGo, waitGo, if_neg (by omega)]
  | k + 1, j + 1, t, m, h1, h2 => by
    rw [waitGo, waitGo]
    by_cases g : t < b
    · rw [if_pos g, if_pos g]
      cases e : firstO n l t with
      | none => rfl
      | some u =>
        have := firstO_range e
        exact waitGo_fuel k j (u + 1) _ (by omega) (by omega)
    · rw [if_neg g, if_neg g]
theorem t_wait (line a b : Int) (cs : LC) (ns os : LB) (fs : List Off) (ls : List Line) (ks : List Cla) : SoundC Tryz.prog G0 15 [net cs ns os fs ls ks, .dat I line, .dat I a, .dat I b] [] ⟨True, .tup [.dat I (waitD (cs, ns, os, fs, ls, ks) line a b), .dat I (waitE (cs, ns, os, fs, ls, ks) line a b)], []⟩ := by
  refine sound_of_ev (c := mkr KT13 fun _ => false) KST13 KIT6s hm (vc_wait line a b cs ns os fs ls ks ⟨rfl, fun _ => ?_⟩)
  simp only [cnd_or, D.and, D.not, Bool.true_and, eq_self, true_and, and_true, imp_self, implies_true, Bool.not_eq_true', Bool.or_eq_true, Bool.or_eq_false_iff, Bool.not_eq_false', Bool.not_not, D.lt, D.gt, D.le, D.nlt, D.sub, D.add, D.nat, decide_eq_true_eq, decide_eq_false_iff_not]
  have h2 : fewTs [a, b] := (by show (2 : Nat) ≤ 1000000; decide)
  refine ⟨h2, fun ⟨hu, _⟩ => ?_, fun h => ?_, fun ⟨⟨hu, hab⟩, hb⟩ => ?_⟩
  · obtain ⟨⟨_, a0, a1⟩, _⟩ := usable_two cs ns os fs ls ks hu
    exact in_small (by omega)
  · have hn : waitOk (cs, ns, os, fs, ls, ks) line a b = false := by
      unfold waitOk
      rcases h with (h | h) | h
      · rw [h]; rfl
      · rw [decide_eq_false (show ¬ a < b by omega), Bool.and_false]; rfl
      · rw [decide_eq_false (show ¬ b ≤ a + 86400 by omega), Bool.and_false]
    unfold waitD waitE
    rw [hn]; exact ⟨rfl, rfl⟩
  · obtain ⟨⟨hl, a0, a1⟩, _, b0, b1⟩ := usable_two cs ns os fs ls ks hu
    have hok : waitOk (cs, ns, os, fs, ls, ks) line a b = true := by
      unfold waitOk
      rw [hu, decide_eq_true (show a < b by omega), decide_eq_true (show b ≤ a + 86400 by omega)]; rfl
    refine ⟨⟨(0, a), ⟨hok, Int.le_refl _, (by show a ≤ b + 86400; omega), Int.le_refl _, (by show (0 : Int) ≤ 86400; omega), rfl⟩, rfl, rfl⟩, fun x => ?_⟩
    obtain ⟨m, t⟩ := x
    simp only
    rintro ⟨_, t0, t1, m0, m1, hw⟩
    refine ⟨fun ht => ?_, fun ht => ?_⟩
    · have hk : (b - t).toNat = (b - t).toNat - 1 + 1 := by omega
      rw [hk, waitGo, if_pos ht] at hw
      refine ⟨⟨hl, by omega, by omega⟩, fun hf => ?_, fun hf => ?_⟩
      · have e : firstO (cs, ns, os, fs, ls, ks) line t = none := by
          unfold firstB at hf
          cases e : firstO (cs, ns, os, fs, ls, ks) line t with
          | none => rfl
          | some u => rw [e] at hf; cases hf
        rw [e] at hw
        have hw : waitO (cs, ns, os, fs, ls, ks) line a b = none := hw.symm
        unfold waitD waitE
        rw [hok, hw]; exact ⟨rfl, rfl⟩
      · obtain ⟨u, e⟩ : ∃ u, firstO (cs, ns, os, fs, ls, ks) line t = some u := by
          unfold firstB at hf
          cases e : firstO (cs, ns, os, fs, ls, ks) line t with
          | none => rw [e] at hf; cases hf
          | some u => exact ⟨u, rfl⟩
        obtain ⟨u0, u1⟩ := firstO_range e
        have hd : firstD (cs, ns, os, fs, ls, ks) line t = u := by unfold firstD; rw [e]; rfl
        rw [e] at hw
        have hw : waitGo (cs, ns, os, fs, ls, ks) line b ((b - t).toNat - 1) (u + 1) (maxF m (u - t)) = waitO (cs, ns, os, fs, ls, ks) line a b := hw
        have hmx : 0 ≤ maxF m (u - t) ∧ maxF m (u - t) ≤ 86400 := by unfold maxF; split <;> omega
        rw [hd]
        refine ⟨in_small (by omega), in_small (by omega), (maxF m (u - t), u + 1), ⟨hok, (by show a ≤ u + 1; omega), (by show u + 1 ≤ b + 86400; omega), hmx.1, hmx.2, ?_⟩, ⟨rfl, rfl⟩, (by show (b - (u + 1)).toNat < _; omega)⟩
        rw [← hw]
        exact waitGo_fuel _ _ _ _ (Nat.le_refl _) (by show (b - (u + 1)).toNat ≤ _; omega)
    · have hk : (b - t).toNat = 0 := by omega
      rw [hk, waitGo] at hw
      unfold waitD waitE
      rw [hok, ← hw]; exact ⟨rfl, rfl⟩
theorem KST14 : KSound Tryz.prog G0 KT14 := kOr_ok (dataK_ok fun ((cs, ns, os, fs, ls, ks), l, a, b, _) => t_wait l a b cs ns os fs ls ks) KST13
end Go.Eng.Sv
