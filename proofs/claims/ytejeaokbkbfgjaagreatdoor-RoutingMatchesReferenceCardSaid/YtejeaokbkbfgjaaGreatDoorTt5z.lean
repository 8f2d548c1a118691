/- PeTt4z, PeTt5z -/
import Derived.Test.YtejeaokbkbfgjaaGreatDoorX22
import Derived.Test.YtejeaokbkbfgjaaGreatDoorTt3z
set_option linter.unusedSimpArgs false
set_option linter.unusedVariables false
set_option maxRecDepth 100000
noncomputable section
namespace Go.Eng.Sv
open Go.Proofs
def departD (n : Net) (l t : Int) : Int := if usableF n l [t] then firstD n l t else 0
def departE (n : Net) (l t : Int) : Int := if usableF n l [t] then (if firstB n l t then 0 else 20) else 1
def maxF (a b : Int) : Int := if a < b then b else a
theorem vc_depart (line time : Int) (cs : LC) (ns os : LB) (fs : List Off) (ls : List Line) (ks : List Cla) (hvc :
 let c1 := [time];
 let c2 := (cs, ns, os, fs, ls, ks);
 let c3 := D.not (usableF c2 line c1);
 let c4 := departD c2 line time;
 let c5 := departE c2 line time;
 let c6 := D.not (firstB c2 line time); true = true ∧ (True → fewTs c1 ∧ (c3 = true → (0 : Int) = c4 ∧ (1 : Int) = c5 ∧ True) ∧ (c3 = false → firstP c2 line time
  ∧ (c6 = true → (0 : Int) = c4 ∧ (20 : Int) = c5 ∧ True) ∧ (c6 = false → firstD c2 line time = c4 ∧ (0 : Int) = c5 ∧ True)))) :
    evF (mkr KT7 fun _ => false) noAnn 13 [net cs ns os fs ls ks, .dat I line, .dat I time] [] ⟨True, .tup [.dat I (departD (cs, ns, os, fs, ls, ks) line time), .dat I (departE (cs, ns, os, fs, ls, ks) line time)], []⟩ := of_eq (by kernel_rfl) hvc
def KT8 : Kt := kOr 13 (dataK [.row N, .val I, .val I] (fun _ => True) fun (n, l, t, _) => .tup [.dat I (departD n l t), .dat I (departE n l t)]) KT7
theorem vc_nan (x : Int) (hvc :
  true = true ∧ (True → D.ne x x = false ∧ True)) :
    evF (mkc KT8) noAnn 86 [.dat I x] [] ⟨True, .dat .bool false, []⟩ := of_eq (by kernel_rfl) hvc
def KT9 : Kt := kOr 86 (dataK [.val I] (fun _ => True) fun _ => .dat .bool false) KT8
theorem vc_less (x y : Int) (hvc :
 let c1 := D.cnd false (D.not false) false;
 let c2 := D.not c1; true = true ∧ (True → True ∧ (false = true → false = true → false = true) ∧ (false = true → True) ∧ (false = true → false = true → false =
  true) ∧ (D.and true false = true → false = true) ∧ (c2 = true → c2 = true → c2 = true) ∧ (c2 = true → c2 = true → c2 = true) ∧ (D.and true c2 = true → c2 =
  true) ∧ D.cnd c1 true (D.lt x y) = D.lt x y ∧ True)) :
    evF (mkc KT9) noAnn 68 [.dat I x, .dat I y] [] ⟨True, .dat .bool (D.lt x y), []⟩ := of_eq (by kernel_rfl) hvc
def KT10 : Kt := kOr 68 (dataK [.val I, .val I] (fun _ => True) fun (x, y, _) => .dat .bool (D.lt x y)) KT9
theorem vc_greater (x y : Int) (hvc :
  true = true ∧ (True → True ∧ (D.lt x y = true → y = maxF x y ∧ True) ∧ (D.lt x y = false → x = maxF x y ∧ True))) :
    evF (mkc KT10) noAnn 40 [.dat I x, .dat I y] [] ⟨True, .dat I (maxF x y), []⟩ := of_eq (by kernel_rfl) hvc
def KT11 : Kt := kOr 40 (dataK [.val I, .val I] (fun _ => True) fun (x, y, _) => .dat I (maxF x y)) KT10
theorem usable_first (cs : LC) (ns os : LB) (fs : List Off) (ls : List Line) (ks : List Cla) {line time : Int} {ts : List Int} (h : usableF (cs, ns, os, fs, ls, ks) line ts = true) (ht : time ∈ ts) : firstP (cs, ns, os, fs, ls, ks) line time := by
  unfold usableF at h
  rw [Bool.and_eq_true, Bool.and_eq_true] at h
  obtain ⟨⟨h1, h2⟩, h3⟩ := h
  have h1 := of_decide_eq_true h1
  have hs := ((checkF_nil cs ns os fs ls ks).1 (List.isEmpty_iff.1 h3)).1
  have ht' := of_decide_eq_true (List.all_eq_true.1 h2 time ht)
  exact ⟨⟨hs, h1.1, h1.2⟩, ht'.1, ht'.2⟩
theorem t_depart (line time : Int) (cs : LC) (ns os : LB) (fs : List Off) (ls : List Line) (ks : List Cla) : SoundC Tryz.prog G0 13 [net cs ns os fs ls ks, .dat I line, .dat I time] [] ⟨True, .tup [.dat I (departD (cs, ns, os, fs, ls, ks) line time), .dat I (departE (cs, ns, os, fs, ls, ks) line time)], []⟩ := by
  refine sound_of_ev (c := mkr KT7 fun _ => false) KST7 KIT6s hm (vc_depart line time cs ns os fs ls ks ⟨rfl, fun _ => ?_⟩)
  unfold departD departE
  refine ⟨(by show (1 : Nat) ≤ 1000000; decide), fun h => ?_, fun h => ?_⟩
  · have hu : usableF (cs, ns, os, fs, ls, ks) line [time] = false := by
      cases e : usableF (cs, ns, os, fs, ls, ks) line [time] with
      | false => rfl
      | true => rw [e] at h; cases h
    rw [hu]; exact ⟨rfl, rfl, trivial⟩
  · have hu : usableF (cs, ns, os, fs, ls, ks) line [time] = true := by
      cases e : usableF (cs, ns, os, fs, ls, ks) line [time] with
      | true => rfl
      | false => rw [e] at h; cases h
    refine ⟨usable_first cs ns os fs ls ks hu (List.mem_singleton.2 rfl), fun g => ?_, fun g => ?_⟩
    · have hb : firstB (cs, ns, os, fs, ls, ks) line time = false := by
        cases e : firstB (cs, ns, os, fs, ls, ks) line time with
        | false => rfl
        | true => rw [e] at g; cases g
      have hd : firstD (cs, ns, os, fs, ls, ks) line time = 0 := by
        unfold firstD firstB at *
        cases e : firstO (cs, ns, os, fs, ls, ks) line time with
        | none => rfl
        | some v => rw [e] at hb; cases hb
      rw [hu, hb, hd]; exact ⟨rfl, rfl, trivial⟩
    · have hb : firstB (cs, ns, os, fs, ls, ks) line time = true := by
        cases e : firstB (cs, ns, os, fs, ls, ks) line time with
        | true => rfl
        | false => rw [e] at g; cases g
      rw [hu, hb]; exact ⟨rfl, rfl, trivial⟩
theorem KST8 : KSound Tryz.prog G0 KT8 := kOr_ok (dataK_ok fun ((cs, ns, os, fs, ls, ks), l, t, _) => t_depart l t cs ns os fs ls ks) KST7
theorem t_nan (x : Int) : SoundC Tryz.prog G0 86 [.dat I x] [] ⟨True, .dat .bool false, []⟩ :=
  sound_of_ev (c := mkc KT8) KST8 KI0s hm (vc_nan x ⟨rfl, fun _ => ⟨by simp [D.ne], trivial⟩⟩)
theorem KST9 : KSound Tryz.prog G0 KT9 := kOr_ok (dataK_ok fun (x, _) => t_nan x) KST8
theorem t_less (x y : Int) : SoundC Tryz.prog G0 68 [.dat I x, .dat I y] [] ⟨True, .dat .bool (D.lt x y), []⟩ := by
  refine sound_of_ev (c := mkc KT9) KST9 KI0s hm (vc_less x y ⟨rfl, fun _ => ?_⟩)
  exact ⟨trivial, fun h => (by cases h), fun _ => trivial, fun h => (by cases h), fun h => (by cases h), fun h _ => h, fun h _ => h, fun h => h, rfl, trivial⟩
theorem KST10 : KSound Tryz.prog G0 KT10 := kOr_ok (dataK_ok fun (x, y, _) => t_less x y) KST9
theorem t_greater (x y : Int) : SoundC Tryz.prog G0 40 [.dat I x, .dat I y] [] ⟨True, .dat I (maxF x y), []⟩ := by
  refine sound_of_ev (c := mkc KT10) KST10 KI0s hm (vc_greater x y ⟨rfl, fun _ => ⟨trivial, fun h => ⟨?_, trivial⟩, fun h => ⟨?_, trivial⟩⟩⟩)
  · unfold maxF; rw [if_pos (of_decide_eq_true h)]
  · unfold maxF; rw [if_neg (of_decide_eq_false h)]
theorem KST11 : KSound Tryz.prog G0 KT11 := kOr_ok (dataK_ok fun (x, y, _) => t_greater x y) KST10
end Go.Eng.Sv

set_option maxRecDepth 100000
noncomputable section
namespace Go.Eng.Sv
open Go.Proofs
def sameI (a b : List Int) : Bool := a == b
def sameITo (a b : List Int) (k : Int) : Prop := 0 ≤ k ∧ k ≤ a.length ∧ a.length = b.length ∧ a.length ≤ 1000000 ∧ a.take k.toNat = b.take k.toNat
def mildI (a : List Int) : Prop := a.length ≤ 1000000
def intsA (a b : List Int) : Ann := ⟨fun id s => match id with
  | 4 => some { α := Int, inv := fun k => sameITo a b k, st := fun k => put s [(5, .dat I k)], μ := fun k => D.nat (D.sub (D.ilen a) k) }
  | _ => none, fun _ _ => none, fun _ _ => none⟩
theorem vc_ints (a b : List Int) (hvc :
 let c1 := D.ne (D.ilen a) (D.ilen b); true = true ∧ (mildI a → (c1 = true → false = sameI a b ∧ True) ∧ (c1 = false → (∃ x, sameITo a b x ∧ a = a ∧ b = b ∧ (0 :
  Int) = x ∧ a = a ∧ D.ilen a = D.ilen a ∧ b = b ∧ D.ilen b = D.ilen b ∧ c1 = c1 ∧ True) ∧ ∀ (x : Int),
 let c2 := D.lt x (D.ilen a);
 let c3 := D.ne (D.get a (D.nat x) (0 : Int)) (D.get b (D.nat x) (0 : Int));
 let c4 := D.add x (1 : Int); sameITo a b x → (c2 = true → D.ile (0 : Int) x ∧ D.ilt x (D.ilen a) ∧ D.ile (0 : Int) x ∧ D.ilt x (D.ilen b) ∧ (c3 = true → false =
  sameI a b ∧ True) ∧ (c3 = false → inR IntKind.i64 c4 ∧ ∃ y, sameITo a b y ∧ (a = a ∧ b = b ∧ c4 = y ∧ a = a ∧ D.ilen a = D.ilen a ∧ b = b ∧ D.ilen b = D.ilen b
  ∧ c1 = c1 ∧ True) ∧ D.nlt (D.nat (D.sub (D.ilen a) y)) (D.nat (D.sub (D.ilen a) x)))) ∧ (c2 = false → true = sameI a b ∧ True)))) :
    evF (mkc KT11) (intsA a b) 17 [.dat R a, .dat R b] [] ⟨mildI a, .dat .bool (sameI a b), []⟩ := of_eq (by kernel_rfl) hvc
def KT12 : Kt := kOr 17 (dataK [.val R, .val R] (fun (a, _, _) => mildI a) fun (a, b, _) => .dat .bool (sameI a b)) KT11
theorem sameI_no {a b : List Int} (h : a = b → False) : false = sameI a b := by
  unfold sameI
  cases e : (a == b) with
  | false => rfl
  | true => exact (h (beq_iff_eq.1 e)).elim
theorem t_ints (a b : List Int) : SoundC Tryz.prog G0 17 [.dat R a, .dat R b] [] ⟨mildI a, .dat .bool (sameI a b), []⟩ := by
  refine sound_of_ev (c := mkc KT11) KST11 KI0s hm (vc_ints a b ⟨rfl, fun hp => ?_⟩)
  have hp : a.length ≤ 1000000 := hp
  simp only [eq_self, true_and, and_true, exists_eq_right', D.ne, D.lt, D.ilen, D.ile, D.ilt, D.nlt, D.sub, D.add, D.nat, D.get, decide_eq_true_eq, decide_eq_false_iff_not, bne_iff_ne, bne_eq_false_iff_eq]
  refine ⟨fun h => sameI_no fun e => h (by rw [e]), fun h => ⟨⟨Int.le_refl _, Int.natCast_nonneg _, by omega, hp, rfl⟩, fun x ⟨g0, g1, g2, g3, g4⟩ => ⟨fun hlt => ⟨g0, hlt, g0, by omega, fun hd => sameI_no fun e => hd (by rw [e]), fun he => ⟨in_small (by omega), x + 1, ⟨by omega, by omega, g2, g3, ?_⟩, rfl, by omega⟩⟩, fun hge => ?_⟩⟩⟩
  · rw [show (x + 1).toNat = x.toNat + 1 by omega]
    exact take_eq_next g4 (by omega) (by omega) he
  · rw [List.take_of_length_le (by omega), List.take_of_length_le (by omega)] at g4
    subst g4
    unfold sameI; simp
theorem KST12 : KSound Tryz.prog G0 KT12 := kOr_ok (dataK_ok fun (a, b, _) => t_ints a b) KST11
end Go.Eng.Sv
