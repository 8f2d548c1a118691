/- PeTt6z -/
import Derived.Test.YtejeaokbkbfgjaaGreatDoorX22
import Derived.Test.YtejeaokbkbfgjaaGreatDoorTt5z
set_option linter.unusedSimpArgs false
set_option linter.unusedVariables false
set_option maxRecDepth 100000
noncomputable section
namespace Go.Eng.Sv
open Go.Proofs
def spanL (n : Net) (line a b : Int) : List Int := wdaysL (calF n line).2.1 (calF n line).2.2 (dayF (calF n line).1 a) (dayF (calF n line).1 b)
def depsTo (n : Net) (line a b : Int) (k : Nat) : List Int := (((spanL n line a b).take k).map (leaveF n line)).filter fun t => decide (a ≤ t) && decide (t < b)
def depsF (n : Net) (line a b : Int) : List Int := if usableF n line [a, b] && decide (b ≤ a + 86400) then depsTo n line a b (spanL n line a b).length else []
def spanK (n : Net) (line a b : Int) (k : Nat) : Prop := k ≤ (spanL n line a b).length ∧ usableF n line [a, b] = true ∧ b ≤ a + 86400
def depsA (n : Net) (line a b : Int) : Ann := ⟨fun id s => match id with
  | 8 => some { α := Nat, inv := fun k => spanK n line a b k, st := fun k => putM (putM (flat s) 100 (.buf 3 I (depsTo n line a b k) [])) 1 (.var [.buf 100 (D.len (depsTo n line a b k))]), μ := fun k => k }
  | _ => none, fun _ _ => none, fun _ _ => none⟩
theorem vc_deps (line a b : Int) (cs : LC) (ns os : LB) (fs : List Off) (ls : List Line) (ks : List Cla) (hvc :
 let c1 := [a, b];
 let c2 := (cs, ns, os, fs, ls, ks);
 let c3 := usableF c2 line c1;
 let c4 := D.not c3;
 let c5 := D.not c4;
 let c6 := D.add a (86400 : Int);
 let c7 := D.cnd c4 true (D.gt b c6);
 let c8 := depsF c2 line a b;
 let c9 := calF c2 line;
 let c10 := c9.fst;
 let c11 := c9.snd;
 let c12 := c11.fst;
 let c13 := c11.snd;
 let c14 := dayF c10 a;
 let c15 := dayF c10 b;
 let c16 := minF c10 a;
 let c17 := minF c10 b;
 let c18 := (c10, c12, c13);
 let c19 := wdaysL c12 c13 c14 c15;
 let c20 := (D.get ls (D.nat line) (ByteArray.mk (D.nil UInt8).toArray, (0 : Int), (0 : Int), (0 : Int), (0 : Int), (0 : Int))).snd.snd.snd.fst; true = true ∧
  (True → fewTs c1 ∧ (c5 = true → c5 = true → c5 = true) ∧ (c5 = true → inR IntKind.i64 c6) ∧ (c5 = true → c5 = true → c5 = true) ∧ (c5 = true → c5 = true → c5 =
  true) ∧ (D.and true c5 = true → c5 = true) ∧ (c7 = true → c8 = D.nil Int ∧ True) ∧ (c7 = false → lineP c2 line ∧ 1 = 1 ∧ 0 = 0 ∧ 1 = 1 ∧ 0 = 0 ∧ okLocal c10
  c12 c13 a ∧ 1 = 1 ∧ 0 = 0 ∧ okLocal c10 c12 c13 b ∧ 1 = 1 ∧ 0 = 0 ∧ True ∧ wdaysP c10 c12 c13 c14 c15 ∧ (∃ x,
 let c21 := depsTo c2 line a b x; spanK c2 line a b x ∧ x = 0 ∧ cs = cs ∧ ns = ns ∧ os = os ∧ fs = fs ∧ ls = ls ∧ ks = ks ∧ line = line ∧ a = a ∧ b = b ∧ c2 = c2
  ∧ line = line ∧ a = a ∧ b = b ∧ Value.slice none (0) (0) = Value.slice none (0) (0) ∧ 1 = 1 ∧ 0 = 0 ∧ 0 = 0 ∧ c14 = c14 ∧ c16 = c16 ∧ c15 = c15 ∧ c17 = c17 ∧ 1
  = 1 ∧ 0 = 0 ∧ 0 = 0 ∧ cs = cs ∧ ns = ns ∧ os = os ∧ fs = fs ∧ ls = ls ∧ ks = ks ∧ line = line ∧ a = a ∧ b = b ∧ c1 = c1 ∧ c3 = c3 ∧ c4 = c4 ∧ c4 = c4 ∧ c7 = c7
  ∧ cs = cs ∧ ns = ns ∧ os = os ∧ fs = fs ∧ ls = ls ∧ ks = ks ∧ line = line ∧ c10 = c10 ∧ c12 = c12 ∧ c13 = c13 ∧ c14 = c14 ∧ c16 = c16 ∧ c10 = c10 ∧ c12 = c12 ∧
  c13 = c13 ∧ a = a ∧ c14 = c14 ∧ c16 = c16 ∧ c14 = c14 ∧ c16 = c16 ∧ c15 = c15 ∧ c17 = c17 ∧ c10 = c10 ∧ c12 = c12 ∧ c13 = c13 ∧ b = b ∧ c15 = c15 ∧ c17 = c17 ∧
  c15 = c15 ∧ c17 = c17 ∧ c10 = c10 ∧ c12 = c12 ∧ c13 = c13 ∧ c14 = c14 ∧ c15 = c15 ∧ c14 = c14 ∧ c15 = c15 ∧ c18 = c18 ∧ c10 = c10 ∧ c12 = c12 ∧ c13 = c13 ∧
  D.len c21 = 0 ∧ c21 = D.nil Int ∧ c21 = D.nil Int ∧ True) ∧ (∀ (x : Nat),
 let c22 := depsTo c2 line a b x;
 let c23 := D.len c22; ∀ (y : Int),
 let c24 := D.ge (timeF c10 y c20) a;
 let c25 := D.cnd c24 (D.lt (timeF c10 y c20) b) false;
 let c26 := [timeF c10 y c20];
 let c27 := D.nadd c23 (D.len c26);
 let c28 := D.app c22 c26; spanK c2 line a b x → isAt c19 x y → 1 = 1 ∧ 0 = 0 ∧ D.ile (0 : Int) line ∧ D.ilt line (D.ilen ls) ∧ okTime c10 c12 c13 y c20 ∧ (c24 =
  true → c24 = true → c24 = true) ∧ (c24 = true → c24 = true → c24 = true) ∧ (D.and true c24 = true → c24 = true) ∧ (c25 = true → 1 = 1 ∧ 0 = 0 ∧ c23 = c23 ∧
  D.nle (D.nmul c27 (8)) (140737488355328) ∧ D.nle c27 (9223372036854775807) ∧ 1 = 1 ∧ 0 = 0 ∧ D.len c28 = c27 ∧ ∃ z,
 let c29 := depsTo c2 line a b z; spanK c2 line a b z ∧ z = D.nadd x (1) ∧ cs = cs ∧ ns = ns ∧ os = os ∧ fs = fs ∧ ls = ls ∧ ks = ks ∧ line = line ∧ a = a ∧ b =
  b ∧ c2 = c2 ∧ line = line ∧ a = a ∧ b = b ∧ Value.slice none (0) (0) = Value.slice none (0) (0) ∧ 1 = 1 ∧ 0 = 0 ∧ 0 = 0 ∧ c14 = c14 ∧ c16 = c16 ∧ c15 = c15 ∧
  c17 = c17 ∧ 1 = 1 ∧ 0 = 0 ∧ 0 = 0 ∧ cs = cs ∧ ns = ns ∧ os = os ∧ fs = fs ∧ ls = ls ∧ ks = ks ∧ line = line ∧ a = a ∧ b = b ∧ c1 = c1 ∧ c3 = c3 ∧ c4 = c4 ∧ c4
  = c4 ∧ c7 = c7 ∧ cs = cs ∧ ns = ns ∧ os = os ∧ fs = fs ∧ ls = ls ∧ ks = ks ∧ line = line ∧ c10 = c10 ∧ c12 = c12 ∧ c13 = c13 ∧ c14 = c14 ∧ c16 = c16 ∧ c10 =
  c10 ∧ c12 = c12 ∧ c13 = c13 ∧ a = a ∧ c14 = c14 ∧ c16 = c16 ∧ c14 = c14 ∧ c16 = c16 ∧ c15 = c15 ∧ c17 = c17 ∧ c10 = c10 ∧ c12 = c12 ∧ c13 = c13 ∧ b = b ∧ c15 =
  c15 ∧ c17 = c17 ∧ c15 = c15 ∧ c17 = c17 ∧ c10 = c10 ∧ c12 = c12 ∧ c13 = c13 ∧ c14 = c14 ∧ c15 = c15 ∧ c14 = c14 ∧ c15 = c15 ∧ c18 = c18 ∧ c10 = c10 ∧ c12 = c12
  ∧ c13 = c13 ∧ c27 = D.len c29 ∧ c28 = c29 ∧ True) ∧ (c25 = false → ∃ z,
 let c30 := depsTo c2 line a b z; spanK c2 line a b z ∧ z = D.nadd x (1) ∧ cs = cs ∧ ns = ns ∧ os = os ∧ fs = fs ∧ ls = ls ∧ ks = ks ∧ line = line ∧ a = a ∧ b =
  b ∧ c2 = c2 ∧ line = line ∧ a = a ∧ b = b ∧ Value.slice none (0) (0) = Value.slice none (0) (0) ∧ 1 = 1 ∧ 0 = 0 ∧ 0 = 0 ∧ c14 = c14 ∧ c16 = c16 ∧ c15 = c15 ∧
  c17 = c17 ∧ 1 = 1 ∧ 0 = 0 ∧ 0 = 0 ∧ cs = cs ∧ ns = ns ∧ os = os ∧ fs = fs ∧ ls = ls ∧ ks = ks ∧ line = line ∧ a = a ∧ b = b ∧ c1 = c1 ∧ c3 = c3 ∧ c4 = c4 ∧ c4
  = c4 ∧ c7 = c7 ∧ cs = cs ∧ ns = ns ∧ os = os ∧ fs = fs ∧ ls = ls ∧ ks = ks ∧ line = line ∧ c10 = c10 ∧ c12 = c12 ∧ c13 = c13 ∧ c14 = c14 ∧ c16 = c16 ∧ c10 =
  c10 ∧ c12 = c12 ∧ c13 = c13 ∧ a = a ∧ c14 = c14 ∧ c16 = c16 ∧ c14 = c14 ∧ c16 = c16 ∧ c15 = c15 ∧ c17 = c17 ∧ c10 = c10 ∧ c12 = c12 ∧ c13 = c13 ∧ b = b ∧ c15 =
  c15 ∧ c17 = c17 ∧ c15 = c15 ∧ c17 = c17 ∧ c10 = c10 ∧ c12 = c12 ∧ c13 = c13 ∧ c14 = c14 ∧ c15 = c15 ∧ c14 = c14 ∧ c15 = c15 ∧ c18 = c18 ∧ c10 = c10 ∧ c12 = c12
  ∧ c13 = c13 ∧ c23 = D.len c30 ∧ c22 = c30 ∧ True)) ∧ ∀ (x : Nat),
 let c31 := depsTo c2 line a b x;
 let c32 := D.len c31; spanK c2 line a b x → x = D.len c19 → 1 = 1 ∧ 0 = 0 ∧ c32 = c32 ∧ c31 = c8 ∧ True))) :
    evF (mkr KT12 fun _ => false) (depsA (cs, ns, os, fs, ls, ks) line a b) 18 [net cs ns os fs ls ks, .dat I line, .dat I a, .dat I b] [] ⟨True, .dat R (depsF (cs, ns, os, fs, ls, ks) line a b), []⟩ := of_eq (by kernel_rfl) hvc
def KT13 : Kt := kOr 18 (dataK [.row N, .val I, .val I, .val I] (fun _ => True) fun (n, l, a, b, _) => .dat R (depsF n l a b)) KT12
theorem usable_two (cs : LC) (ns os : LB) (fs : List Off) (ls : List Line) (ks : List Cla) {line a b : Int} (h : usableF (cs, ns, os, fs, ls, ks) line [a, b] = true) : firstP (cs, ns, os, fs, ls, ks) line a ∧ firstP (cs, ns, os, fs, ls, ks) line b :=
  ⟨usable_first cs ns os fs ls ks h (by simp), usable_first cs ns os fs ls ks h (by simp)⟩
theorem spanL_len {n : Net} {line a b : Int} : (spanL n line a b).length ≤ (dayF (calF n line).1 b - dayF (calF n line).1 a + 1).toNat := by
  unfold spanL wdaysL listF
  exact Nat.le_trans (List.length_filter_le _ _) (by rw [List.length_map, List.length_range]; exact Nat.le_refl _)
theorem depsTo_len {n : Net} {line a b : Int} {k : Nat} : (depsTo n line a b k).length ≤ k := by
  unfold depsTo
  refine Nat.le_trans (List.length_filter_le _ _) ?_
  rw [List.length_map, List.length_take]; omega
theorem depsTo_next {n : Net} {line a b y : Int} {k : Nat} (h : (spanL n line a b)[k]? = some y) : depsTo n line a b (k + 1) = depsTo n line a b k ++ (if a ≤ leaveF n line y ∧ leaveF n line y < b then [leaveF n line y] else []) := by
  unfold depsTo
  rw [List.take_add_one, h, Option.toList_some, List.map_append, List.filter_append, List.map_singleton, List.filter_cons, List.filter_nil]
  by_cases g : a ≤ leaveF n line y ∧ leaveF n line y < b
  · rw [if_pos g, decide_eq_true g.1, decide_eq_true g.2]; rfl
  · rw [if_neg g, if_neg (by rw [Bool.and_eq_true, decide_eq_true_eq, decide_eq_true_eq]; exact g)]
theorem t_deps (line a b : Int) (cs : LC) (ns os : LB) (fs : List Off) (ls : List Line) (ks : List Cla) : SoundC Tryz.prog G0 18 [net cs ns os fs ls ks, .dat I line, .dat I a, .dat I b] [] ⟨True, .dat R (depsF (cs, ns, os, fs, ls, ks) line a b), []⟩ := by
  refine sound_of_ev (c := mkr KT12 fun _ => false) KST12 KIT6s hm (vc_deps line a b cs ns os fs ls ks ⟨rfl, fun _ => ?_⟩)
  simp only [cnd_or, cnd_and, D.and, D.not, Bool.true_and, eq_self, true_and, and_true, imp_self, implies_true, Bool.not_eq_true', Bool.or_eq_true, Bool.or_eq_false_iff, Bool.not_eq_false', Bool.and_eq_true, Bool.and_eq_false_imp, Bool.not_not, D.nil, D.lt, D.gt, D.ge, D.ilen, D.ile, D.ilt, D.nle, D.add, D.nat, D.len, D.nadd, D.nmul, D.get, D.app, decide_eq_true_eq, decide_eq_false_iff_not]
  have h2 : fewTs [a, b] := (by show (2 : Nat) ≤ 1000000; decide)
  refine ⟨h2, fun hu => ?_, fun h => ?_, fun h => ?_⟩
  · obtain ⟨⟨_, a0, a1⟩, _⟩ := usable_two cs ns os fs ls ks hu
    exact in_small (by omega)
  · unfold depsF
    rcases h with h | h
    · rw [h]; rfl
    · rw [decide_eq_false (show ¬ b ≤ a + 86400 by omega), Bool.and_false]; rfl
  · obtain ⟨hu, hb⟩ := h
    obtain ⟨⟨hl, a0, a1⟩, _, b0, b1⟩ := usable_two cs ns os fs ls ks hu
    obtain ⟨hv, _, _, _, _, m0, m1⟩ := cal_ok cs ns os fs ls ks hl
    obtain ⟨d0, d1⟩ := today_in hv a0 a1
    obtain ⟨e0, e1⟩ := today_in hv b0 b1
    refine ⟨hl, ⟨hv, by omega, by omega⟩, ⟨hv, by omega, by omega⟩, ⟨hv, inDays_iff.2 (by omega), inDays_iff.2 (by omega)⟩, ⟨0, ⟨Nat.zero_le _, hu, by omega⟩, rfl, rfl, rfl, rfl⟩, fun x y hx hy => ?_, fun x hx hlen => ?_⟩
    · have hy' : (spanL (cs, ns, os, fs, ls, ks) line a b)[x]? = some y := hy
      have hlt := (List.getElem?_eq_some_iff.1 hy').1
      obtain ⟨y0, y1, yw⟩ := wdaysL_mem (List.mem_of_getElem? hy)
      have hk : spanK (cs, ns, os, fs, ls, ks) line a b (x + 1) := ⟨hlt, hu, by omega⟩
      have hd := depsTo_len (n := (cs, ns, os, fs, ls, ks)) (line := line) (a := a) (b := b) (k := x)
      have hs := spanL_len (n := (cs, ns, os, fs, ls, ks)) (line := line) (a := a) (b := b)
      have hn := depsTo_next hy'
      refine ⟨hl.2.1, hl.2.2, ⟨hv, inDays_iff.2 (by omega), m0, (by show (lineOf (cs, ns, os, fs, ls, ks) line).2.2.2.1 < 1440; omega)⟩, fun g => ?_, fun g => ?_⟩
      · have g' : a ≤ leaveF (cs, ns, os, fs, ls, ks) line y ∧ leaveF (cs, ns, os, fs, ls, ks) line y < b := ⟨g.1, g.2⟩
        rw [if_pos g'] at hn
        have hl2 := congrArg List.length hn
        rw [List.length_append] at hl2
        simp only [List.length_singleton] at hl2 ⊢
        exact ⟨by omega, by omega, by rw [List.length_append]; rfl, x + 1, hk, rfl, hl2.symm, hn.symm⟩
      · have g' : ¬ (a ≤ leaveF (cs, ns, os, fs, ls, ks) line y ∧ leaveF (cs, ns, os, fs, ls, ks) line y < b) := fun q => g q.1 q.2
        rw [if_neg g', List.append_nil] at hn
        exact ⟨x + 1, hk, rfl, by rw [hn], hn.symm⟩
    · have hx' : x = (spanL (cs, ns, os, fs, ls, ks) line a b).length := hlen
      unfold depsF
      rw [hu, decide_eq_true (show b ≤ a + 86400 by omega), hx']
      rfl
theorem KST13 : KSound Tryz.prog G0 KT13 := kOr_ok (dataK_ok fun ((cs, ns, os, fs, ls, ks), l, a, b, _) => t_deps l a b cs ns os fs ls ks) KST12
end Go.Eng.Sv
