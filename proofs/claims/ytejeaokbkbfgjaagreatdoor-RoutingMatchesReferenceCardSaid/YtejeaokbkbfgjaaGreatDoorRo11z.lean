/- PeRo11z -/
import Derived.Test.YtejeaokbkbfgjaaGreatDoorX22
import Derived.Test.YtejeaokbkbfgjaaGreatDoorRo3z
set_option linter.unusedSimpArgs false
set_option linter.unusedVariables false
set_option maxRecDepth 100000
noncomputable section
namespace Go.Eng.Sv
open Go.Proofs
open Go.Eng.Mp (buildF rowsF rowF preBuild upto at2 idx2 starS starE starP)
def sortF (n : Net) (o : Int) : Int := (offOf n o).2.2.2.2.1 * (offOf n o).2.2.2.2.2.1
def sortP (n : Net) (o : Int) : Prop := soundF n = true ∧ 0 ≤ o ∧ o < n.2.2.2.1.length
def costsL (n : Net) (a b k : Int) : List Int := (costsF n a b).take k.toNat
def costsLo (n : Net) (a b k : Int) : Prop := fewC n = true ∧ ruseF n a b = true ∧ 0 ≤ k ∧ k ≤ n.2.2.2.2.1.length
def ctab (v q k : Int) : List (List Int) := List.replicate k.toNat (List.replicate q.toNat v)
def crow (v k : Int) : List Int := List.replicate k.toNat v
def tabP (n : Net) : Prop := n.2.2.2.1.length ≤ 1000000
theorem vc_sorting (o : Int) (cs : LC) (ns os : LB) (fs : List Off) (ls : List Line) (ks : List Cla) (hvc :
 let c1 := (cs, ns, os, fs, ls, ks);
 let c2 := (D.get fs (D.nat o) (ByteArray.mk (D.nil UInt8).toArray, (0 : Int), (0 : Int), (0 : Int), (0 : Int), (0 : Int), D.nil ByteArray)).snd.snd.snd.snd;
 let c3 := D.mul c2.fst c2.snd.fst; true = true ∧ (sortP c1 o → D.ile (0 : Int) o ∧ D.ilt o (D.ilen fs) ∧ D.ile (0 : Int) o ∧ D.ilt o (D.ilen fs) ∧ inR
  IntKind.i64 c3 ∧ c3 = sortF c1 o ∧ True)) :
    evF (mkc KQ6) noAnn 49 [net cs ns os fs ls ks, .dat I o] [] ⟨sortP (cs, ns, os, fs, ls, ks) o, .dat I (sortF (cs, ns, os, fs, ls, ks) o), []⟩ := of_eq (by kernel_rfl) hvc
def KQ7 : Kt := kOr 49 (dataK [.row N, .val I] (fun (n, o, _) => sortP n o) fun (n, o, _) => .dat I (sortF n o)) KQ6
def rcostsA (n : Net) (a b : Int) : Ann := ⟨fun id s => match id with
  | 5 => match s.sig.T 11 with
    | .buf nm _ => some { α := Int, inv := fun k => costsLo n a b k, st := fun k => putM (put (flat s) [(8, .dat I k), (7, .buf nm (D.len (costsL n a b k)))]) nm (.buf 3 I (costsL n a b k) []), μ := fun k => D.nat (D.sub (D.ilen n.2.2.2.2.1) k) }
    | _ => none
  | _ => none, fun _ _ => none, fun _ _ => none⟩
theorem vc_rcosts16 (a b : Int) (cs : LC) (ns os : LB) (fs : List Off) (ls : List Line) (ks : List Cla) (hvc :
 let c1 := (cs, ns, os, fs, ls, ks);
 let c2 := ruseF c1 a b;
 let c3 := D.not c2;
 let c4 := rcostsF c1 a b;
 let c5 := D.ilen ls;
 let c6 := (ByteArray.mk (D.nil UInt8).toArray, (0 : Int), (0 : Int), (0 : Int), (0 : Int), (0 : Int));
 let c7 := [(-1099511627776 : Int)];
 let c8 := D.len c7; true = true ∧ (fewC c1 = true → fewC c1 = true ∧ (c3 = true → D.len (D.nil Int) = 0 ∧ D.nil Int = c4 ∧ True) ∧ (c3 = false → (∃ x,
 let c9 := costsL c1 a b x; costsLo c1 a b x ∧ cs = cs ∧ ns = ns ∧ os = os ∧ fs = fs ∧ ls = ls ∧ ks = ks ∧ a = a ∧ b = b ∧ c1 = c1 ∧ Value.slice none (0) (0) =
  Value.slice none (0) (0) ∧ 0 = D.len c9 ∧ (0 : Int) = x ∧ 0 = 0 ∧ cs = cs ∧ ns = ns ∧ os = os ∧ fs = fs ∧ ls = ls ∧ ks = ks ∧ a = a ∧ b = b ∧ c2 = c2 ∧ c3 = c3
  ∧ D.nil Int = c9 ∧ True) ∧ ∀ (x : Int),
 let c10 := D.eq (waitE c1 x a b) (0 : Int);
 let c11 := (D.get ls (D.nat x) c6).snd.snd;
 let c12 := D.add (waitD c1 x a b) c11.snd.snd.fst;
 let c13 := c11.fst;
 let c14 := D.add c12 (sortF c1 c13);
 let c15 := costsL c1 a b x;
 let c16 := D.len c15;
 let c17 := [c14];
 let c18 := D.nadd c16 (D.len c17);
 let c19 := D.add x (1 : Int);
 let c20 := D.nadd c16 c8; costsLo c1 a b x → (D.lt x c5 = true → fewC c1 = true ∧ (c10 = true → D.ile (0 : Int) x ∧ D.ilt x c5 ∧ inR IntKind.i64 c12 ∧ D.ile (0
  : Int) x ∧ D.ilt x c5 ∧ sortP c1 c13 ∧ inR IntKind.i64 c14 ∧ c16 = c16 ∧ D.nle (D.nmul c18 (8)) (140737488355328) ∧ D.nle c18 (9223372036854775807) ∧ inR
  IntKind.i64 c19 ∧ ∃ y,
 let c21 := costsL c1 a b y; costsLo c1 a b y ∧ (cs = cs ∧ ns = ns ∧ os = os ∧ fs = fs ∧ ls = ls ∧ ks = ks ∧ a = a ∧ b = b ∧ c1 = c1 ∧ Value.slice none (0) (0) =
  Value.slice none (0) (0) ∧ c18 = D.len c21 ∧ c19 = y ∧ 0 = 0 ∧ cs = cs ∧ ns = ns ∧ os = os ∧ fs = fs ∧ ls = ls ∧ ks = ks ∧ a = a ∧ b = b ∧ c2 = c2 ∧ c3 = c3 ∧
  D.app c15 c17 = c21 ∧ True) ∧ D.nlt (D.nat (D.sub c5 y)) (D.nat (D.sub c5 x))) ∧ (c10 = false → c16 = c16 ∧ D.nle (D.nmul c20 (8)) (140737488355328) ∧ D.nle
  c20 (9223372036854775807) ∧ inR IntKind.i64 c19 ∧ ∃ y,
 let c22 := costsL c1 a b y; costsLo c1 a b y ∧ (cs = cs ∧ ns = ns ∧ os = os ∧ fs = fs ∧ ls = ls ∧ ks = ks ∧ a = a ∧ b = b ∧ c1 = c1 ∧ Value.slice none (0) (0) =
  Value.slice none (0) (0) ∧ c20 = D.len c22 ∧ c19 = y ∧ 0 = 0 ∧ cs = cs ∧ ns = ns ∧ os = os ∧ fs = fs ∧ ls = ls ∧ ks = ks ∧ a = a ∧ b = b ∧ c2 = c2 ∧ c3 = c3 ∧
  D.app c15 c7 = c22 ∧ True) ∧ D.nlt (D.nat (D.sub c5 y)) (D.nat (D.sub c5 x)))) ∧ (D.lt x c5 = false → c16 = c16 ∧ c15 = c4 ∧ True)))) :
    evF (mkc KQ7) (rcostsA (cs, ns, os, fs, ls, ks) a b) 23 [net cs ns os fs ls ks, .dat I a, .dat I b] [] ⟨fewC (cs, ns, os, fs, ls, ks) = true, .dat R (rcostsF (cs, ns, os, fs, ls, ks) a b), []⟩ := of_eq (by kernel_rfl) hvc
def table16A (v q : Int) : Ann := ⟨fun id s => match id with
  | 3 => match s.sig.T 9 with
    | .buf nm _ => some { α := Int, inv := fun k => upto k q, st := fun k => putM (put (flat s) [(6, .dat I k), (5, .buf nm (D.len (ctab v q k)))]) nm (.mat 37 3 I (ctab v q k) []), μ := fun k => D.nat (D.sub q k) }
    | _ => none
  | 7 => match s.sig.T 17 with
    | .buf nm _ => some { α := Int, inv := fun k => upto k q, st := fun k => putM (put (flat s) [(8, .dat I k), (7, .buf nm (D.len (crow v k)))]) nm (.buf 3 I (crow v k) []), μ := fun k => D.nat (D.sub q k) }
    | _ => none
  | _ => none, fun _ _ => none, fun _ _ => none⟩
theorem vc_table16 (v : Int) (cs : LC) (ns os : LB) (fs : List Off) (ls : List Line) (ks : List Cla) (hvc :
 let c1 := (fs, ls, ks);
 let c2 := (cs, ns, os, c1);
 let c3 := D.ilen fs;
 let c4 := [v];
 let c5 := D.len c4;
 let c6 := ctab v c3 c3; true = true ∧ (tabP c2 → (∃ x, upto x c3 ∧ cs = cs ∧ ns = ns ∧ os = os ∧ fs = fs ∧ ls = ls ∧ ks = ks ∧ v = v ∧ c2 = c2 ∧ Value.slice
  none (0) (0) = Value.slice none (0) (0) ∧ 0 = D.len (ctab v c3 x) ∧ (0 : Int) = x ∧ 0 = 0 ∧ D.nil (List Int) = ctab v c3 x ∧ D.allNil (ctab v c3 x) ∧ True) ∧ ∀
  (x : Int),
 let c7 := D.len (ctab v c3 x);
 let c8 := D.nadd c7 (1);
 let c9 := D.add x (1 : Int); upto x c3 → (D.lt x c3 = true → (∃ x_3, upto x_3 c3 ∧ cs = cs ∧ ns = ns ∧ os = os ∧ fs = fs ∧ ls = ls ∧ ks = ks ∧ v = v ∧ c2 = c2 ∧
  Value.slice none (0) (0) = Value.slice none (0) (0) ∧ c7 = c7 ∧ x = x ∧ 0 = D.len (crow v x_3) ∧ (0 : Int) = x_3 ∧ 0 = 0 ∧ x = x ∧ c1 = c1 ∧ fs = fs ∧ c3 = c3
  ∧ D.lt x c3 = D.lt x c3 ∧ 0 = 0 ∧ ctab v c3 x = ctab v c3 x ∧ D.nil Int = crow v x_3 ∧ True) ∧ ∀ (x_3 : Int),
 let c10 := D.len (crow v x_3);
 let c11 := D.nadd c10 c5;
 let c12 := D.add x_3 (1 : Int); upto x_3 c3 → (D.lt x_3 c3 = true → c10 = c10 ∧ D.nle (D.nmul c11 (8)) (140737488355328) ∧ D.nle c11 (9223372036854775807) ∧ inR
  IntKind.i64 c12 ∧ ∃ y, upto y c3 ∧ (cs = cs ∧ ns = ns ∧ os = os ∧ fs = fs ∧ ls = ls ∧ ks = ks ∧ v = v ∧ c2 = c2 ∧ Value.slice none (0) (0) = Value.slice none
  (0) (0) ∧ c7 = c7 ∧ x = x ∧ c11 = D.len (crow v y) ∧ c12 = y ∧ 0 = 0 ∧ x = x ∧ c1 = c1 ∧ fs = fs ∧ c3 = c3 ∧ D.lt x c3 = D.lt x c3 ∧ 0 = 0 ∧ ctab v c3 x = ctab
  v c3 x ∧ D.app (crow v x_3) c4 = crow v y ∧ True) ∧ D.nlt (D.nat (D.sub c3 y)) (D.nat (D.sub c3 x_3))) ∧ (D.lt x_3 c3 = false → c10 = c10 ∧ c7 = c7 ∧ D.nle
  (D.nmul c8 (24)) (140737488355328) ∧ D.nle c8 (9223372036854775807) ∧ inR IntKind.i64 c9 ∧ ∃ y, upto y c3 ∧ (cs = cs ∧ ns = ns ∧ os = os ∧ fs = fs ∧ ls = ls ∧
  ks = ks ∧ v = v ∧ c2 = c2 ∧ Value.slice none (0) (0) = Value.slice none (0) (0) ∧ c8 = D.len (ctab v c3 y) ∧ c9 = y ∧ 0 = 0 ∧ D.len (crow v x_3) = c10 ∧ D.set
  (D.app (ctab v c3 x) [D.nil Int]) c7 (crow v x_3) = ctab v c3 y ∧ True) ∧ D.nlt (D.nat (D.sub c3 y)) (D.nat (D.sub c3 x)))) ∧ (D.lt x c3 = false → c7 = D.len
  c6 ∧ ctab v c3 x = c6 ∧ True))) :
    evF { mkc KQ7 with mb := fun t => t == 31 } (table16A v (D.ilen fs)) 54 [net cs ns os fs ls ks, .dat I v] [] ⟨tabP (cs, ns, os, fs, ls, ks), .buf 0 (D.len (ctab v (D.ilen fs) (D.ilen fs))), [(0, .mat 37 3 I (ctab v (D.ilen fs) (D.ilen fs)) [])]⟩ := of_eq (by kernel_rfl) hvc
theorem t_sorting (o : Int) (cs : LC) (ns os : LB) (fs : List Off) (ls : List Line) (ks : List Cla) : SoundC Tryz.prog G0 49 [net cs ns os fs ls ks, .dat I o] [] ⟨sortP (cs, ns, os, fs, ls, ks) o, .dat I (sortF (cs, ns, os, fs, ls, ks) o), []⟩ := by
  refine sound_of_ev (c := mkc KQ6) KSQ6 KI0s hm (vc_sorting o cs ns os fs ls ks ⟨rfl, fun ⟨hs, o0, o1⟩ => ?_⟩)
  obtain ⟨p0, p1⟩ := sound_off cs ns os fs ls ks hs o0 o1
  simp only [and_true, D.nil, D.ilen, D.ile, D.ilt, D.mul, D.nat, D.get]
  have lf : (fs.getD o.toNat (⟨#[]⟩, 0, 0, 0, 0, 0, [])).2.2.2.2.1 * (fs.getD o.toNat (⟨#[]⟩, 0, 0, 0, 0, 0, [])).2.2.2.2.2.1 = sortF (cs, ns, os, fs, ls, ks) o := rfl
  have hb : sortF (cs, ns, os, fs, ls, ks) o ≤ 960 ∧ 0 < sortF (cs, ns, os, fs, ls, ks) o := ⟨p1, p0⟩
  refine ⟨o0, o1, o0, o1, in_small (by rw [lf]; omega), lf⟩
theorem KSQ7 : KSound Tryz.prog G0 KQ7 := kOr_ok (dataK_ok fun ((cs, ns, os, fs, ls, ks), o, _) => t_sorting o cs ns os fs ls ks) KSQ6
theorem costsL_next (cs : LC) (ns os : LB) (fs : List Off) (ls : List Line) (ks : List Cla) {a b k : Int} (k0 : 0 ≤ k) (k1 : k < ls.length) : costsL (cs, ns, os, fs, ls, ks) a b k ++ [costF (cs, ns, os, fs, ls, ks) a b k] = costsL (cs, ns, os, fs, ls, ks) a b (k + 1) := by
  have h := costsF_at cs ns os fs ls ks a b k0 k1
  have hl : (costsF (cs, ns, os, fs, ls, ks) a b).length = ls.length := costsF_len _ _ _
  unfold costsL
  rw [show (k + 1).toNat = k.toNat + 1 by omega, List.take_add_one, List.getElem?_eq_getElem (by omega)]
  rw [List.getD_eq_getElem?_getD, List.getElem?_eq_getElem (by omega), Option.getD_some] at h
  rw [h]; rfl
theorem costsL_len (cs : LC) (ns os : LB) (fs : List Off) (ls : List Line) (ks : List Cla) {a b k : Int} (k0 : 0 ≤ k) (k1 : k ≤ ls.length) : (costsL (cs, ns, os, fs, ls, ks) a b k).length = k.toNat := by
  have hl : (costsF (cs, ns, os, fs, ls, ks) a b).length = ls.length := costsF_len _ _ _
  unfold costsL
  rw [List.length_take]; omega
theorem t_rcosts16 (a b : Int) (cs : LC) (ns os : LB) (fs : List Off) (ls : List Line) (ks : List Cla) : SoundC Tryz.prog G0 23 [net cs ns os fs ls ks, .dat I a, .dat I b] [] ⟨fewC (cs, ns, os, fs, ls, ks) = true, .dat R (rcostsF (cs, ns, os, fs, ls, ks) a b), []⟩ := by
  refine sound_of_ev (c := mkc KQ7) KSQ7 KI0s hm (vc_rcosts16 a b cs ns os fs ls ks ⟨rfl, fun hp => ?_⟩)
  simp only [D.not, eq_self, true_and, and_true, Bool.not_eq_true', Bool.not_eq_false', D.nil, D.eq, D.lt, D.ilen, D.ile, D.ilt, D.nle, D.nlt, D.sub, D.add, D.nat, D.len, D.nadd, D.nmul, D.get, D.app, decide_eq_true_eq, decide_eq_false_iff_not, beq_iff_eq, beq_eq_false_iff_ne, lineOf_fold cs ns os fs ls ks]
  refine ⟨hp, fun h => ?_, fun h => ?_⟩
  · refine ⟨rfl, ?_⟩
    unfold rcostsF; rw [h]; rfl
  have hs := (ruse_iff.1 h).2
  have l40 := (lines_ok cs ns os fs ls ks (sound_noF cs ns os fs ls ks hs)).2
  refine ⟨⟨0, ⟨hp, h, Int.le_refl _, Int.natCast_nonneg _⟩, by simp [costsL], rfl, by simp [costsL]⟩, fun x hx => ⟨fun hlt => ?_, fun hge => ?_⟩⟩
  · obtain ⟨_, _, x0, x1⟩ := hx
    obtain ⟨l0, l1, l2, l3, l4, l5, l6⟩ := sound_line cs ns os fs ls ks hs x0 hlt
    obtain ⟨o0, o1⟩ := sound_off cs ns os fs ls ks hs l2 l3
    have hnx := costsL_next cs ns os fs ls ks (a := a) (b := b) x0 hlt
    have hl1 := costsL_len cs ns os fs ls ks (a := a) (b := b) x0 (by omega)
    have hl2 := costsL_len cs ns os fs ls ks (a := a) (b := b) (k := x + 1) (by omega) (by omega)
    have hok : costsLo (cs, ns, os, fs, ls, ks) a b (x + 1) := ⟨hp, h, by omega, by show x + 1 ≤ (ls.length : Int); omega⟩
    simp only [List.length_singleton]
    refine ⟨hp, fun he => ?_, fun he => ?_⟩
    · rcases wait_le cs ns os fs ls ks h x0 hlt with ⟨e, _, w0, w1⟩ | ⟨e, _⟩
      · have hc : costF (cs, ns, os, fs, ls, ks) a b x = waitD (cs, ns, os, fs, ls, ks) x a b + (lineOf (cs, ns, os, fs, ls, ks) x).2.2.2.2.1 + sortF (cs, ns, os, fs, ls, ks) (lineOf (cs, ns, os, fs, ls, ks) x).2.2.1 := by unfold costF; rw [if_pos e]; rfl
        rw [hc] at hnx
        have hso : 0 < sortF (cs, ns, os, fs, ls, ks) (lineOf (cs, ns, os, fs, ls, ks) x).2.2.1 ∧ sortF (cs, ns, os, fs, ls, ks) (lineOf (cs, ns, os, fs, ls, ks) x).2.2.1 ≤ 960 := ⟨o0, o1⟩
        exact ⟨x0, hlt, in_small (by omega), x0, hlt, ⟨hs, l2, l3⟩, in_small (by omega), by omega, by omega, in_small (by omega), x + 1, hok, ⟨by omega, rfl, hnx⟩, by omega⟩
      · omega
    · have hc : costF (cs, ns, os, fs, ls, ks) a b x = -1099511627776 := by unfold costF; rw [if_neg he]; rfl
      rw [hc] at hnx
      exact ⟨by omega, by omega, in_small (by omega), x + 1, hok, ⟨by omega, rfl, hnx⟩, by omega⟩
  · obtain ⟨_, _, x0, x1⟩ := hx
    have x1 : x ≤ ls.length := x1
    have hl : (costsF (cs, ns, os, fs, ls, ks) a b).length = ls.length := costsF_len _ _ _
    unfold costsL rcostsF
    rw [h, List.take_of_length_le (by omega)]; rfl
theorem crow_next {v k : Int} (k0 : 0 ≤ k) : crow v k ++ [v] = crow v (k + 1) := by
  unfold crow
  rw [show (k + 1).toNat = k.toNat + 1 by omega, List.replicate_succ']
theorem ctab_len {v q k : Int} : (ctab v q k).length = k.toNat := by unfold ctab; rw [List.length_replicate]
theorem ctab_next {v q k : Int} (k0 : 0 ≤ k) {r : List Int} (hr : r = List.replicate q.toNat v) : (ctab v q k ++ [[]]).set (ctab v q k).length r = ctab v q (k + 1) := by
  rw [List.set_append_right _ _ (Nat.le_refl _), Nat.sub_self, List.set_cons_zero, hr]
  unfold ctab
  rw [show (k + 1).toNat = k.toNat + 1 by omega, List.replicate_succ']
theorem t_table16 (v : Int) (cs : LC) (ns os : LB) (fs : List Off) (ls : List Line) (ks : List Cla) : SoundC Tryz.prog G0 54 [net cs ns os fs ls ks, .dat I v] [] ⟨tabP (cs, ns, os, fs, ls, ks), .buf 0 (D.len (ctab v (D.ilen fs) (D.ilen fs))), [(0, .mat 37 3 I (ctab v (D.ilen fs) (D.ilen fs)) [])]⟩ := by
  refine sound_of_ev (c := { mkc KQ7 with mb := fun t => t == 31 }) KSQ7 KI0s hm (vc_table16 v cs ns os fs ls ks ⟨rfl, fun hp => ?_⟩)
  have hp : fs.length ≤ 1000000 := hp
  simp only [eq_self, true_and, and_true, D.nil, D.lt, D.ilen, D.nle, D.nlt, D.sub, D.add, D.nat, D.len, D.nadd, D.nmul, D.set, D.app, decide_eq_true_eq, decide_eq_false_iff_not, D.allNil]
  have clen : ∀ k : Int, (crow v k).length = k.toNat := fun k => by unfold crow; rw [List.length_replicate]
  refine ⟨⟨0, ⟨by omega, .inr rfl⟩, by simp [ctab], rfl, by simp [ctab], fun r hr => by simp [ctab] at hr⟩, fun x hx => ⟨fun hlt => ⟨⟨0, ⟨by omega, .inr rfl⟩, by simp [crow], rfl, by simp [crow]⟩, fun y hy => ⟨fun hlt2 => ?_, fun hge => ?_⟩⟩, fun hge => ?_⟩⟩
  · have y0 := hy.1
    have c1 := clen y
    have c2 := clen (y + 1)
    simp only [List.length_singleton]
    exact ⟨by omega, by omega, in_small (by omega), y + 1, ⟨by omega, .inl (by omega)⟩, ⟨by omega, rfl, crow_next y0⟩, by omega⟩
  · have x0 := hx.1
    have y0 := hy.1
    have y1 := hy.2
    have ey : y = fs.length := by omega
    have c1 := ctab_len (v := v) (q := fs.length) (k := x)
    have c2 := ctab_len (v := v) (q := fs.length) (k := x + 1)
    exact ⟨by omega, by omega, in_small (by omega), x + 1, ⟨by omega, .inl (by omega)⟩, ⟨by omega, rfl, ctab_next x0 (by rw [ey]; rfl)⟩, by omega⟩
  · have x0 := hx.1
    have x1 := hx.2
    have ex : x = fs.length := by omega
    rw [ex]; exact ⟨rfl, rfl⟩
end Go.Eng.Sv
