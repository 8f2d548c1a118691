/- PeRo4z, PeRo8z -/
import Derived.Test.YtejeaokbkbfgjaaGreatDoorX22
import Derived.Test.YtejeaokbkbfgjaaGreatDoorRo5z
set_option linter.unusedSimpArgs false
set_option linter.unusedVariables false
set_option maxRecDepth 100000
namespace Go.Eng.Sv
open Go.Proofs
open Go.Eng.Mp (buildF rowsF rowF preBuild upto at2 idx2 starS starE starP)

abbrev U8 : Ty := .int .u8
abbrev U16 : Ty := .int .u16
noncomputable def u8P (a : Int) : Prop := 0 ≤ a ∧ a ≤ 255
noncomputable def u16P (a : Int) : Prop := 0 ≤ a ∧ a ≤ 65535
set_option maxRecDepth 100000 in
theorem vc_ltime (a b which at_ : Int) (cs : List (Int × List Bool × List Int)) (ns os : List ByteArray) (fs : List Off) (ls : List Line) (ks : List Cla) (hvc :
    let c1 := (cs, ns, os, fs, ls, ks);
    let c2 := D.not (few16 c1);
    let c3 := D.not c2;
    let c4 := D.cnd c2 true (D.not (ruseF c1 a b));
    let c5 := D.not c4;
    let c6 := D.ilen ls;
    let c7 := D.cnd c4 true (D.eq c6 (0 : Int));
    let c8 := rcostsF c1 a b;
    let c9 := D.ilen c8;
    let c10 := D.ne c9 c6;
    let c11 := D.rem which c6;
    let c12 := D.nat c11;
    let c13 := D.get c8 c12 (0 : Int);
    let c14 := D.eq c13 (-1099511627776 : Int);
    let c15 := D.add a (D.rem at_ (D.sub b a));
    let c16 := (D.get ls c12 (ByteArray.mk (D.nil UInt8).toArray, (0 : Int), (0 : Int), (0 : Int), (0 : Int), (0 : Int))).snd.snd;
    let c17 := c16.fst;
    let c18 := D.cnd true (D.eq (departE c1 c11 c15) (0 : Int)) false;
    let c19 := D.add (departD c1 c11 c15) c16.snd.snd.fst;
    let c20 := (D.get fs (D.nat c17) (ByteArray.mk (D.nil UInt8).toArray, (0 : Int), (0 : Int), (0 : Int), (0 : Int), (0 : Int), D.nil ByteArray)).snd.snd.snd.snd;
    let c21 := D.mul c20.fst c20.snd.fst;
    let c22 := D.add c19 c21;
    let c23 := D.sub c22 c15; true = true ∧ (u8P which ∧ u16P at_ → True ∧ True ∧ (c3 = true → c3 = true → c3 = true) ∧ (c3 = true → c3 = true → c3 = true) ∧ (c3 =
     true → c3 = true → c3 = true) ∧ (c3 = true → fewC c1 = true) ∧ (c3 = true → c3 = true → c3 = true) ∧ (D.and true c3 = true → c3 = true) ∧ (c5 = true → c5 =
     true → c5 = true) ∧ (c5 = true → c5 = true → c5 = true) ∧ (c5 = true → c5 = true → c5 = true) ∧ (D.and true c5 = true → c5 = true) ∧ (c7 = true → true = true ∧
     True) ∧ (c7 = false → True ∧ inR IntKind.i64 which ∧ D.ine c6 (0 : Int) ∧ (c10 = true → false = true ∧ True) ∧ (c10 = false → D.ile (0 : Int) c11 ∧ D.ilt c11
     c9 ∧ (c14 = true → true = true ∧ True) ∧ (c14 = false → inR IntKind.i64 at_ ∧ inR IntKind.i64 (D.sub b a) ∧ D.ine (D.sub b a) (0 : Int) ∧ inR IntKind.i64 c15 ∧
     True ∧ D.ile (0 : Int) c11 ∧ D.ilt c11 c6 ∧ D.ile (0 : Int) c17 ∧ D.ilt c17 (D.ilen fs) ∧ 1 = 1 ∧ 0 = 0 ∧ (true = true → true = true → true = true) ∧ (D.and
     true true = true → true = true) ∧ (c18 = true → c18 = true → c18 = true) ∧ (c18 = true → c18 = true → c18 = true) ∧ (c18 = true → c18 = true → c18 = true) ∧
     (c18 = true → D.ile (0 : Int) c11) ∧ (c18 = true → D.ilt c11 c6) ∧ (c18 = true → c18 = true → c18 = true) ∧ (c18 = true → c18 = true → c18 = true) ∧ (c18 =
     true → c18 = true → c18 = true) ∧ (c18 = true → c18 = true → c18 = true) ∧ (c18 = true → inR IntKind.i64 c19) ∧ (c18 = true → 1 = 1) ∧ (c18 = true → c18 = true
     → c18 = true) ∧ (c18 = true → 1 = 1) ∧ (c18 = true → 0 = 0) ∧ (c18 = true → 1 = 1) ∧ (c18 = true → c18 = true → c18 = true) ∧ (c18 = true → 1 = 1) ∧ (c18 =
     true → 0 = 0) ∧ (c18 = true → c18 = true → c18 = true) ∧ (c18 = true → c18 = true → c18 = true) ∧ (c18 = true → inR IntKind.i64 c21) ∧ (c18 = true → c18 = true
     → c18 = true) ∧ (c18 = true → c18 = true → c18 = true) ∧ (c18 = true → inR IntKind.i64 c22) ∧ (c18 = true → c18 = true → c18 = true) ∧ (c18 = true → c18 = true
     → c18 = true) ∧ (c18 = true → inR IntKind.i64 c23) ∧ (c18 = true → c18 = true → c18 = true) ∧ (c18 = true → c18 = true → c18 = true) ∧ (c18 = true → D.ile (0 :
     Int) c11) ∧ (c18 = true → D.ilt c11 c9) ∧ (c18 = true → c18 = true → c18 = true) ∧ (c18 = true → c18 = true → c18 = true) ∧ (c18 = true → c18 = true → c18 =
     true) ∧ (D.and true c18 = true → c18 = true) ∧ D.cnd c18 (D.le c23 c13) false = true ∧ True))))) :
    evF (mkc KQ6) noAnn 10 [net cs ns os fs ls ks, .dat I a, .dat I b, .dat U8 which, .dat U16 at_] [] ⟨u8P which ∧ u16P at_, .dat .bool true, []⟩ := of_eq (by kernel_rfl) hvc

theorem rcosts_eq (cs : List (Int × List Bool × List Int)) (ns os : List ByteArray) (fs : List Off) (ls : List Line) (ks : List Cla) {a b : Int} (h : ruseF (cs, ns, os, fs, ls, ks) a b = true) : rcostsF (cs, ns, os, fs, ls, ks) a b = costsF (cs, ns, os, fs, ls, ks) a b := by unfold rcostsF; rw [h]; rfl
theorem rbnds_eq (cs : List (Int × List Bool × List Int)) (ns os : List ByteArray) (fs : List Off) (ls : List Line) (ks : List Cla) {a b : Int} (h : ruseF (cs, ns, os, fs, ls, ks) a b = true) : rboundsF (cs, ns, os, fs, ls, ks) a b = boundsF (cs, ns, os, fs, ls, ks) (costsF (cs, ns, os, fs, ls, ks) a b) := by unfold rboundsF; rw [h]; rfl
theorem rnext_eq (cs : List (Int × List Bool × List Int)) (ns os : List ByteArray) (fs : List Off) (ls : List Line) (ks : List Cla) {a b : Int} (h : ruseF (cs, ns, os, fs, ls, ks) a b = true) : rnextF (cs, ns, os, fs, ls, ks) a b = nextF (cs, ns, os, fs, ls, ks) (costsF (cs, ns, os, fs, ls, ks) a b) := by unfold rnextF; rw [h]; rfl
theorem costs_length (cs : List (Int × List Bool × List Int)) (ns os : List ByteArray) (fs : List Off) (ls : List Line) (ks : List Cla) (a b : Int) : (costsF (cs, ns, os, fs, ls, ks) a b).length = ls.length := costsF_len _ _ _
theorem sq16_of (cs : List (Int × List Bool × List Int)) (ns os : List ByteArray) (fs : List Off) (ls : List Line) (ks : List Cla) {m : List (List Int)} (h : Mp.Sq fs.length m) : sq16 (cs, ns, os, fs, ls, ks) m = true := by
  unfold sq16
  rw [Bool.and_eq_true, decide_eq_true_eq, List.all_eq_true]
  refine ⟨h.len, fun r hr => ?_⟩
  obtain ⟨i, hi, rfl⟩ := List.getElem_of_mem hr
  have := h.row i (by omega) (by rw [← h.len]; omega)
  rw [Int.toNat_natCast, List.getD_eq_getElem?_getD, List.getElem?_eq_getElem hi, Option.getD_some] at this
  exact decide_eq_true this
theorem bsq (cs : List (Int × List Bool × List Int)) (ns os : List ByteArray) (fs : List Off) (ls : List Line) (ks : List Cla) (c : List Int) : Mp.Sq fs.length (boundsF (cs, ns, os, fs, ls, ks) c) := Mp.buildF_sq _ _
theorem nsq (cs : List (Int × List Bool × List Int)) (ns os : List ByteArray) (fs : List Off) (ls : List Line) (ks : List Cla) (c : List Int) : Mp.Sq fs.length (nextF (cs, ns, os, fs, ls, ks) c) := Mp.buildF_sq _ _
theorem sqP_of (cs : List (Int × List Bool × List Int)) (ns os : List ByteArray) (fs : List Off) (ls : List Line) (ks : List Cla) {m : List (List Int)} (hf : few16 (cs, ns, os, fs, ls, ks) = true) (h : Mp.Sq fs.length m) : sqP16 (cs, ns, os, fs, ls, ks) m := by
  obtain ⟨_, h1, _⟩ := few16_iff.1 hf
  have h1 : fs.length ≤ 5 := h1
  refine ⟨by show fs.length ≤ 1000000; omega, by rw [h.len]; omega⟩
theorem bounds_none (cs : List (Int × List Bool × List Int)) (ns os : List ByteArray) (fs : List Off) (ls : List Line) (ks : List Cla) {a b : Int} (h : ruseF (cs, ns, os, fs, ls, ks) a b = false) : rboundsF (cs, ns, os, fs, ls, ks) a b = [] := by unfold rboundsF; rw [h]; rfl
theorem sqP_bnds (cs : List (Int × List Bool × List Int)) (ns os : List ByteArray) (fs : List Off) (ls : List Line) (ks : List Cla) {a b : Int} (hf : few16 (cs, ns, os, fs, ls, ks) = true) : sqP16 (cs, ns, os, fs, ls, ks) (rboundsF (cs, ns, os, fs, ls, ks) a b) := by
  cases h : ruseF (cs, ns, os, fs, ls, ks) a b with
  | true => rw [rbnds_eq cs ns os fs ls ks h]; exact sqP_of cs ns os fs ls ks hf (bsq cs ns os fs ls ks _)
  | false =>
    obtain ⟨_, h1, _⟩ := few16_iff.1 hf
    have h1 : fs.length ≤ 5 := h1
    rw [bounds_none cs ns os fs ls ks h]; exact ⟨by show fs.length ≤ 1000000; omega, Nat.zero_le _⟩
theorem t_ltime (a b which at_ : Int) (cs : List (Int × List Bool × List Int)) (ns os : List ByteArray) (fs : List Off) (ls : List Line) (ks : List Cla) : SoundC Tryz.prog G0 10 [net cs ns os fs ls ks, .dat I a, .dat I b, .dat U8 which, .dat U16 at_] [] ⟨u8P which ∧ u16P at_, .dat .bool true, []⟩ := by
  refine sound_of_ev (c := mkc KQ6) KSQ6 KI0s hm (vc_ltime a b which at_ cs ns os fs ls ks ⟨rfl, fun hp => ?_⟩)
  obtain ⟨⟨w0, w1⟩, a0', a1'⟩ := hp
  simp only [cnd_or, cnd_and, D.and, D.or, D.not, Bool.true_and, Bool.and_true, Bool.false_or, Bool.or_false, eq_self, true_and, and_true, imp_self, implies_true, Bool.not_eq_true', Bool.or_eq_true, Bool.or_eq_false_iff, Bool.not_eq_false', Bool.and_eq_true, Bool.and_eq_false_imp, Bool.not_not, forall_const, exists_eq_right, exists_eq_right', exists_eq_left, exists_eq_left', Int.toNat_natCast, Nat.zero_add, Nat.mul_one, Int.ofNat_eq_natCast, D.nil, D.eq, D.ne, D.lt, D.gt, D.le, D.ge, D.beq, D.ilen, D.slen, D.ile, D.ilt, D.ine, D.nle, D.nlt, D.sub, D.add, D.mul, D.neg, D.nat, D.ofN, D.len, D.nadd, D.nmul, D.get, D.mn, D.mx, D.set, D.app, D.tail, D.part, D.seg, D.rep, D.at2, decide_eq_true_eq, decide_eq_false_iff_not, beq_iff_eq, bne_iff_ne, beq_eq_false_iff_ne, bne_eq_false_iff_eq, D.wrap, D.allNil, lineOf_fold cs ns os fs ls ks]
  refine ⟨fun h => few_fewC (few16_iff.1 h).1, fun h => ?_⟩
  obtain ⟨⟨hf, hr⟩, hl⟩ := h
  obtain ⟨⟨g0, g1, g2, g3⟩, hs⟩ := ruse_iff.1 hr
  have i0 : 0 ≤ D.rem which ls.length := Int.tmod_nonneg _ w0
  have i1 : D.rem which ls.length < ls.length := Int.tmod_lt_of_pos _ (by omega)
  have s0 : 0 ≤ D.rem at_ (b - a) := Int.tmod_nonneg _ a0'
  have s1 : D.rem at_ (b - a) < b - a := Int.tmod_lt_of_pos _ (by omega)
  generalize D.rem which ls.length = i at *
  generalize D.rem at_ (b - a) = s at *
  have hcl := costs_length cs ns os fs ls ks a b
  have lf : fs.getD (lineOf (cs, ns, os, fs, ls, ks) i).2.2.1.toNat (⟨#[]⟩, 0, 0, 0, 0, 0, []) = offOf (cs, ns, os, fs, ls, ks) (lineOf (cs, ns, os, fs, ls, ks) i).2.2.1 := rfl
  have er : (rcostsF (cs, ns, os, fs, ls, ks) a b).length = ls.length := by rw [rcosts_eq cs ns os fs ls ks hr, hcl]
  have ec : (rcostsF (cs, ns, os, fs, ls, ks) a b).getD i.toNat 0 = costF (cs, ns, os, fs, ls, ks) a b i := by rw [rcosts_eq cs ns os fs ls ks hr, costsF_at cs ns os fs ls ks a b i0 i1]
  obtain ⟨l0, l1, l2, l3, l4, l5, l6⟩ := sound_line cs ns os fs ls ks hs i0 i1
  obtain ⟨o0, o1⟩ := sound_off cs ns os fs ls ks hs l2 l3
  refine ⟨in_small (by omega), hl, fun h => (h (by rw [er])).elim, fun _ => ⟨i0, by omega, fun hc => ?_⟩⟩
  rw [ec] at hc
  obtain ⟨e1, d0, d1, e2⟩ := cost_wait cs ns os fs ls ks hr i0 i1 hc
  have ha := line_at cs ns os fs ls ks ⟨sound_noF cs ns os fs ls ks hs, i0, i1⟩
  obtain ⟨u, u1, u2⟩ := (wait_some ha g1 e1).1 (a + s) (by omega) (by omega)
  have hu : usableF (cs, ns, os, fs, ls, ks) i [a + s] = true := by
    unfold usableF idxF
    rw [hs, Bool.and_true, Bool.and_eq_true]
    exact ⟨decide_eq_true ⟨i0, i1⟩, by simp [timeOk]; omega⟩
  obtain ⟨k1, k2⟩ := depart_of hu u1
  have ur := firstO_range u1
  have lf1 : (fs.getD (lineOf (cs, ns, os, fs, ls, ks) i).2.2.1.toNat (⟨#[]⟩, 0, 0, 0, 0, 0, [])).2.2.2.2.1 * (fs.getD (lineOf (cs, ns, os, fs, ls, ks) i).2.2.1.toNat (⟨#[]⟩, 0, 0, 0, 0, 0, [])).2.2.2.2.2.1 = (offOf (cs, ns, os, fs, ls, ks) (lineOf (cs, ns, os, fs, ls, ks) i).2.2.1).2.2.2.2.1 * (offOf (cs, ns, os, fs, ls, ks) (lineOf (cs, ns, os, fs, ls, ks) i).2.2.1).2.2.2.2.2.1 := rfl
  generalize (offOf (cs, ns, os, fs, ls, ks) (lineOf (cs, ns, os, fs, ls, ks) i).2.2.1).2.2.2.2.1 * (offOf (cs, ns, os, fs, ls, ks) (lineOf (cs, ns, os, fs, ls, ks) i).2.2.1).2.2.2.2.2.1 = pm at *
  exact ⟨in_small (by omega), in_small (by omega), by omega, in_small (by omega), i0, i1, l2, l3, fun _ => i0, fun _ => i1, fun _ => in_small (by omega), fun _ => in_small (by rw [lf1]; omega), fun _ => in_small (by rw [lf1]; omega), fun _ => in_small (by rw [lf1]; omega), fun _ => i0, fun _ => by omega, k2, decide_eq_true (by rw [ec, lf1, k1, e2]; omega)⟩
end Go.Eng.Sv

set_option maxRecDepth 100000
namespace Go.Eng.Sv
open Go.Proofs
open Go.Eng.Mp (buildF rowsF rowF preBuild upto at2 idx2 starS starE starP)

noncomputable def u8sP (f : Int) (ch : List Int) : Prop := (0 ≤ f ∧ f ≤ 255) ∧ ∀ x ∈ ch, 0 ≤ x ∧ x ≤ 255
noncomputable def ownTo (n : Net) (c : List Int) (at_ k : Int) : List Int := ((List.range k.toNat).filter fun i : Nat => decide ((lineOf n i).2.1 = at_ ∧ c.getD i 0 ≠ noneI)).map fun i : Nat => (i : Int)
noncomputable def leastOk (n : Net) (a b o : Int) (ch : List Int) (at_ sum i : Int) : Prop := few16 n = true ∧ ruseF n a b = true ∧ 0 ≤ o ∧ o < n.2.2.2.1.length ∧ 0 ≤ at_ ∧ at_ < n.2.2.2.1.length ∧ 0 ≤ i ∧ i ≤ ch.length ∧ ch.length ≤ 10 ∧ sum ≤ 1000000 * i ∧ 0 ≤ at2 (rboundsF n a b) o at_ ∧ at2 (rboundsF n a b) o at_ ≤ sum
noncomputable def ownOk (n : Net) (a b at_ k : Int) : Prop := few16 n = true ∧ ruseF n a b = true ∧ 0 ≤ k ∧ k ≤ n.2.2.2.2.1.length
noncomputable def lleastA (n : Net) (a b : Int) (ch : List Int) : Ann := ⟨fun id s => match id with
  | 12 => match s.sig.T 14 with
    | .dat (.int .i64) o => some { α := Int × Int × Int, inv := fun x => leastOk n a b o ch x.1 x.2.1 x.2.2, st := fun x => put s [(15, .dat I x.1), (16, .dat I x.2.1), (17, .dat I x.2.2)], μ := fun x => D.nat (D.sub (D.ilen ch) x.2.2) }
    | _ => none
  | 16 => match s.sig.T 15, s.sig.T 77 with
    | .dat (.int .i64) at_, .buf nm _ => some { α := Int, inv := fun k => ownOk n a b at_ k, st := fun k => putM (put (flat s) [(19, .dat I k), (18, .buf nm (D.len (ownTo n (rcostsF n a b) at_ k)))]) nm (.buf 3 I (ownTo n (rcostsF n a b) at_ k) []), μ := fun k => D.nat (D.sub (D.ilen n.2.2.2.2.1) k) }
    | _, _ => none
  | _ => none, fun _ _ => none, fun _ _ => none⟩
set_option maxRecDepth 100000 in
theorem vc_lleast (a b start : Int) (ch : List Int) (cs : List (Int × List Bool × List Int)) (ns os : List ByteArray) (fs : List Off) (ls : List Line) (ks : List Cla) (hvc :
    let c1 := (ls, ks);
    let c2 := (fs, c1);
    let c3 := (cs, ns, os, c2);
    let c4 := few16 c3;
    let c5 := D.not c4;
    let c6 := D.not c5;
    let c7 := D.ilen fs;
    let c8 := D.cnd c5 true (D.eq c7 (0 : Int));
    let c9 := D.not c8;
    let c10 := D.cnd c8 true (D.not (ruseF c3 a b));
    let c11 := D.not c10;
    let c12 := D.cnd c10 true (D.gt (D.ilen ch) (10 : Int));
    let c13 := rcostsF c3 a b;
    let c14 := D.ilen c13;
    let c15 := D.ilen ls;
    let c16 := D.ne c14 c15;
    let c17 := D.not c16;
    let c18 := rboundsF c3 a b;
    let c19 := D.cnd c16 true (D.not (sq16 c3 c18));
    let c20 := D.rem start c7;
    let c21 := (ByteArray.mk (D.nil UInt8).toArray, (0 : Int), (0 : Int), (0 : Int), (0 : Int), (0 : Int));
    let c22 := D.get c18 (D.nat c20) (D.nil Int); true = true ∧ (u8sP start ch → True ∧ True ∧ (c6 = true → c6 = true → c6 = true) ∧ (c6 = true → c6 = true → c6 =
     true) ∧ (c6 = true → c6 = true → c6 = true) ∧ (D.and true c6 = true → c6 = true) ∧ (c9 = true → c9 = true → c9 = true) ∧ (c9 = true → c9 = true → c9 = true) ∧
     (c9 = true → c9 = true → c9 = true) ∧ (c9 = true → fewC c3 = true) ∧ (c9 = true → c9 = true → c9 = true) ∧ (D.and true c9 = true → c9 = true) ∧ (c11 = true →
     c11 = true → c11 = true) ∧ (c11 = true → c11 = true → c11 = true) ∧ (D.and true c11 = true → c11 = true) ∧ (c12 = true → true = true ∧ True) ∧ (c12 = false →
     True ∧ True ∧ (c17 = true → c17 = true → c17 = true) ∧ (c17 = true → c17 = true → c17 = true) ∧ (c17 = true → sqP16 c3 c18) ∧ (c17 = true → c17 = true → c17 =
     true) ∧ (D.and true c17 = true → c17 = true) ∧ (c19 = true → false = true ∧ True) ∧ (c19 = false → inR IntKind.i64 start ∧ D.ine c7 (0 : Int) ∧ (∃ (x : Int ×
     Int × Int),
    let c23 := x.fst;
    let c24 := x.snd;
    let c25 := c24.fst;
    let c26 := c24.snd; leastOk c3 a b c20 ch c23 c25 c26 ∧ cs = cs ∧ ns = ns ∧ os = os ∧ fs = fs ∧ ls = ls ∧ ks = ks ∧ a = a ∧ b = b ∧ start = start ∧ ch = ch ∧ c3
     = c3 ∧ false = false ∧ true = true ∧ c13 = c13 ∧ c18 = c18 ∧ c20 = c20 ∧ c20 = c23 ∧ (0 : Int) = c25 ∧ (0 : Int) = c26 ∧ true = true ∧ cs = cs ∧ ns = ns ∧ os =
     os ∧ fs = fs ∧ ls = ls ∧ ks = ks ∧ c4 = c4 ∧ c5 = c5 ∧ c5 = c5 ∧ c8 = c8 ∧ c8 = c8 ∧ c10 = c10 ∧ c10 = c10 ∧ c12 = c12 ∧ cs = cs ∧ ns = ns ∧ os = os ∧ fs = fs
     ∧ ls = ls ∧ ks = ks ∧ a = a ∧ b = b ∧ c13 = c13 ∧ cs = cs ∧ ns = ns ∧ os = os ∧ fs = fs ∧ ls = ls ∧ ks = ks ∧ a = a ∧ b = b ∧ c18 = c18 ∧ c13 = c13 ∧ c14 = c14
     ∧ c1 = c1 ∧ ls = ls ∧ c15 = c15 ∧ c16 = c16 ∧ c16 = c16 ∧ c19 = c19 ∧ start = start ∧ start = start ∧ c2 = c2 ∧ fs = fs ∧ c7 = c7 ∧ c20 = c20 ∧ c20 = c20 ∧
     True) ∧ ∀ (x : Int × Int × Int),
    let c27 := x.fst;
    let c28 := x.snd;
    let c29 := c28.fst;
    let c30 := c28.snd;
    let c31 := D.lt c30 (D.ilen ch);
    let c32 := D.get ch (D.nat c30) (0 : Int);
    let c33 := D.add c30 (1 : Int);
    let c34 := D.get c22 (D.nat c27) (0 : Int);
    let c35 := D.cnd true (D.ge c34 (0 : Int)) false; leastOk c3 a b c20 ch c27 c29 c30 → (c31 = true → (∃ x,
    let c36 := ownTo c3 c13 c27 x; ownOk c3 a b c27 x ∧ cs = cs ∧ ns = ns ∧ os = os ∧ fs = fs ∧ ls = ls ∧ ks = ks ∧ a = a ∧ b = b ∧ start = start ∧ ch = ch ∧ c3 =
     c3 ∧ false = false ∧ true = true ∧ c13 = c13 ∧ c18 = c18 ∧ c20 = c20 ∧ c27 = c27 ∧ c29 = c29 ∧ c30 = c30 ∧ 0 = D.len c36 ∧ (0 : Int) = x ∧ true = true ∧ cs =
     cs ∧ ns = ns ∧ os = os ∧ fs = fs ∧ ls = ls ∧ ks = ks ∧ c4 = c4 ∧ c5 = c5 ∧ c5 = c5 ∧ c8 = c8 ∧ c8 = c8 ∧ c10 = c10 ∧ c10 = c10 ∧ c12 = c12 ∧ cs = cs ∧ ns = ns
     ∧ os = os ∧ fs = fs ∧ ls = ls ∧ ks = ks ∧ a = a ∧ b = b ∧ c13 = c13 ∧ cs = cs ∧ ns = ns ∧ os = os ∧ fs = fs ∧ ls = ls ∧ ks = ks ∧ a = a ∧ b = b ∧ c18 = c18 ∧
     c13 = c13 ∧ c14 = c14 ∧ c1 = c1 ∧ ls = ls ∧ c15 = c15 ∧ c16 = c16 ∧ c16 = c16 ∧ c19 = c19 ∧ start = start ∧ start = start ∧ c2 = c2 ∧ fs = fs ∧ c7 = c7 ∧ c20 =
     c20 ∧ c20 = c20 ∧ c30 = c30 ∧ ch = ch ∧ D.ilen ch = D.ilen ch ∧ c31 = c31 ∧ 0 = 0 ∧ D.nil Int = c36 ∧ True) ∧ ∀ (x : Int),
    let c37 := D.eq (D.get ls (D.nat x) c21).snd.fst c27;
    let c38 := D.cnd c37 (D.ne (D.get c13 (D.nat x) (0 : Int)) (-1099511627776 : Int)) false;
    let c39 := ownTo c3 c13 c27 x;
    let c40 := D.len c39;
    let c41 := [x];
    let c42 := D.nadd c40 (D.len c41);
    let c43 := D.add x (1 : Int);
    let c44 := Int.ofNat c40;
    let c45 := D.gt c44 (0 : Int);
    let c46 := D.rem c32 c44;
    let c47 := D.get c39 (D.nat c46) (0 : Int);
    let c48 := D.nat c47;
    let c49 := D.add c29 (D.get c13 c48 (0 : Int)); ownOk c3 a b c27 x → (D.lt x c15 = true → D.ile (0 : Int) x ∧ D.ilt x c15 ∧ (c37 = true → c37 = true → c37 =
     true) ∧ (c37 = true → c37 = true → c37 = true) ∧ (c37 = true → D.ile (0 : Int) x) ∧ (c37 = true → D.ilt x c14) ∧ (c37 = true → c37 = true → c37 = true) ∧ (c37
     = true → c37 = true → c37 = true) ∧ (D.and true c37 = true → c37 = true) ∧ (c38 = true → c40 = c40 ∧ D.nle (D.nmul c42 (8)) (140737488355328) ∧ D.nle c42
     (9223372036854775807) ∧ inR IntKind.i64 c43 ∧ ∃ y,
    let c50 := ownTo c3 c13 c27 y; ownOk c3 a b c27 y ∧ (cs = cs ∧ ns = ns ∧ os = os ∧ fs = fs ∧ ls = ls ∧ ks = ks ∧ a = a ∧ b = b ∧ start = start ∧ ch = ch ∧ c3 =
     c3 ∧ false = false ∧ true = true ∧ c13 = c13 ∧ c18 = c18 ∧ c20 = c20 ∧ c27 = c27 ∧ c29 = c29 ∧ c30 = c30 ∧ c42 = D.len c50 ∧ c43 = y ∧ true = true ∧ cs = cs ∧
     ns = ns ∧ os = os ∧ fs = fs ∧ ls = ls ∧ ks = ks ∧ c4 = c4 ∧ c5 = c5 ∧ c5 = c5 ∧ c8 = c8 ∧ c8 = c8 ∧ c10 = c10 ∧ c10 = c10 ∧ c12 = c12 ∧ cs = cs ∧ ns = ns ∧ os
     = os ∧ fs = fs ∧ ls = ls ∧ ks = ks ∧ a = a ∧ b = b ∧ c13 = c13 ∧ cs = cs ∧ ns = ns ∧ os = os ∧ fs = fs ∧ ls = ls ∧ ks = ks ∧ a = a ∧ b = b ∧ c18 = c18 ∧ c13 =
     c13 ∧ c14 = c14 ∧ c1 = c1 ∧ ls = ls ∧ c15 = c15 ∧ c16 = c16 ∧ c16 = c16 ∧ c19 = c19 ∧ start = start ∧ start = start ∧ c2 = c2 ∧ fs = fs ∧ c7 = c7 ∧ c20 = c20 ∧
     c20 = c20 ∧ c30 = c30 ∧ ch = ch ∧ D.ilen ch = D.ilen ch ∧ c31 = c31 ∧ 0 = 0 ∧ D.app c39 c41 = c50 ∧ True) ∧ D.nlt (D.nat (D.sub c15 y)) (D.nat (D.sub c15 x)))
     ∧ (c38 = false → inR IntKind.i64 c43 ∧ ∃ y,
    let c51 := ownTo c3 c13 c27 y; ownOk c3 a b c27 y ∧ (cs = cs ∧ ns = ns ∧ os = os ∧ fs = fs ∧ ls = ls ∧ ks = ks ∧ a = a ∧ b = b ∧ start = start ∧ ch = ch ∧ c3 =
     c3 ∧ false = false ∧ true = true ∧ c13 = c13 ∧ c18 = c18 ∧ c20 = c20 ∧ c27 = c27 ∧ c29 = c29 ∧ c30 = c30 ∧ c40 = D.len c51 ∧ c43 = y ∧ true = true ∧ cs = cs ∧
     ns = ns ∧ os = os ∧ fs = fs ∧ ls = ls ∧ ks = ks ∧ c4 = c4 ∧ c5 = c5 ∧ c5 = c5 ∧ c8 = c8 ∧ c8 = c8 ∧ c10 = c10 ∧ c10 = c10 ∧ c12 = c12 ∧ cs = cs ∧ ns = ns ∧ os
     = os ∧ fs = fs ∧ ls = ls ∧ ks = ks ∧ a = a ∧ b = b ∧ c13 = c13 ∧ cs = cs ∧ ns = ns ∧ os = os ∧ fs = fs ∧ ls = ls ∧ ks = ks ∧ a = a ∧ b = b ∧ c18 = c18 ∧ c13 =
     c13 ∧ c14 = c14 ∧ c1 = c1 ∧ ls = ls ∧ c15 = c15 ∧ c16 = c16 ∧ c16 = c16 ∧ c19 = c19 ∧ start = start ∧ start = start ∧ c2 = c2 ∧ fs = fs ∧ c7 = c7 ∧ c20 = c20 ∧
     c20 = c20 ∧ c30 = c30 ∧ ch = ch ∧ D.ilen ch = D.ilen ch ∧ c31 = c31 ∧ 0 = 0 ∧ c39 = c51 ∧ True) ∧ D.nlt (D.nat (D.sub c15 y)) (D.nat (D.sub c15 x)))) ∧ (D.lt x
     c15 = false → c40 = c40 ∧ (c45 = true → D.ile (0 : Int) c30 ∧ D.ilt c30 (D.ilen ch) ∧ inR IntKind.i64 c32 ∧ c40 = c40 ∧ D.ine c44 (0 : Int) ∧ c40 = c40 ∧ D.ile
     (0 : Int) c46 ∧ D.ilt c46 (D.ofN c40) ∧ c40 = c40 ∧ D.ile (0 : Int) c47 ∧ D.ilt c47 c14 ∧ inR IntKind.i64 c49 ∧ D.ile (0 : Int) c47 ∧ D.ilt c47 c15 ∧ inR
     IntKind.i64 c33 ∧ ∃ (y : Int × Int × Int),
    let c52 := y.fst;
    let c53 := y.snd;
    let c54 := c53.fst;
    let c55 := c53.snd; leastOk c3 a b c20 ch c52 c54 c55 ∧ (cs = cs ∧ ns = ns ∧ os = os ∧ fs = fs ∧ ls = ls ∧ ks = ks ∧ a = a ∧ b = b ∧ start = start ∧ ch = ch ∧
     c3 = c3 ∧ false = false ∧ true = true ∧ c13 = c13 ∧ c18 = c18 ∧ c20 = c20 ∧ (D.get ls c48 c21).snd.snd.fst = c52 ∧ c49 = c54 ∧ c33 = c55 ∧ true = true ∧ cs =
     cs ∧ ns = ns ∧ os = os ∧ fs = fs ∧ ls = ls ∧ ks = ks ∧ c4 = c4 ∧ c5 = c5 ∧ c5 = c5 ∧ c8 = c8 ∧ c8 = c8 ∧ c10 = c10 ∧ c10 = c10 ∧ c12 = c12 ∧ cs = cs ∧ ns = ns
     ∧ os = os ∧ fs = fs ∧ ls = ls ∧ ks = ks ∧ a = a ∧ b = b ∧ c13 = c13 ∧ cs = cs ∧ ns = ns ∧ os = os ∧ fs = fs ∧ ls = ls ∧ ks = ks ∧ a = a ∧ b = b ∧ c18 = c18 ∧
     c13 = c13 ∧ c14 = c14 ∧ c1 = c1 ∧ ls = ls ∧ c15 = c15 ∧ c16 = c16 ∧ c16 = c16 ∧ c19 = c19 ∧ start = start ∧ start = start ∧ c2 = c2 ∧ fs = fs ∧ c7 = c7 ∧ c20 =
     c20 ∧ c20 = c20 ∧ True) ∧ D.nlt (D.nat (D.sub (D.ilen ch) c55)) (D.nat (D.sub (D.ilen ch) c30))) ∧ (c45 = false → inR IntKind.i64 c33 ∧ ∃ (y : Int × Int ×
     Int),
    let c56 := y.fst;
    let c57 := y.snd;
    let c58 := c57.fst;
    let c59 := c57.snd; leastOk c3 a b c20 ch c56 c58 c59 ∧ (cs = cs ∧ ns = ns ∧ os = os ∧ fs = fs ∧ ls = ls ∧ ks = ks ∧ a = a ∧ b = b ∧ start = start ∧ ch = ch ∧
     c3 = c3 ∧ false = false ∧ true = true ∧ c13 = c13 ∧ c18 = c18 ∧ c20 = c20 ∧ c27 = c56 ∧ c29 = c58 ∧ c33 = c59 ∧ true = true ∧ cs = cs ∧ ns = ns ∧ os = os ∧ fs
     = fs ∧ ls = ls ∧ ks = ks ∧ c4 = c4 ∧ c5 = c5 ∧ c5 = c5 ∧ c8 = c8 ∧ c8 = c8 ∧ c10 = c10 ∧ c10 = c10 ∧ c12 = c12 ∧ cs = cs ∧ ns = ns ∧ os = os ∧ fs = fs ∧ ls =
     ls ∧ ks = ks ∧ a = a ∧ b = b ∧ c13 = c13 ∧ cs = cs ∧ ns = ns ∧ os = os ∧ fs = fs ∧ ls = ls ∧ ks = ks ∧ a = a ∧ b = b ∧ c18 = c18 ∧ c13 = c13 ∧ c14 = c14 ∧ c1 =
     c1 ∧ ls = ls ∧ c15 = c15 ∧ c16 = c16 ∧ c16 = c16 ∧ c19 = c19 ∧ start = start ∧ start = start ∧ c2 = c2 ∧ fs = fs ∧ c7 = c7 ∧ c20 = c20 ∧ c20 = c20 ∧ True) ∧
     D.nlt (D.nat (D.sub (D.ilen ch) c59)) (D.nat (D.sub (D.ilen ch) c30))))) ∧ (c31 = false → (true = true → true = true → true = true) ∧ (true = true → true =
     true → true = true) ∧ (true = true → D.ile (0 : Int) c20) ∧ (true = true → D.ilt c20 (D.ilen c18)) ∧ (true = true → true = true → true = true) ∧ (true = true →
     true = true → true = true) ∧ (true = true → true = true → true = true) ∧ (true = true → D.ile (0 : Int) c27) ∧ (true = true → D.ilt c27 (D.ilen c22)) ∧ (true =
     true → true = true → true = true) ∧ (true = true → true = true → true = true) ∧ (D.and true true = true → true = true) ∧ (c35 = true → c35 = true → c35 = true)
     ∧ (c35 = true → c35 = true → c35 = true) ∧ (c35 = true → D.ile (0 : Int) c20) ∧ (c35 = true → D.ilt c20 (D.ilen c18)) ∧ (c35 = true → c35 = true → c35 = true)
     ∧ (c35 = true → c35 = true → c35 = true) ∧ (c35 = true → c35 = true → c35 = true) ∧ (c35 = true → D.ile (0 : Int) c27) ∧ (c35 = true → D.ilt c27 (D.ilen c22))
     ∧ (c35 = true → c35 = true → c35 = true) ∧ (c35 = true → c35 = true → c35 = true) ∧ (c35 = true → c35 = true → c35 = true) ∧ (D.and true c35 = true → c35 =
     true) ∧ D.cnd c35 (D.le c34 c29) false = true ∧ True))))) :
    evF { mkc KQ6 with mb := fun t => t == 77 } (lleastA (cs, ns, os, fs, ls, ks) a b ch) 6 [net cs ns os fs ls ks, .dat I a, .dat I b, .dat U8 start, .dat (.sl U8) ch] [] ⟨u8sP start ch, .dat .bool true, []⟩ := of_eq (by kernel_rfl) hvc

theorem BndOk.right {q : Nat} {ls : List Line} {c : List Int} {B : Int → Int → Int} (h : BndOk q ls c B) (hc : CostsOk q ls c) {k : Nat} {l : Line} (hk : ls[k]? = some l) (hn : c.getD k 0 ≠ noneI) :
    ∀ (f : Nat) (o : Int), 0 ≤ o → o < q → 0 ≤ B o (lFrom l) → (B o (lFrom l)).toNat ≤ f → 0 ≤ B o (lTo l) ∧ B o (lTo l) ≤ B o (lFrom l) + c.getD k 0
  | f, o, o0, o1, hB, hf => by
    obtain ⟨⟨f0, f1⟩, t0, t1⟩ := hc.ends k l hk
    by_cases e : o = lFrom l
    · obtain ⟨s1, s2⟩ := h.step k l hk hn (lTo l) t0 t1 (by rw [h.same _ t0 t1]; omega)
      rw [h.same _ t0 t1] at s2
      have hz := h.same _ f0 f1
      rw [e]; omega
    · obtain ⟨j, m, k1, k2, k3, k4, k5⟩ := h.from_ o (lFrom l) o0 o1 f0 f1 e hB
      have hp := hc.pos j m k1 k2
      obtain ⟨_, u0, u1⟩ := hc.ends j m k1
      match f, hf with
      | 0, hf => omega
      | f + 1, hf =>
        obtain ⟨i1, i2⟩ := BndOk.right h hc hk hn f (lTo m) u0 u1 k4 (by omega)
        obtain ⟨s1, s2⟩ := h.step j m k1 k2 (lTo l) t0 t1 i1
        rw [k3] at s1 s2
        exact ⟨s1, by omega⟩
theorem mem_own {n : Net} {c : List Int} {at_ k v : Int} (h : v ∈ ownTo n c at_ k) : 0 ≤ v ∧ v < k ∧ (lineOf n v).2.1 = at_ ∧ c.getD v.toNat 0 ≠ noneI := by
  unfold ownTo at h
  obtain ⟨i, hi, rfl⟩ := List.mem_map.1 h
  obtain ⟨h1, h2⟩ := List.mem_filter.1 hi
  have := List.mem_range.1 h1
  have h2 := of_decide_eq_true h2
  exact ⟨by omega, by omega, h2.1, by rw [Int.toNat_natCast]; exact h2.2⟩
theorem own_next {n : Net} {c : List Int} {at_ k : Int} (k0 : 0 ≤ k) : ownTo n c at_ (k + 1) = ownTo n c at_ k ++ (if (lineOf n k).2.1 = at_ ∧ c.getD k.toNat 0 ≠ noneI then [k] else []) := by
  unfold ownTo
  rw [show (k + 1).toNat = k.toNat + 1 by omega, List.range_succ, List.filter_append, List.map_append]
  congr 1
  rw [List.filter_cons, List.filter_nil, Int.toNat_of_nonneg k0]
  by_cases g : (lineOf n k).2.1 = at_ ∧ c.getD k.toNat 0 ≠ noneI
  · rw [if_pos g, if_pos (decide_eq_true g), List.map_singleton, Int.toNat_of_nonneg k0]
  · rw [if_neg g, if_neg (by rw [decide_eq_true_eq]; exact g)]; rfl
theorem own_len {n : Net} {c : List Int} {at_ k : Int} : (ownTo n c at_ k).length ≤ k.toNat := by
  unfold ownTo
  rw [List.length_map]
  refine Nat.le_trans (List.length_filter_le _ _) ?_
  rw [List.length_range]; exact Nat.le_refl _
theorem t_lleast (a b start : Int) (ch : List Int) (cs : List (Int × List Bool × List Int)) (ns os : List ByteArray) (fs : List Off) (ls : List Line) (ks : List Cla) : SoundC Tryz.prog G0 6 [net cs ns os fs ls ks, .dat I a, .dat I b, .dat U8 start, .dat (.sl U8) ch] [] ⟨u8sP start ch, .dat .bool true, []⟩ := by
  refine sound_of_ev (c := { mkc KQ6 with mb := fun t => t == 77 }) KSQ6 KI0s hm (vc_lleast a b start ch cs ns os fs ls ks ⟨rfl, fun hp => ?_⟩)
  obtain ⟨⟨w0, w1⟩, hch⟩ := hp
  simp only [cnd_or, cnd_and, D.and, D.or, D.not, Bool.true_and, Bool.and_true, Bool.false_or, Bool.or_false, eq_self, true_and, and_true, imp_self, implies_true, Bool.not_eq_true', Bool.or_eq_true, Bool.or_eq_false_iff, Bool.not_eq_false', Bool.and_eq_true, Bool.and_eq_false_imp, Bool.not_not, forall_const, exists_eq_right, exists_eq_right', exists_eq_left, exists_eq_left', Int.toNat_natCast, Nat.zero_add, Nat.mul_one, Int.ofNat_eq_natCast, D.nil, D.eq, D.ne, D.lt, D.gt, D.le, D.ge, D.beq, D.ilen, D.slen, D.ile, D.ilt, D.ine, D.nle, D.nlt, D.sub, D.add, D.mul, D.neg, D.nat, D.ofN, D.len, D.nadd, D.nmul, D.get, D.mn, D.mx, D.set, D.app, D.tail, D.part, D.seg, D.rep, D.at2, decide_eq_true_eq, decide_eq_false_iff_not, beq_iff_eq, bne_iff_ne, beq_eq_false_iff_ne, bne_eq_false_iff_eq, D.wrap, D.allNil, lineOf_fold cs ns os fs ls ks]
  refine ⟨fun h => few_fewC (few16_iff.1 h.1).1, fun ⟨⟨⟨hf, hq⟩, hr⟩, h10⟩ => ?_⟩
  have h10 : ch.length ≤ 10 := by omega
  obtain ⟨⟨g0, g1, g2, g3⟩, hs⟩ := ruse_iff.1 hr
  have f5 : fs.length ≤ 5 := (few16_iff.1 hf).2.1
  have l12 : ls.length ≤ 12 := (few16_iff.1 hf).2.2
  have hcl : (rcostsF (cs, ns, os, fs, ls, ks) a b).length = ls.length := by rw [rcosts_eq cs ns os fs ls ks hr]; exact costs_length cs ns os fs ls ks a b
  have s1 : Mp.Sq fs.length (rboundsF (cs, ns, os, fs, ls, ks) a b) := by rw [rbnds_eq cs ns os fs ls ks hr]; exact bsq cs ns os fs ls ks _
  have hsq1 := sq16_of cs ns os fs ls ks s1
  have hP1 := sqP_of cs ns os fs ls ks hf s1
  have hBo : BndOk fs.length ls (rcostsF (cs, ns, os, fs, ls, ks) a b) (fun i j => at2 (rboundsF (cs, ns, os, fs, ls, ks) a b) i j) := by
    rw [rbnds_eq cs ns os fs ls ks hr, rcosts_eq cs ns os fs ls ks hr]; exact (bounds_ok cs ns os fs ls ks (costs_ok cs ns os fs ls ks hr)).1
  have hCo : CostsOk fs.length ls (rcostsF (cs, ns, os, fs, ls, ks) a b) := by rw [rcosts_eq cs ns os fs ls ks hr]; exact cost_pos cs ns os fs ls ks (costs_ok cs ns os fs ls ks hr)
  have hcb : ∀ i : Int, 0 ≤ i → i < ls.length → (rcostsF (cs, ns, os, fs, ls, ks) a b).getD i.toNat 0 ≤ 1000000 := fun i i0 i1 => by
    rw [rcosts_eq cs ns os fs ls ks hr]
    have := (costs_ok cs ns os fs ls ks hr).2.2 i i0 (by rw [costs_length cs ns os fs ls ks]; exact i1)
    unfold noneI at this
    omega
  have n1 := s1.len
  have row1 := s1.row
  have hat : ∀ i j : Int, ((rboundsF (cs, ns, os, fs, ls, ks) a b).getD i.toNat []).getD j.toNat 0 = at2 (rboundsF (cs, ns, os, fs, ls, ks) a b) i j := fun _ _ => rfl
  have i0 : 0 ≤ D.rem start fs.length := Int.tmod_nonneg _ w0
  have i1 : D.rem start fs.length < fs.length := Int.tmod_lt_of_pos _ (by omega)
  generalize D.rem start fs.length = o at *
  simp only [hat]
  have r1 := row1 o i0 i1
  refine ⟨fun _ => hP1, fun h => ?_, fun _ => ⟨in_small (by omega), hq, ⟨(o, 0, 0), ⟨hf, hr, i0, i1, i0, i1, Int.le_refl _, Int.natCast_nonneg _, h10, Int.le_refl _, ?_, ?_⟩, rfl, rfl, rfl⟩, fun x => ?_⟩⟩
  · rw [hsq1] at h
    rcases h with h | h
    · omega
    · cases h
  · have : at2 (rboundsF (cs, ns, os, fs, ls, ks) a b) o o = 0 := hBo.same o i0 i1
    show 0 ≤ at2 (rboundsF (cs, ns, os, fs, ls, ks) a b) o o
    omega
  · have : at2 (rboundsF (cs, ns, os, fs, ls, ks) a b) o o = 0 := hBo.same o i0 i1
    show at2 (rboundsF (cs, ns, os, fs, ls, ks) a b) o o ≤ 0
    omega
  obtain ⟨t, s, i⟩ := x
  simp only
  rintro ⟨_, _, _, _, t0, t1, x0, x1, _, sm, b0, b1⟩
  have t1 : t < fs.length := t1
  have b0 : 0 ≤ at2 (rboundsF (cs, ns, os, fs, ls, ks) a b) o t := b0
  have b1 : at2 (rboundsF (cs, ns, os, fs, ls, ks) a b) o t ≤ s := b1
  have o0 := i0
  refine ⟨fun hlt => ⟨⟨0, ⟨hf, hr, Int.le_refl _, Int.natCast_nonneg _⟩, rfl, rfl, rfl⟩, fun x hx => ⟨fun hxl => ?_, fun hxl => ⟨fun hown => ?_, fun hown => ?_⟩⟩⟩, fun hge => ?_⟩
  · have y0 := hx.2.2.1
    have hnx := own_next (n := (cs, ns, os, fs, ls, ks)) (c := rcostsF (cs, ns, os, fs, ls, ks) a b) (at_ := t) y0
    have hln := own_len (n := (cs, ns, os, fs, ls, ks)) (c := rcostsF (cs, ns, os, fs, ls, ks) a b) (at_ := t) (k := x)
    have hx1 : ownOk (cs, ns, os, fs, ls, ks) a b t (x + 1) := ⟨hf, hr, by omega, by show x + 1 ≤ (ls.length : Int); omega⟩
    refine ⟨y0, hxl, fun _ => y0, fun _ => by omega, fun h => ?_, fun h => ?_⟩
    · rw [if_pos ⟨h.1, h.2⟩] at hnx
      simp only [List.length_singleton]
      exact ⟨by omega, by omega, in_small (by omega), x + 1, hx1, ⟨by rw [hnx, List.length_append]; rfl, rfl, hnx.symm⟩, by omega⟩
    · rw [if_neg (fun g => g.2 (h g.1)), List.append_nil] at hnx
      exact ⟨in_small (by omega), x + 1, hx1, ⟨by rw [hnx], rfl, hnx.symm⟩, by omega⟩
  · have hci := hch (ch.getD i.toNat 0) (by rw [List.getD_eq_getElem?_getD, List.getElem?_eq_getElem (by omega), Option.getD_some]; exact List.getElem_mem _)
    have hmem := fun v (h : v ∈ ownTo (cs, ns, os, fs, ls, ks) (rcostsF (cs, ns, os, fs, ls, ks) a b) t x) => mem_own h
    have hx2 : x ≤ ls.length := hx.2.2.2
    generalize ownTo (cs, ns, os, fs, ls, ks) (rcostsF (cs, ns, os, fs, ls, ks) a b) t x = own at *
    have q0 : 0 ≤ D.rem (ch.getD i.toNat 0) own.length := Int.tmod_nonneg _ hci.1
    have q1 : D.rem (ch.getD i.toNat 0) own.length < own.length := Int.tmod_lt_of_pos _ (by omega)
    generalize D.rem (ch.getD i.toNat 0) own.length = r at *
    have hv : own.getD r.toNat 0 ∈ own := by rw [List.getD_eq_getElem?_getD, List.getElem?_eq_getElem (by omega), Option.getD_some]; exact List.getElem_mem _
    obtain ⟨v0, v1, v2, v3⟩ := hmem _ hv
    generalize own.getD r.toNat 0 = v at *
    have vl : v < ls.length := by omega
    have hcv := hcb v v0 vl
    have hg : ls[v.toNat]? = some (lineOf (cs, ns, os, fs, ls, ks) v) := by
      unfold lineOf
      show _ = some (ls.getD v.toNat _)
      rw [List.getD_eq_getElem?_getD, List.getElem?_eq_getElem (by omega), Option.getD_some]
    have hpos := hCo.pos v.toNat _ hg v3
    obtain ⟨_, m0, m1⟩ := hCo.ends v.toNat _ hg
    have hb0 : 0 ≤ at2 (rboundsF (cs, ns, os, fs, ls, ks) a b) o (lFrom (lineOf (cs, ns, os, fs, ls, ks) v)) := by
      have : lFrom (lineOf (cs, ns, os, fs, ls, ks) v) = t := v2
      rw [this]; exact b0
    obtain ⟨k1, k2⟩ := hBo.right hCo hg v3 _ o o0 i1 hb0 (Nat.le_refl _)
    have k2 : at2 (rboundsF (cs, ns, os, fs, ls, ks) a b) o (lTo (lineOf (cs, ns, os, fs, ls, ks) v)) ≤ at2 (rboundsF (cs, ns, os, fs, ls, ks) a b) o (lFrom (lineOf (cs, ns, os, fs, ls, ks) v)) + (rcostsF (cs, ns, os, fs, ls, ks) a b).getD v.toNat 0 := k2
    rw [show lFrom (lineOf (cs, ns, os, fs, ls, ks) v) = t from v2] at k2
    have hfin : at2 (rboundsF (cs, ns, os, fs, ls, ks) a b) o (lineOf (cs, ns, os, fs, ls, ks) v).2.2.1 ≤ s + (rcostsF (cs, ns, os, fs, ls, ks) a b).getD v.toNat 0 := by
      show at2 (rboundsF (cs, ns, os, fs, ls, ks) a b) o (lTo (lineOf (cs, ns, os, fs, ls, ks) v)) ≤ s + (rcostsF (cs, ns, os, fs, ls, ks) a b).getD v.toNat 0
      omega
    have hok : leastOk (cs, ns, os, fs, ls, ks) a b o ch (lineOf (cs, ns, os, fs, ls, ks) v).2.2.1 (s + (rcostsF (cs, ns, os, fs, ls, ks) a b).getD v.toNat 0) (i + 1) := ⟨hf, hr, o0, i1, m0, m1, by omega, by omega, h10, by omega, k1, hfin⟩
    exact ⟨x0, hlt, in_small (by omega), by omega, q0, q1, v0, by omega, in_small (by omega), v0, vl, in_small (by omega), ((lineOf (cs, ns, os, fs, ls, ks) v).2.2.1, s + (rcostsF (cs, ns, os, fs, ls, ks) a b).getD v.toNat 0, i + 1), hok, ⟨rfl, rfl, rfl⟩, by show ((ch.length : Int) - (i + 1)).toNat < _; omega⟩
  · have hok : leastOk (cs, ns, os, fs, ls, ks) a b o ch t s (i + 1) := ⟨hf, hr, o0, i1, t0, t1, by omega, by omega, h10, by omega, b0, b1⟩
    exact ⟨in_small (by omega), (t, s, i + 1), hok, ⟨rfl, rfl, rfl⟩, by show ((ch.length : Int) - (i + 1)).toNat < _; omega⟩
  · exact ⟨o0, by omega, t0, by omega, fun _ => o0, fun _ => by omega, fun _ => t0, fun _ => by omega, b0, b1⟩
end Go.Eng.Sv
