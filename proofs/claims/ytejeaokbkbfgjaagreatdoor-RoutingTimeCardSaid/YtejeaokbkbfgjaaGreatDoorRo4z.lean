/- PeRo4z -/
import Derived.Test.YtejeaokbkbfgjaaGreatDoorX22
import Derived.Test.YtejeaokbkbfgjaaGreatDoorRo5z
set_option linter.unusedSimpArgs false
set_option linter.unusedVariables false
set_option maxRecDepth 100000
namespace Go.Eng.Sv
open Go.Proofs
open Go.Eng.Mp (buildF rowsF rowF preBuild upto at2 idx2 starS starE starP)

abbrev U8 : Ty := .int .u8
abbrev U16 : Ty := .int .u16
noncomputable def u8P (a : Int) : Prop := 0 ≤ a ∧ a ≤ 255
noncomputable def u16P (a : Int) : Prop := 0 ≤ a ∧ a ≤ 65535
set_option maxRecDepth 100000 in
theorem vc_ltime (a b which at_ : Int) (cs : List (Int × List Bool × List Int)) (ns os : List ByteArray) (fs : List Off) (ls : List Line) (ks : List Cla) (hvc :
    let c1 := (cs, ns, os, fs, ls, ks);
    let c2 := D.not (few16 c1);
    let c3 := D.not c2;
    let c4 := D.cnd c2 true (D.not (ruseF c1 a b));
    let c5 := D.not c4;
    let c6 := D.ilen ls;
    let c7 := D.cnd c4 true (D.eq c6 (0 : Int));
    let c8 := rcostsF c1 a b;
    let c9 := D.ilen c8;
    let c10 := D.ne c9 c6;
    let c11 := D.rem which c6;
    let c12 := D.nat c11;
    let c13 := D.get c8 c12 (0 : Int);
    let c14 := D.eq c13 (-1099511627776 : Int);
    let c15 := D.add a (D.rem at_ (D.sub b a));
    let c16 := (D.get ls c12 (ByteArray.mk (D.nil UInt8).toArray, (0 : Int), (0 : Int), (0 : Int), (0 : Int), (0 : Int))).snd.snd;
    let c17 := c16.fst;
    let c18 := D.cnd true (D.eq (departE c1 c11 c15) (0 : Int)) false;
    let c19 := D.add (departD c1 c11 c15) c16.snd.snd.fst;
    let c20 := (D.get fs (D.nat c17) (ByteArray.mk (D.nil UInt8).toArray, (0 : Int), (0 : Int), (0 : Int), (0 : Int), (0 : Int), D.nil ByteArray)).snd.snd.snd.snd;
    let c21 := D.mul c20.fst c20.snd.fst;
    let c22 := D.add c19 c21;
    let c23 := D.sub c22 c15; true = true ∧ (u8P which ∧ u16P at_ → True ∧ True ∧ (c3 = true → c3 = true → c3 = true) ∧ (c3 = true → c3 = true → c3 = true) ∧ (c3 =
     true → c3 = true → c3 = true) ∧ (c3 = true → fewC c1 = true) ∧ (c3 = true → c3 = true → c3 = true) ∧ (D.and true c3 = true → c3 = true) ∧ (c5 = true → c5 =
     true → c5 = true) ∧ (c5 = true → c5 = true → c5 = true) ∧ (c5 = true → c5 = true → c5 = true) ∧ (D.and true c5 = true → c5 = true) ∧ (c7 = true → true = true ∧
     True) ∧ (c7 = false → True ∧ inR IntKind.i64 which ∧ D.ine c6 (0 : Int) ∧ (c10 = true → false = true ∧ True) ∧ (c10 = false → D.ile (0 : Int) c11 ∧ D.ilt c11
     c9 ∧ (c14 = true → true = true ∧ True) ∧ (c14 = false → inR IntKind.i64 at_ ∧ inR IntKind.i64 (D.sub b a) ∧ D.ine (D.sub b a) (0 : Int) ∧ inR IntKind.i64 c15 ∧
     True ∧ D.ile (0 : Int) c11 ∧ D.ilt c11 c6 ∧ D.ile (0 : Int) c17 ∧ D.ilt c17 (D.ilen fs) ∧ 1 = 1 ∧ 0 = 0 ∧ (true = true → true = true → true = true) ∧ (D.and
     true true = true → true = true) ∧ (c18 = true → c18 = true → c18 = true) ∧ (c18 = true → c18 = true → c18 = true) ∧ (c18 = true → c18 = true → c18 = true) ∧
     (c18 = true → D.ile (0 : Int) c11) ∧ (c18 = true → D.ilt c11 c6) ∧ (c18 = true → c18 = true → c18 = true) ∧ (c18 = true → c18 = true → c18 = true) ∧ (c18 =
     true → c18 = true → c18 = true) ∧ (c18 = true → c18 = true → c18 = true) ∧ (c18 = true → inR IntKind.i64 c19) ∧ (c18 = true → 1 = 1) ∧ (c18 = true → c18 = true
     → c18 = true) ∧ (c18 = true → 1 = 1) ∧ (c18 = true → 0 = 0) ∧ (c18 = true → 1 = 1) ∧ (c18 = true → c18 = true → c18 = true) ∧ (c18 = true → 1 = 1) ∧ (c18 =
     true → 0 = 0) ∧ (c18 = true → c18 = true → c18 = true) ∧ (c18 = true → c18 = true → c18 = true) ∧ (c18 = true → inR IntKind.i64 c21) ∧ (c18 = true → c18 = true
     → c18 = true) ∧ (c18 = true → c18 = true → c18 = true) ∧ (c18 = true → inR IntKind.i64 c22) ∧ (c18 = true → c18 = true → c18 = true) ∧ (c18 = true → c18 = true
     → c18 = true) ∧ (c18 = true → inR IntKind.i64 c23) ∧ (c18 = true → c18 = true → c18 = true) ∧ (c18 = true → c18 = true → c18 = true) ∧ (c18 = true → D.ile (0 :
     Int) c11) ∧ (c18 = true → D.ilt c11 c9) ∧ (c18 = true → c18 = true → c18 = true) ∧ (c18 = true → c18 = true → c18 = true) ∧ (c18 = true → c18 = true → c18 =
     true) ∧ (D.and true c18 = true → c18 = true) ∧ D.cnd c18 (D.le c23 c13) false = true ∧ True))))) :
    evF (mkc KQ6) noAnn 10 [net cs ns os fs ls ks, .dat I a, .dat I b, .dat U8 which, .dat U16 at_] [] ⟨u8P which ∧ u16P at_, .dat .bool true, []⟩ := of_eq (by kernel_rfl) hvc

theorem rcosts_eq (cs : List (Int × List Bool × List Int)) (ns os : List ByteArray) (fs : List Off) (ls : List Line) (ks : List Cla) {a b : Int} (h : ruseF (cs, ns, os, fs, ls, ks) a b = true) : rcostsF (cs, ns, os, fs, ls, ks) a b = costsF (cs, ns, os, fs, ls, ks) a b := by unfold rcostsF; rw [h]; rfl
theorem rbnds_eq (cs : List (Int × List Bool × List Int)) (ns os : List ByteArray) (fs : List Off) (ls : List Line) (ks : List Cla) {a b : Int} (h : ruseF (cs, ns, os, fs, ls, ks) a b = true) : rboundsF (cs, ns, os, fs, ls, ks) a b = boundsF (cs, ns, os, fs, ls, ks) (costsF (cs, ns, os, fs, ls, ks) a b) := by unfold rboundsF; rw [h]; rfl
theorem rnext_eq (cs : List (Int × List Bool × List Int)) (ns os : List ByteArray) (fs : List Off) (ls : List Line) (ks : List Cla) {a b : Int} (h : ruseF (cs, ns, os, fs, ls, ks) a b = true) : rnextF (cs, ns, os, fs, ls, ks) a b = nextF (cs, ns, os, fs, ls, ks) (costsF (cs, ns, os, fs, ls, ks) a b) := by unfold rnextF; rw [h]; rfl
theorem costs_length (cs : List (Int × List Bool × List Int)) (ns os : List ByteArray) (fs : List Off) (ls : List Line) (ks : List Cla) (a b : Int) : (costsF (cs, ns, os, fs, ls, ks) a b).length = ls.length := costsF_len _ _ _
theorem sq16_of (cs : List (Int × List Bool × List Int)) (ns os : List ByteArray) (fs : List Off) (ls : List Line) (ks : List Cla) {m : List (List Int)} (h : Mp.Sq fs.length m) : sq16 (cs, ns, os, fs, ls, ks) m = true := by
  unfold sq16
  rw [Bool.and_eq_true, decide_eq_true_eq, List.all_eq_true]
  refine ⟨h.len, fun r hr => ?_⟩
  obtain ⟨i, hi, rfl⟩ := List.getElem_of_mem hr
  have := h.row i (by omega) (by rw [← h.len]; omega)
  rw [Int.toNat_natCast, List.getD_eq_getElem?_getD, List.getElem?_eq_getElem hi, Option.getD_some] at this
  exact decide_eq_true this
theorem bsq (cs : List (Int × List Bool × List Int)) (ns os : List ByteArray) (fs : List Off) (ls : List Line) (ks : List Cla) (c : List Int) : Mp.Sq fs.length (boundsF (cs, ns, os, fs, ls, ks) c) := Mp.buildF_sq _ _
theorem nsq (cs : List (Int × List Bool × List Int)) (ns os : List ByteArray) (fs : List Off) (ls : List Line) (ks : List Cla) (c : List Int) : Mp.Sq fs.length (nextF (cs, ns, os, fs, ls, ks) c) := Mp.buildF_sq _ _
theorem sqP_of (cs : List (Int × List Bool × List Int)) (ns os : List ByteArray) (fs : List Off) (ls : List Line) (ks : List Cla) {m : List (List Int)} (hf : few16 (cs, ns, os, fs, ls, ks) = true) (h : Mp.Sq fs.length m) : sqP16 (cs, ns, os, fs, ls, ks) m := by
  obtain ⟨_, h1, _⟩ := few16_iff.1 hf
  have h1 : fs.length ≤ 5 := h1
  refine ⟨by show fs.length ≤ 1000000; omega, by rw [h.len]; omega⟩
theorem bounds_none (cs : List (Int × List Bool × List Int)) (ns os : List ByteArray) (fs : List Off) (ls : List Line) (ks : List Cla) {a b : Int} (h : ruseF (cs, ns, os, fs, ls, ks) a b = false) : rboundsF (cs, ns, os, fs, ls, ks) a b = [] := by unfold rboundsF; rw [h]; rfl
theorem sqP_bnds (cs : List (Int × List Bool × List Int)) (ns os : List ByteArray) (fs : List Off) (ls : List Line) (ks : List Cla) {a b : Int} (hf : few16 (cs, ns, os, fs, ls, ks) = true) : sqP16 (cs, ns, os, fs, ls, ks) (rboundsF (cs, ns, os, fs, ls, ks) a b) := by
  cases h : ruseF (cs, ns, os, fs, ls, ks) a b with
  | true => rw [rbnds_eq cs ns os fs ls ks h]; exact sqP_of cs ns os fs ls ks hf (bsq cs ns os fs ls ks _)
  | false =>
    obtain ⟨_, h1, _⟩ := few16_iff.1 hf
    have h1 : fs.length ≤ 5 := h1
    rw [bounds_none cs ns os fs ls ks h]; exact ⟨by show fs.length ≤ 1000000; omega, Nat.zero_le _⟩
theorem t_ltime (a b which at_ : Int) (cs : List (Int × List Bool × List Int)) (ns os : List ByteArray) (fs : List Off) (ls : List Line) (ks : List Cla) : SoundC Tryz.prog G0 10 [net cs ns os fs ls ks, .dat I a, .dat I b, .dat U8 which, .dat U16 at_] [] ⟨u8P which ∧ u16P at_, .dat .bool true, []⟩ := by
  refine sound_of_ev (c := mkc KQ6) KSQ6 KI0s hm (vc_ltime a b which at_ cs ns os fs ls ks ⟨rfl, fun hp => ?_⟩)
  obtain ⟨⟨w0, w1⟩, a0', a1'⟩ := hp
  simp only [cnd_or, cnd_and, D.and, D.or, D.not, Bool.true_and, Bool.and_true, Bool.false_or, Bool.or_false, eq_self, true_and, and_true, imp_self, implies_true, Bool.not_eq_true', Bool.or_eq_true, Bool.or_eq_false_iff, Bool.not_eq_false', Bool.and_eq_true, Bool.and_eq_false_imp, Bool.not_not, forall_const, exists_eq_right, exists_eq_right', exists_eq_left, exists_eq_left', Int.toNat_natCast, Nat.zero_add, Nat.mul_one, Int.ofNat_eq_natCast, D.nil, D.eq, D.ne, D.lt, D.gt, D.le, D.ge, D.beq, D.ilen, D.slen, D.ile, D.ilt, D.ine, D.nle, D.nlt, D.sub, D.add, D.mul, D.neg, D.nat, D.ofN, D.len, D.nadd, D.nmul, D.get, D.mn, D.mx, D.set, D.app, D.tail, D.part, D.seg, D.rep, D.at2, decide_eq_true_eq, decide_eq_false_iff_not, beq_iff_eq, bne_iff_ne, beq_eq_false_iff_ne, bne_eq_false_iff_eq, D.wrap, D.allNil, lineOf_fold cs ns os fs ls ks]
  refine ⟨fun h => few_fewC (few16_iff.1 h).1, fun h => ?_⟩
  obtain ⟨⟨hf, hr⟩, hl⟩ := h
  obtain ⟨⟨g0, g1, g2, g3⟩, hs⟩ := ruse_iff.1 hr
  have i0 : 0 ≤ D.rem which ls.length := Int.tmod_nonneg _ w0
  have i1 : D.rem which ls.length < ls.length := Int.tmod_lt_of_pos _ (by omega)
  have s0 : 0 ≤ D.rem at_ (b - a) := Int.tmod_nonneg _ a0'
  have s1 : D.rem at_ (b - a) < b - a := Int.tmod_lt_of_pos _ (by omega)
  generalize D.rem which ls.length = i at *
  generalize D.rem at_ (b - a) = s at *
  have hcl := costs_length cs ns os fs ls ks a b
  have lf : fs.getD (lineOf (cs, ns, os, fs, ls, ks) i).2.2.1.toNat (⟨#[]⟩, 0, 0, 0, 0, 0, []) = offOf (cs, ns, os, fs, ls, ks) (lineOf (cs, ns, os, fs, ls, ks) i).2.2.1 := rfl
  have er : (rcostsF (cs, ns, os, fs, ls, ks) a b).length = ls.length := by rw [rcosts_eq cs ns os fs ls ks hr, hcl]
  have ec : (rcostsF (cs, ns, os, fs, ls, ks) a b).getD i.toNat 0 = costF (cs, ns, os, fs, ls, ks) a b i := by rw [rcosts_eq cs ns os fs ls ks hr, costsF_at cs ns os fs ls ks a b i0 i1]
  obtain ⟨l0, l1, l2, l3, l4, l5, l6⟩ := sound_line cs ns os fs ls ks hs i0 i1
  obtain ⟨o0, o1⟩ := sound_off cs ns os fs ls ks hs l2 l3
  refine ⟨in_small (by omega), hl, fun h => (h (by rw [er])).elim, fun _ => ⟨i0, by omega, fun hc => ?_⟩⟩
  rw [ec] at hc
  obtain ⟨e1, d0, d1, e2⟩ := cost_wait cs ns os fs ls ks hr i0 i1 hc
  have ha := line_at cs ns os fs ls ks ⟨sound_noF cs ns os fs ls ks hs, i0, i1⟩
  obtain ⟨u, u1, u2⟩ := (wait_some ha g1 e1).1 (a + s) (by omega) (by omega)
  have hu : usableF (cs, ns, os, fs, ls, ks) i [a + s] = true := by
    unfold usableF idxF
    rw [hs, Bool.and_true, Bool.and_eq_true]
    exact ⟨decide_eq_true ⟨i0, i1⟩, by simp [timeOk]; omega⟩
  obtain ⟨k1, k2⟩ := depart_of hu u1
  have ur := firstO_range u1
  have lf1 : (fs.getD (lineOf (cs, ns, os, fs, ls, ks) i).2.2.1.toNat (⟨#[]⟩, 0, 0, 0, 0, 0, [])).2.2.2.2.1 * (fs.getD (lineOf (cs, ns, os, fs, ls, ks) i).2.2.1.toNat (⟨#[]⟩, 0, 0, 0, 0, 0, [])).2.2.2.2.2.1 = (offOf (cs, ns, os, fs, ls, ks) (lineOf (cs, ns, os, fs, ls, ks) i).2.2.1).2.2.2.2.1 * (offOf (cs, ns, os, fs, ls, ks) (lineOf (cs, ns, os, fs, ls, ks) i).2.2.1).2.2.2.2.2.1 := rfl
  generalize (offOf (cs, ns, os, fs, ls, ks) (lineOf (cs, ns, os, fs, ls, ks) i).2.2.1).2.2.2.2.1 * (offOf (cs, ns, os, fs, ls, ks) (lineOf (cs, ns, os, fs, ls, ks) i).2.2.1).2.2.2.2.2.1 = pm at *
  exact ⟨in_small (by omega), in_small (by omega), by omega, in_small (by omega), i0, i1, l2, l3, fun _ => i0, fun _ => i1, fun _ => in_small (by omega), fun _ => in_small (by rw [lf1]; omega), fun _ => in_small (by rw [lf1]; omega), fun _ => in_small (by rw [lf1]; omega), fun _ => i0, fun _ => by omega, k2, decide_eq_true (by rw [ec, lf1, k1, e2]; omega)⟩
end Go.Eng.Sv
