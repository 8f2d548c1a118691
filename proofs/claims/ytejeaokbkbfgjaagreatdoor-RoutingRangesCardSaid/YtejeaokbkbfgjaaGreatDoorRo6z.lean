/- PeRo4z, PeRo6z -/
import Derived.Test.YtejeaokbkbfgjaaGreatDoorX22
import Derived.Test.YtejeaokbkbfgjaaGreatDoorRo5z
set_option linter.unusedSimpArgs false
set_option linter.unusedVariables false
set_option maxRecDepth 100000
namespace Go.Eng.Sv
open Go.Proofs
open Go.Eng.Mp (buildF rowsF rowF preBuild upto at2 idx2 starS starE starP)

abbrev U8 : Ty := .int .u8
abbrev U16 : Ty := .int .u16
noncomputable def u8P (a : Int) : Prop := 0 ≤ a ∧ a ≤ 255
noncomputable def u16P (a : Int) : Prop := 0 ≤ a ∧ a ≤ 65535
set_option maxRecDepth 100000 in
theorem vc_ltime (a b which at_ : Int) (cs : List (Int × List Bool × List Int)) (ns os : List ByteArray) (fs : List Off) (ls : List Line) (ks : List Cla) (hvc :
    let c1 := (cs, ns, os, fs, ls, ks);
    let c2 := D.not (few16 c1);
    let c3 := D.not c2;
    let c4 := D.cnd c2 true (D.not (ruseF c1 a b));
    let c5 := D.not c4;
    let c6 := D.ilen ls;
    let c7 := D.cnd c4 true (D.eq c6 (0 : Int));
    let c8 := rcostsF c1 a b;
    let c9 := D.ilen c8;
    let c10 := D.ne c9 c6;
    let c11 := D.rem which c6;
    let c12 := D.nat c11;
    let c13 := D.get c8 c12 (0 : Int);
    let c14 := D.eq c13 (-1099511627776 : Int);
    let c15 := D.add a (D.rem at_ (D.sub b a));
    let c16 := (D.get ls c12 (ByteArray.mk (D.nil UInt8).toArray, (0 : Int), (0 : Int), (0 : Int), (0 : Int), (0 : Int))).snd.snd;
    let c17 := c16.fst;
    let c18 := D.cnd true (D.eq (departE c1 c11 c15) (0 : Int)) false;
    let c19 := D.add (departD c1 c11 c15) c16.snd.snd.fst;
    let c20 := (D.get fs (D.nat c17) (ByteArray.mk (D.nil UInt8).toArray, (0 : Int), (0 : Int), (0 : Int), (0 : Int), (0 : Int), D.nil ByteArray)).snd.snd.snd.snd;
    let c21 := D.mul c20.fst c20.snd.fst;
    let c22 := D.add c19 c21;
    let c23 := D.sub c22 c15; true = true ∧ (u8P which ∧ u16P at_ → True ∧ True ∧ (c3 = true → c3 = true → c3 = true) ∧ (c3 = true → c3 = true → c3 = true) ∧ (c3 =
     true → c3 = true → c3 = true) ∧ (c3 = true → fewC c1 = true) ∧ (c3 = true → c3 = true → c3 = true) ∧ (D.and true c3 = true → c3 = true) ∧ (c5 = true → c5 =
     true → c5 = true) ∧ (c5 = true → c5 = true → c5 = true) ∧ (c5 = true → c5 = true → c5 = true) ∧ (D.and true c5 = true → c5 = true) ∧ (c7 = true → true = true ∧
     True) ∧ (c7 = false → True ∧ inR IntKind.i64 which ∧ D.ine c6 (0 : Int) ∧ (c10 = true → false = true ∧ True) ∧ (c10 = false → D.ile (0 : Int) c11 ∧ D.ilt c11
     c9 ∧ (c14 = true → true = true ∧ True) ∧ (c14 = false → inR IntKind.i64 at_ ∧ inR IntKind.i64 (D.sub b a) ∧ D.ine (D.sub b a) (0 : Int) ∧ inR IntKind.i64 c15 ∧
     True ∧ D.ile (0 : Int) c11 ∧ D.ilt c11 c6 ∧ D.ile (0 : Int) c17 ∧ D.ilt c17 (D.ilen fs) ∧ 1 = 1 ∧ 0 = 0 ∧ (true = true → true = true → true = true) ∧ (D.and
     true true = true → true = true) ∧ (c18 = true → c18 = true → c18 = true) ∧ (c18 = true → c18 = true → c18 = true) ∧ (c18 = true → c18 = true → c18 = true) ∧
     (c18 = true → D.ile (0 : Int) c11) ∧ (c18 = true → D.ilt c11 c6) ∧ (c18 = true → c18 = true → c18 = true) ∧ (c18 = true → c18 = true → c18 = true) ∧ (c18 =
     true → c18 = true → c18 = true) ∧ (c18 = true → c18 = true → c18 = true) ∧ (c18 = true → inR IntKind.i64 c19) ∧ (c18 = true → 1 = 1) ∧ (c18 = true → c18 = true
     → c18 = true) ∧ (c18 = true → 1 = 1) ∧ (c18 = true → 0 = 0) ∧ (c18 = true → 1 = 1) ∧ (c18 = true → c18 = true → c18 = true) ∧ (c18 = true → 1 = 1) ∧ (c18 =
     true → 0 = 0) ∧ (c18 = true → c18 = true → c18 = true) ∧ (c18 = true → c18 = true → c18 = true) ∧ (c18 = true → inR IntKind.i64 c21) ∧ (c18 = true → c18 = true
     → c18 = true) ∧ (c18 = true → c18 = true → c18 = true) ∧ (c18 = true → inR IntKind.i64 c22) ∧ (c18 = true → c18 = true → c18 = true) ∧ (c18 = true → c18 = true
     → c18 = true) ∧ (c18 = true → inR IntKind.i64 c23) ∧ (c18 = true → c18 = true → c18 = true) ∧ (c18 = true → c18 = true → c18 = true) ∧ (c18 = true → D.ile (0 :
     Int) c11) ∧ (c18 = true → D.ilt c11 c9) ∧ (c18 = true → c18 = true → c18 = true) ∧ (c18 = true → c18 = true → c18 = true) ∧ (c18 = true → c18 = true → c18 =
     true) ∧ (D.and true c18 = true → c18 = true) ∧ D.cnd c18 (D.le c23 c13) false = true ∧ True))))) :
    evF (mkc KQ6) noAnn 10 [net cs ns os fs ls ks, .dat I a, .dat I b, .dat U8 which, .dat U16 at_] [] ⟨u8P which ∧ u16P at_, .dat .bool true, []⟩ := of_eq (by kernel_rfl) hvc

theorem rcosts_eq (cs : List (Int × List Bool × List Int)) (ns os : List ByteArray) (fs : List Off) (ls : List Line) (ks : List Cla) {a b : Int} (h : ruseF (cs, ns, os, fs, ls, ks) a b = true) : rcostsF (cs, ns, os, fs, ls, ks) a b = costsF (cs, ns, os, fs, ls, ks) a b := by unfold rcostsF; rw [h]; rfl
theorem rbnds_eq (cs : List (Int × List Bool × List Int)) (ns os : List ByteArray) (fs : List Off) (ls : List Line) (ks : List Cla) {a b : Int} (h : ruseF (cs, ns, os, fs, ls, ks) a b = true) : rboundsF (cs, ns, os, fs, ls, ks) a b = boundsF (cs, ns, os, fs, ls, ks) (costsF (cs, ns, os, fs, ls, ks) a b) := by unfold rboundsF; rw [h]; rfl
theorem rnext_eq (cs : List (Int × List Bool × List Int)) (ns os : List ByteArray) (fs : List Off) (ls : List Line) (ks : List Cla) {a b : Int} (h : ruseF (cs, ns, os, fs, ls, ks) a b = true) : rnextF (cs, ns, os, fs, ls, ks) a b = nextF (cs, ns, os, fs, ls, ks) (costsF (cs, ns, os, fs, ls, ks) a b) := by unfold rnextF; rw [h]; rfl
theorem costs_length (cs : List (Int × List Bool × List Int)) (ns os : List ByteArray) (fs : List Off) (ls : List Line) (ks : List Cla) (a b : Int) : (costsF (cs, ns, os, fs, ls, ks) a b).length = ls.length := costsF_len _ _ _
theorem sq16_of (cs : List (Int × List Bool × List Int)) (ns os : List ByteArray) (fs : List Off) (ls : List Line) (ks : List Cla) {m : List (List Int)} (h : Mp.Sq fs.length m) : sq16 (cs, ns, os, fs, ls, ks) m = true := by
  unfold sq16
  rw [Bool.and_eq_true, decide_eq_true_eq, List.all_eq_true]
  refine ⟨h.len, fun r hr => ?_⟩
  obtain ⟨i, hi, rfl⟩ := List.getElem_of_mem hr
  have := h.row i (by omega) (by rw [← h.len]; omega)
  rw [Int.toNat_natCast, List.getD_eq_getElem?_getD, List.getElem?_eq_getElem hi, Option.getD_some] at this
  exact decide_eq_true this
theorem bsq (cs : List (Int × List Bool × List Int)) (ns os : List ByteArray) (fs : List Off) (ls : List Line) (ks : List Cla) (c : List Int) : Mp.Sq fs.length (boundsF (cs, ns, os, fs, ls, ks) c) := Mp.buildF_sq _ _
theorem nsq (cs : List (Int × List Bool × List Int)) (ns os : List ByteArray) (fs : List Off) (ls : List Line) (ks : List Cla) (c : List Int) : Mp.Sq fs.length (nextF (cs, ns, os, fs, ls, ks) c) := Mp.buildF_sq _ _
theorem sqP_of (cs : List (Int × List Bool × List Int)) (ns os : List ByteArray) (fs : List Off) (ls : List Line) (ks : List Cla) {m : List (List Int)} (hf : few16 (cs, ns, os, fs, ls, ks) = true) (h : Mp.Sq fs.length m) : sqP16 (cs, ns, os, fs, ls, ks) m := by
  obtain ⟨_, h1, _⟩ := few16_iff.1 hf
  have h1 : fs.length ≤ 5 := h1
  refine ⟨by show fs.length ≤ 1000000; omega, by rw [h.len]; omega⟩
theorem bounds_none (cs : List (Int × List Bool × List Int)) (ns os : List ByteArray) (fs : List Off) (ls : List Line) (ks : List Cla) {a b : Int} (h : ruseF (cs, ns, os, fs, ls, ks) a b = false) : rboundsF (cs, ns, os, fs, ls, ks) a b = [] := by unfold rboundsF; rw [h]; rfl
theorem sqP_bnds (cs : List (Int × List Bool × List Int)) (ns os : List ByteArray) (fs : List Off) (ls : List Line) (ks : List Cla) {a b : Int} (hf : few16 (cs, ns, os, fs, ls, ks) = true) : sqP16 (cs, ns, os, fs, ls, ks) (rboundsF (cs, ns, os, fs, ls, ks) a b) := by
  cases h : ruseF (cs, ns, os, fs, ls, ks) a b with
  | true => rw [rbnds_eq cs ns os fs ls ks h]; exact sqP_of cs ns os fs ls ks hf (bsq cs ns os fs ls ks _)
  | false =>
    obtain ⟨_, h1, _⟩ := few16_iff.1 hf
    have h1 : fs.length ≤ 5 := h1
    rw [bounds_none cs ns os fs ls ks h]; exact ⟨by show fs.length ≤ 1000000; omega, Nat.zero_le _⟩
theorem t_ltime (a b which at_ : Int) (cs : List (Int × List Bool × List Int)) (ns os : List ByteArray) (fs : List Off) (ls : List Line) (ks : List Cla) : SoundC Tryz.prog G0 10 [net cs ns os fs ls ks, .dat I a, .dat I b, .dat U8 which, .dat U16 at_] [] ⟨u8P which ∧ u16P at_, .dat .bool true, []⟩ := by
  refine sound_of_ev (c := mkc KQ6) KSQ6 KI0s hm (vc_ltime a b which at_ cs ns os fs ls ks ⟨rfl, fun hp => ?_⟩)
  obtain ⟨⟨w0, w1⟩, a0', a1'⟩ := hp
  simp only [cnd_or, cnd_and, D.and, D.or, D.not, Bool.true_and, Bool.and_true, Bool.false_or, Bool.or_false, eq_self, true_and, and_true, imp_self, implies_true, Bool.not_eq_true', Bool.or_eq_true, Bool.or_eq_false_iff, Bool.not_eq_false', Bool.and_eq_true, Bool.and_eq_false_imp, Bool.not_not, forall_const, exists_eq_right, exists_eq_right', exists_eq_left, exists_eq_left', Int.toNat_natCast, Nat.zero_add, Nat.mul_one, Int.ofNat_eq_natCast, D.nil, D.eq, D.ne, D.lt, D.gt, D.le, D.ge, D.beq, D.ilen, D.slen, D.ile, D.ilt, D.ine, D.nle, D.nlt, D.sub, D.add, D.mul, D.neg, D.nat, D.ofN, D.len, D.nadd, D.nmul, D.get, D.mn, D.mx, D.set, D.app, D.tail, D.part, D.seg, D.rep, D.at2, decide_eq_true_eq, decide_eq_false_iff_not, beq_iff_eq, bne_iff_ne, beq_eq_false_iff_ne, bne_eq_false_iff_eq, D.wrap, D.allNil, lineOf_fold cs ns os fs ls ks]
  refine ⟨fun h => few_fewC (few16_iff.1 h).1, fun h => ?_⟩
  obtain ⟨⟨hf, hr⟩, hl⟩ := h
  obtain ⟨⟨g0, g1, g2, g3⟩, hs⟩ := ruse_iff.1 hr
  have i0 : 0 ≤ D.rem which ls.length := Int.tmod_nonneg _ w0
  have i1 : D.rem which ls.length < ls.length := Int.tmod_lt_of_pos _ (by omega)
  have s0 : 0 ≤ D.rem at_ (b - a) := Int.tmod_nonneg _ a0'
  have s1 : D.rem at_ (b - a) < b - a := Int.tmod_lt_of_pos _ (by omega)
  generalize D.rem which ls.length = i at *
  generalize D.rem at_ (b - a) = s at *
  have hcl := costs_length cs ns os fs ls ks a b
  have lf : fs.getD (lineOf (cs, ns, os, fs, ls, ks) i).2.2.1.toNat (⟨#[]⟩, 0, 0, 0, 0, 0, []) = offOf (cs, ns, os, fs, ls, ks) (lineOf (cs, ns, os, fs, ls, ks) i).2.2.1 := rfl
  have er : (rcostsF (cs, ns, os, fs, ls, ks) a b).length = ls.length := by rw [rcosts_eq cs ns os fs ls ks hr, hcl]
  have ec : (rcostsF (cs, ns, os, fs, ls, ks) a b).getD i.toNat 0 = costF (cs, ns, os, fs, ls, ks) a b i := by rw [rcosts_eq cs ns os fs ls ks hr, costsF_at cs ns os fs ls ks a b i0 i1]
  obtain ⟨l0, l1, l2, l3, l4, l5, l6⟩ := sound_line cs ns os fs ls ks hs i0 i1
  obtain ⟨o0, o1⟩ := sound_off cs ns os fs ls ks hs l2 l3
  refine ⟨in_small (by omega), hl, fun h => (h (by rw [er])).elim, fun _ => ⟨i0, by omega, fun hc => ?_⟩⟩
  rw [ec] at hc
  obtain ⟨e1, d0, d1, e2⟩ := cost_wait cs ns os fs ls ks hr i0 i1 hc
  have ha := line_at cs ns os fs ls ks ⟨sound_noF cs ns os fs ls ks hs, i0, i1⟩
  obtain ⟨u, u1, u2⟩ := (wait_some ha g1 e1).1 (a + s) (by omega) (by omega)
  have hu : usableF (cs, ns, os, fs, ls, ks) i [a + s] = true := by
    unfold usableF idxF
    rw [hs, Bool.and_true, Bool.and_eq_true]
    exact ⟨decide_eq_true ⟨i0, i1⟩, by simp [timeOk]; omega⟩
  obtain ⟨k1, k2⟩ := depart_of hu u1
  have ur := firstO_range u1
  have lf1 : (fs.getD (lineOf (cs, ns, os, fs, ls, ks) i).2.2.1.toNat (⟨#[]⟩, 0, 0, 0, 0, 0, [])).2.2.2.2.1 * (fs.getD (lineOf (cs, ns, os, fs, ls, ks) i).2.2.1.toNat (⟨#[]⟩, 0, 0, 0, 0, 0, [])).2.2.2.2.2.1 = (offOf (cs, ns, os, fs, ls, ks) (lineOf (cs, ns, os, fs, ls, ks) i).2.2.1).2.2.2.2.1 * (offOf (cs, ns, os, fs, ls, ks) (lineOf (cs, ns, os, fs, ls, ks) i).2.2.1).2.2.2.2.2.1 := rfl
  generalize (offOf (cs, ns, os, fs, ls, ks) (lineOf (cs, ns, os, fs, ls, ks) i).2.2.1).2.2.2.2.1 * (offOf (cs, ns, os, fs, ls, ks) (lineOf (cs, ns, os, fs, ls, ks) i).2.2.1).2.2.2.2.2.1 = pm at *
  exact ⟨in_small (by omega), in_small (by omega), by omega, in_small (by omega), i0, i1, l2, l3, fun _ => i0, fun _ => i1, fun _ => in_small (by omega), fun _ => in_small (by rw [lf1]; omega), fun _ => in_small (by rw [lf1]; omega), fun _ => in_small (by rw [lf1]; omega), fun _ => i0, fun _ => by omega, k2, decide_eq_true (by rw [ec, lf1, k1, e2]; omega)⟩
end Go.Eng.Sv

set_option maxRecDepth 100000
namespace Go.Eng.Sv
open Go.Proofs
open Go.Eng.Mp (buildF rowsF rowF preBuild upto at2 idx2 starS starE starP)

noncomputable def rangesTo (n : Net) (a b c d k : Int) : Prop := few16 n = true ∧ ruseF n a b = true ∧ ruseF n c d = true ∧ a ≤ c ∧ d ≤ b ∧ 0 ≤ k ∧ k ≤ n.2.2.2.2.1.length
noncomputable def rangesTo2 (n : Net) (a b c d k : Int) : Prop := few16 n = true ∧ ruseF n a b = true ∧ ruseF n c d = true ∧ a ≤ c ∧ d ≤ b ∧ 0 ≤ k ∧ k ≤ n.2.2.2.1.length
noncomputable def rangesA (n : Net) (a b : Int) : Ann := ⟨fun id s => match s.sig.T 12, s.sig.T 13 with
  | .dat (.int .i64) c, .dat (.int .i64) d => match id with
    | 13 => some { α := Int, inv := fun k => rangesTo n a b c d k, st := fun k => put s [(18, .dat I k)], μ := fun k => D.nat (D.sub (D.ilen (rcostsF n a b)) k) }
    | 18 => some { α := Int, inv := fun k => rangesTo2 n a b c d k, st := fun k => put s [(19, .dat I k)], μ := fun k => D.nat (D.sub (D.ilen (rboundsF n a b)) k) }
    | 21 => some { α := Int, inv := fun k => rangesTo2 n a b c d k, st := fun k => put s [(20, .dat I k)], μ := fun k => D.nat (D.sub (D.ilen (rboundsF n a b)) k) }
    | _ => none
  | _, _ => none, fun _ _ => none, fun _ _ => none⟩
set_option maxRecDepth 100000 in
theorem vc_lranges (a b more less : Int) (cs : List (Int × List Bool × List Int)) (ns os : List ByteArray) (fs : List Off) (ls : List Line) (ks : List Cla) (hvc :
    let c1 := (cs, ns, os, fs, ls, ks);
    let c2 := few16 c1;
    let c3 := D.not c2;
    let c4 := D.not c3;
    let c5 := D.cnd c3 true (D.not (ruseF c1 a b));
    let c6 := D.not c5;
    let c7 := D.wrap IntKind.i64 (D.add a more);
    let c8 := D.wrap IntKind.i64 (D.sub b less);
    let c9 := D.cnd c5 true (D.ge c7 c8);
    let c10 := rcostsF c1 a b;
    let c11 := D.ilen c10;
    let c12 := rcostsF c1 c7 c8;
    let c13 := D.ilen c12;
    let c14 := D.ne c11 c13;
    let c15 := D.not c14;
    let c16 := rboundsF c1 a b;
    let c17 := D.cnd c14 true (D.not (sq16 c1 c16));
    let c18 := D.not c17;
    let c19 := rboundsF c1 c7 c8;
    let c20 := D.cnd c17 true (D.not (sq16 c1 c19));
    let c21 := D.ilen c16; true = true ∧ (u16P more ∧ u16P less → True ∧ inR IntKind.i64 more ∧ inR IntKind.i64 less ∧ True ∧ (c4 = true → c4 = true → c4 = true) ∧
     (c4 = true → c4 = true → c4 = true) ∧ (c4 = true → c4 = true → c4 = true) ∧ (c4 = true → fewC c1 = true) ∧ (c4 = true → c4 = true → c4 = true) ∧ (D.and true c4
     = true → c4 = true) ∧ (c6 = true → c6 = true → c6 = true) ∧ (c6 = true → c6 = true → c6 = true) ∧ (D.and true c6 = true → c6 = true) ∧ (c9 = true → true = true
     ∧ True) ∧ (c9 = false → True ∧ True ∧ True ∧ True ∧ (c15 = true → c15 = true → c15 = true) ∧ (c15 = true → c15 = true → c15 = true) ∧ (c15 = true → sqP16 c1
     c16) ∧ (c15 = true → c15 = true → c15 = true) ∧ (D.and true c15 = true → c15 = true) ∧ (c18 = true → c18 = true → c18 = true) ∧ (c18 = true → c18 = true → c18
     = true) ∧ (c18 = true → sqP16 c1 c19) ∧ (c18 = true → c18 = true → c18 = true) ∧ (D.and true c18 = true → c18 = true) ∧ (c20 = true → false = true ∧ True) ∧
     (c20 = false → (∃ x, rangesTo c1 a b c7 c8 x ∧ cs = cs ∧ ns = ns ∧ os = os ∧ fs = fs ∧ ls = ls ∧ ks = ks ∧ a = a ∧ b = b ∧ more = more ∧ less = less ∧ c1 = c1
     ∧ true = true ∧ c7 = c7 ∧ c8 = c8 ∧ c10 = c10 ∧ c12 = c12 ∧ c16 = c16 ∧ c19 = c19 ∧ (0 : Int) = x ∧ true = true ∧ a = a ∧ more = more ∧ more = more ∧ c7 = c7 ∧
     b = b ∧ less = less ∧ less = less ∧ c8 = c8 ∧ cs = cs ∧ ns = ns ∧ os = os ∧ fs = fs ∧ ls = ls ∧ ks = ks ∧ c2 = c2 ∧ c3 = c3 ∧ c3 = c3 ∧ c5 = c5 ∧ c5 = c5 ∧ c9
     = c9 ∧ cs = cs ∧ ns = ns ∧ os = os ∧ fs = fs ∧ ls = ls ∧ ks = ks ∧ a = a ∧ b = b ∧ c10 = c10 ∧ cs = cs ∧ ns = ns ∧ os = os ∧ fs = fs ∧ ls = ls ∧ ks = ks ∧ c7 =
     c7 ∧ c8 = c8 ∧ c12 = c12 ∧ cs = cs ∧ ns = ns ∧ os = os ∧ fs = fs ∧ ls = ls ∧ ks = ks ∧ a = a ∧ b = b ∧ c16 = c16 ∧ cs = cs ∧ ns = ns ∧ os = os ∧ fs = fs ∧ ls =
     ls ∧ ks = ks ∧ c7 = c7 ∧ c8 = c8 ∧ c19 = c19 ∧ c10 = c10 ∧ c11 = c11 ∧ c12 = c12 ∧ c13 = c13 ∧ c14 = c14 ∧ c14 = c14 ∧ c17 = c17 ∧ c17 = c17 ∧ c20 = c20 ∧
     True) ∧ ∀ (x : Int),
    let c22 := D.get c10 (D.nat x) (0 : Int);
    let c23 := D.ne c22 (-1099511627776 : Int);
    let c24 := D.get c12 (D.nat x) (0 : Int);
    let c25 := D.eq c24 (-1099511627776 : Int);
    let c26 := D.cnd c23 (D.cnd c25 true (D.gt c24 c22)) false;
    let c27 := D.add x (1 : Int); rangesTo c1 a b c7 c8 x → (D.lt x c11 = true → D.ile (0 : Int) x ∧ D.ilt x c11 ∧ (c23 = true → c23 = true → c23 = true) ∧ (c23 =
     true → c23 = true → c23 = true) ∧ (c23 = true → D.ile (0 : Int) x) ∧ (c23 = true → D.ilt x c13) ∧ (c23 = true → c23 = true → c23 = true) ∧ (c23 = true → c23 =
     true → c23 = true) ∧ (c23 = true → c23 = true → c23 = true) ∧ (D.and c23 (D.not c25) = true → D.and c23 (D.not c25) = true → D.and c23 (D.not c25) = true) ∧
     (D.and c23 (D.not c25) = true → D.and c23 (D.not c25) = true → D.and c23 (D.not c25) = true) ∧ (D.and c23 (D.not c25) = true → D.ile (0 : Int) x) ∧ (D.and c23
     (D.not c25) = true → D.ilt x c13) ∧ (D.and c23 (D.not c25) = true → D.and c23 (D.not c25) = true → D.and c23 (D.not c25) = true) ∧ (D.and c23 (D.not c25) =
     true → D.and c23 (D.not c25) = true → D.and c23 (D.not c25) = true) ∧ (D.and c23 (D.not c25) = true → D.and c23 (D.not c25) = true → D.and c23 (D.not c25) =
     true) ∧ (D.and c23 (D.not c25) = true → D.ile (0 : Int) x) ∧ (D.and c23 (D.not c25) = true → D.ilt x c11) ∧ (D.and c23 (D.not c25) = true → D.and c23 (D.not
     c25) = true → D.and c23 (D.not c25) = true) ∧ (D.and c23 (D.not c25) = true → D.and c23 (D.not c25) = true → D.and c23 (D.not c25) = true) ∧ (D.and c23 (D.not
     c25) = true → D.and c23 (D.not c25) = true → D.and c23 (D.not c25) = true) ∧ (c23 = true → c23 = true → c23 = true) ∧ (c23 = true → D.and c23 (D.not c25) =
     true → D.and c23 (D.not c25) = true) ∧ (D.and true c23 = true → c23 = true) ∧ (c26 = true → false = true ∧ True) ∧ (c26 = false → inR IntKind.i64 c27 ∧ ∃ y,
     rangesTo c1 a b c7 c8 y ∧ (cs = cs ∧ ns = ns ∧ os = os ∧ fs = fs ∧ ls = ls ∧ ks = ks ∧ a = a ∧ b = b ∧ more = more ∧ less = less ∧ c1 = c1 ∧ true = true ∧ c7 =
     c7 ∧ c8 = c8 ∧ c10 = c10 ∧ c12 = c12 ∧ c16 = c16 ∧ c19 = c19 ∧ c27 = y ∧ true = true ∧ a = a ∧ more = more ∧ more = more ∧ c7 = c7 ∧ b = b ∧ less = less ∧ less
     = less ∧ c8 = c8 ∧ cs = cs ∧ ns = ns ∧ os = os ∧ fs = fs ∧ ls = ls ∧ ks = ks ∧ c2 = c2 ∧ c3 = c3 ∧ c3 = c3 ∧ c5 = c5 ∧ c5 = c5 ∧ c9 = c9 ∧ cs = cs ∧ ns = ns ∧
     os = os ∧ fs = fs ∧ ls = ls ∧ ks = ks ∧ a = a ∧ b = b ∧ c10 = c10 ∧ cs = cs ∧ ns = ns ∧ os = os ∧ fs = fs ∧ ls = ls ∧ ks = ks ∧ c7 = c7 ∧ c8 = c8 ∧ c12 = c12 ∧
     cs = cs ∧ ns = ns ∧ os = os ∧ fs = fs ∧ ls = ls ∧ ks = ks ∧ a = a ∧ b = b ∧ c16 = c16 ∧ cs = cs ∧ ns = ns ∧ os = os ∧ fs = fs ∧ ls = ls ∧ ks = ks ∧ c7 = c7 ∧
     c8 = c8 ∧ c19 = c19 ∧ c10 = c10 ∧ c11 = c11 ∧ c12 = c12 ∧ c13 = c13 ∧ c14 = c14 ∧ c14 = c14 ∧ c17 = c17 ∧ c17 = c17 ∧ c20 = c20 ∧ True) ∧ D.nlt (D.nat (D.sub
     c11 y)) (D.nat (D.sub c11 x)))) ∧ (D.lt x c11 = false → (∃ x_3, rangesTo2 c1 a b c7 c8 x_3 ∧ cs = cs ∧ ns = ns ∧ os = os ∧ fs = fs ∧ ls = ls ∧ ks = ks ∧ a = a
     ∧ b = b ∧ more = more ∧ less = less ∧ c1 = c1 ∧ true = true ∧ c7 = c7 ∧ c8 = c8 ∧ c10 = c10 ∧ c12 = c12 ∧ c16 = c16 ∧ c19 = c19 ∧ x = x ∧ (0 : Int) = x_3 ∧
     true = true ∧ a = a ∧ more = more ∧ more = more ∧ c7 = c7 ∧ b = b ∧ less = less ∧ less = less ∧ c8 = c8 ∧ cs = cs ∧ ns = ns ∧ os = os ∧ fs = fs ∧ ls = ls ∧ ks
     = ks ∧ c2 = c2 ∧ c3 = c3 ∧ c3 = c3 ∧ c5 = c5 ∧ c5 = c5 ∧ c9 = c9 ∧ cs = cs ∧ ns = ns ∧ os = os ∧ fs = fs ∧ ls = ls ∧ ks = ks ∧ a = a ∧ b = b ∧ c10 = c10 ∧ cs =
     cs ∧ ns = ns ∧ os = os ∧ fs = fs ∧ ls = ls ∧ ks = ks ∧ c7 = c7 ∧ c8 = c8 ∧ c12 = c12 ∧ cs = cs ∧ ns = ns ∧ os = os ∧ fs = fs ∧ ls = ls ∧ ks = ks ∧ a = a ∧ b =
     b ∧ c16 = c16 ∧ cs = cs ∧ ns = ns ∧ os = os ∧ fs = fs ∧ ls = ls ∧ ks = ks ∧ c7 = c7 ∧ c8 = c8 ∧ c19 = c19 ∧ c10 = c10 ∧ c11 = c11 ∧ c12 = c12 ∧ c13 = c13 ∧ c14
     = c14 ∧ c14 = c14 ∧ c17 = c17 ∧ c17 = c17 ∧ c20 = c20 ∧ x = x ∧ c10 = c10 ∧ c11 = c11 ∧ D.lt x c11 = D.lt x c11 ∧ True) ∧ ∀ (x_3 : Int),
    let c28 := D.get c16 (D.nat x_3) (D.nil Int);
    let c29 := D.ilen c28;
    let c30 := D.get c19 (D.nat x_3) (D.nil Int);
    let c31 := D.add x_3 (1 : Int); rangesTo2 c1 a b c7 c8 x_3 → (D.lt x_3 c21 = true → (∃ x_6, rangesTo2 c1 a b c7 c8 x_6 ∧ cs = cs ∧ ns = ns ∧ os = os ∧ fs = fs ∧
     ls = ls ∧ ks = ks ∧ a = a ∧ b = b ∧ more = more ∧ less = less ∧ c1 = c1 ∧ true = true ∧ c7 = c7 ∧ c8 = c8 ∧ c10 = c10 ∧ c12 = c12 ∧ c16 = c16 ∧ c19 = c19 ∧ x =
     x ∧ x_3 = x_3 ∧ (0 : Int) = x_6 ∧ true = true ∧ a = a ∧ more = more ∧ more = more ∧ c7 = c7 ∧ b = b ∧ less = less ∧ less = less ∧ c8 = c8 ∧ cs = cs ∧ ns = ns ∧
     os = os ∧ fs = fs ∧ ls = ls ∧ ks = ks ∧ c2 = c2 ∧ c3 = c3 ∧ c3 = c3 ∧ c5 = c5 ∧ c5 = c5 ∧ c9 = c9 ∧ cs = cs ∧ ns = ns ∧ os = os ∧ fs = fs ∧ ls = ls ∧ ks = ks ∧
     a = a ∧ b = b ∧ c10 = c10 ∧ cs = cs ∧ ns = ns ∧ os = os ∧ fs = fs ∧ ls = ls ∧ ks = ks ∧ c7 = c7 ∧ c8 = c8 ∧ c12 = c12 ∧ cs = cs ∧ ns = ns ∧ os = os ∧ fs = fs ∧
     ls = ls ∧ ks = ks ∧ a = a ∧ b = b ∧ c16 = c16 ∧ cs = cs ∧ ns = ns ∧ os = os ∧ fs = fs ∧ ls = ls ∧ ks = ks ∧ c7 = c7 ∧ c8 = c8 ∧ c19 = c19 ∧ c10 = c10 ∧ c11 =
     c11 ∧ c12 = c12 ∧ c13 = c13 ∧ c14 = c14 ∧ c14 = c14 ∧ c17 = c17 ∧ c17 = c17 ∧ c20 = c20 ∧ x = x ∧ c10 = c10 ∧ c11 = c11 ∧ D.lt x c11 = D.lt x c11 ∧ x_3 = x_3 ∧
     c16 = c16 ∧ c21 = c21 ∧ D.lt x_3 c21 = D.lt x_3 c21 ∧ True) ∧ ∀ (x_6 : Int),
    let c32 := D.get c28 (D.nat x_6) (0 : Int);
    let c33 := D.ge c32 (0 : Int);
    let c34 := D.get c30 (D.nat x_6) (0 : Int);
    let c35 := D.lt c34 (0 : Int);
    let c36 := D.cnd c33 (D.cnd c35 true (D.gt c34 c32)) false;
    let c37 := D.add x_6 (1 : Int); rangesTo2 c1 a b c7 c8 x_6 → (D.lt x_6 c21 = true → D.ile (0 : Int) x_3 ∧ D.ilt x_3 c21 ∧ D.ile (0 : Int) x_6 ∧ D.ilt x_6 c29 ∧
     (c33 = true → c33 = true → c33 = true) ∧ (c33 = true → c33 = true → c33 = true) ∧ (c33 = true → D.ile (0 : Int) x_3) ∧ (c33 = true → D.ilt x_3 (D.ilen c19)) ∧
     (c33 = true → c33 = true → c33 = true) ∧ (c33 = true → c33 = true → c33 = true) ∧ (c33 = true → c33 = true → c33 = true) ∧ (c33 = true → D.ile (0 : Int) x_6) ∧
     (c33 = true → D.ilt x_6 (D.ilen c30)) ∧ (c33 = true → c33 = true → c33 = true) ∧ (c33 = true → c33 = true → c33 = true) ∧ (c33 = true → c33 = true → c33 =
     true) ∧ (D.and c33 (D.not c35) = true → D.and c33 (D.not c35) = true → D.and c33 (D.not c35) = true) ∧ (D.and c33 (D.not c35) = true → D.and c33 (D.not c35) =
     true → D.and c33 (D.not c35) = true) ∧ (D.and c33 (D.not c35) = true → D.ile (0 : Int) x_3) ∧ (D.and c33 (D.not c35) = true → D.ilt x_3 (D.ilen c19)) ∧ (D.and
     c33 (D.not c35) = true → D.and c33 (D.not c35) = true → D.and c33 (D.not c35) = true) ∧ (D.and c33 (D.not c35) = true → D.and c33 (D.not c35) = true → D.and
     c33 (D.not c35) = true) ∧ (D.and c33 (D.not c35) = true → D.and c33 (D.not c35) = true → D.and c33 (D.not c35) = true) ∧ (D.and c33 (D.not c35) = true → D.ile
     (0 : Int) x_6) ∧ (D.and c33 (D.not c35) = true → D.ilt x_6 (D.ilen c30)) ∧ (D.and c33 (D.not c35) = true → D.and c33 (D.not c35) = true → D.and c33 (D.not c35)
     = true) ∧ (D.and c33 (D.not c35) = true → D.and c33 (D.not c35) = true → D.and c33 (D.not c35) = true) ∧ (D.and c33 (D.not c35) = true → D.and c33 (D.not c35)
     = true → D.and c33 (D.not c35) = true) ∧ (D.and c33 (D.not c35) = true → D.ile (0 : Int) x_3) ∧ (D.and c33 (D.not c35) = true → D.ilt x_3 c21) ∧ (D.and c33
     (D.not c35) = true → D.and c33 (D.not c35) = true → D.and c33 (D.not c35) = true) ∧ (D.and c33 (D.not c35) = true → D.and c33 (D.not c35) = true → D.and c33
     (D.not c35) = true) ∧ (D.and c33 (D.not c35) = true → D.and c33 (D.not c35) = true → D.and c33 (D.not c35) = true) ∧ (D.and c33 (D.not c35) = true → D.ile (0 :
     Int) x_6) ∧ (D.and c33 (D.not c35) = true → D.ilt x_6 c29) ∧ (D.and c33 (D.not c35) = true → D.and c33 (D.not c35) = true → D.and c33 (D.not c35) = true) ∧
     (D.and c33 (D.not c35) = true → D.and c33 (D.not c35) = true → D.and c33 (D.not c35) = true) ∧ (D.and c33 (D.not c35) = true → D.and c33 (D.not c35) = true →
     D.and c33 (D.not c35) = true) ∧ (c33 = true → c33 = true → c33 = true) ∧ (c33 = true → D.and c33 (D.not c35) = true → D.and c33 (D.not c35) = true) ∧ (D.and
     true c33 = true → c33 = true) ∧ (c36 = true → false = true ∧ True) ∧ (c36 = false → inR IntKind.i64 c37 ∧ ∃ y, rangesTo2 c1 a b c7 c8 y ∧ (cs = cs ∧ ns = ns ∧
     os = os ∧ fs = fs ∧ ls = ls ∧ ks = ks ∧ a = a ∧ b = b ∧ more = more ∧ less = less ∧ c1 = c1 ∧ true = true ∧ c7 = c7 ∧ c8 = c8 ∧ c10 = c10 ∧ c12 = c12 ∧ c16 =
     c16 ∧ c19 = c19 ∧ x = x ∧ x_3 = x_3 ∧ c37 = y ∧ true = true ∧ a = a ∧ more = more ∧ more = more ∧ c7 = c7 ∧ b = b ∧ less = less ∧ less = less ∧ c8 = c8 ∧ cs =
     cs ∧ ns = ns ∧ os = os ∧ fs = fs ∧ ls = ls ∧ ks = ks ∧ c2 = c2 ∧ c3 = c3 ∧ c3 = c3 ∧ c5 = c5 ∧ c5 = c5 ∧ c9 = c9 ∧ cs = cs ∧ ns = ns ∧ os = os ∧ fs = fs ∧ ls =
     ls ∧ ks = ks ∧ a = a ∧ b = b ∧ c10 = c10 ∧ cs = cs ∧ ns = ns ∧ os = os ∧ fs = fs ∧ ls = ls ∧ ks = ks ∧ c7 = c7 ∧ c8 = c8 ∧ c12 = c12 ∧ cs = cs ∧ ns = ns ∧ os =
     os ∧ fs = fs ∧ ls = ls ∧ ks = ks ∧ a = a ∧ b = b ∧ c16 = c16 ∧ cs = cs ∧ ns = ns ∧ os = os ∧ fs = fs ∧ ls = ls ∧ ks = ks ∧ c7 = c7 ∧ c8 = c8 ∧ c19 = c19 ∧ c10
     = c10 ∧ c11 = c11 ∧ c12 = c12 ∧ c13 = c13 ∧ c14 = c14 ∧ c14 = c14 ∧ c17 = c17 ∧ c17 = c17 ∧ c20 = c20 ∧ x = x ∧ c10 = c10 ∧ c11 = c11 ∧ D.lt x c11 = D.lt x c11
     ∧ x_3 = x_3 ∧ c16 = c16 ∧ c21 = c21 ∧ D.lt x_3 c21 = D.lt x_3 c21 ∧ True) ∧ D.nlt (D.nat (D.sub c21 y)) (D.nat (D.sub c21 x_6)))) ∧ (D.lt x_6 c21 = false → inR
     IntKind.i64 c31 ∧ ∃ y, rangesTo2 c1 a b c7 c8 y ∧ (cs = cs ∧ ns = ns ∧ os = os ∧ fs = fs ∧ ls = ls ∧ ks = ks ∧ a = a ∧ b = b ∧ more = more ∧ less = less ∧ c1 =
     c1 ∧ true = true ∧ c7 = c7 ∧ c8 = c8 ∧ c10 = c10 ∧ c12 = c12 ∧ c16 = c16 ∧ c19 = c19 ∧ x = x ∧ c31 = y ∧ true = true ∧ a = a ∧ more = more ∧ more = more ∧ c7 =
     c7 ∧ b = b ∧ less = less ∧ less = less ∧ c8 = c8 ∧ cs = cs ∧ ns = ns ∧ os = os ∧ fs = fs ∧ ls = ls ∧ ks = ks ∧ c2 = c2 ∧ c3 = c3 ∧ c3 = c3 ∧ c5 = c5 ∧ c5 = c5
     ∧ c9 = c9 ∧ cs = cs ∧ ns = ns ∧ os = os ∧ fs = fs ∧ ls = ls ∧ ks = ks ∧ a = a ∧ b = b ∧ c10 = c10 ∧ cs = cs ∧ ns = ns ∧ os = os ∧ fs = fs ∧ ls = ls ∧ ks = ks ∧
     c7 = c7 ∧ c8 = c8 ∧ c12 = c12 ∧ cs = cs ∧ ns = ns ∧ os = os ∧ fs = fs ∧ ls = ls ∧ ks = ks ∧ a = a ∧ b = b ∧ c16 = c16 ∧ cs = cs ∧ ns = ns ∧ os = os ∧ fs = fs ∧
     ls = ls ∧ ks = ks ∧ c7 = c7 ∧ c8 = c8 ∧ c19 = c19 ∧ c10 = c10 ∧ c11 = c11 ∧ c12 = c12 ∧ c13 = c13 ∧ c14 = c14 ∧ c14 = c14 ∧ c17 = c17 ∧ c17 = c17 ∧ c20 = c20 ∧
     x = x ∧ c10 = c10 ∧ c11 = c11 ∧ D.lt x c11 = D.lt x c11 ∧ True) ∧ D.nlt (D.nat (D.sub c21 y)) (D.nat (D.sub c21 x_3)))) ∧ (D.lt x_3 c21 = false → true = true ∧
     True)))))) :
    evF { mkc KQ6 with mb := fun t => t == 25 || t == 29 } (rangesA (cs, ns, os, fs, ls, ks) a b) 8 [net cs ns os fs ls ks, .dat I a, .dat I b, .dat U16 more, .dat U16 less] [] ⟨u16P more ∧ u16P less, .dat .bool true, []⟩ := of_eq (by kernel_rfl) hvc

theorem costs_getD (cs : List (Int × List Bool × List Int)) (ns os : List ByteArray) (fs : List Off) (ls : List Line) (ks : List Cla) (a b : Int) {k : Nat} (h : k < ls.length) : (costsF (cs, ns, os, fs, ls, ks) a b).getD k 0 = costF (cs, ns, os, fs, ls, ks) a b k := by
  have := costsF_at cs ns os fs ls ks a b (i := k) (by omega) (by omega)
  rwa [Int.toNat_natCast] at this
theorem narrow_le (cs : List (Int × List Bool × List Int)) (ns os : List ByteArray) (fs : List Off) (ls : List Line) (ks : List Cla) {a b c d : Int} (h : ruseF (cs, ns, os, fs, ls, ks) a b = true) (h' : ruseF (cs, ns, os, fs, ls, ks) c d = true) (hac : a ≤ c) (hdb : d ≤ b) {i j : Int} (i0 : 0 ≤ i) (i1 : i < fs.length) (j0 : 0 ≤ j) (j1 : j < fs.length)
    (hB : 0 ≤ at2 (boundsF (cs, ns, os, fs, ls, ks) (costsF (cs, ns, os, fs, ls, ks) a b)) i j) : 0 ≤ at2 (boundsF (cs, ns, os, fs, ls, ks) (costsF (cs, ns, os, fs, ls, ks) c d)) i j ∧ at2 (boundsF (cs, ns, os, fs, ls, ks) (costsF (cs, ns, os, fs, ls, ks) c d)) i j ≤ at2 (boundsF (cs, ns, os, fs, ls, ks) (costsF (cs, ns, os, fs, ls, ks) a b)) i j := by
  refine (bounds_ok cs ns os fs ls ks (costs_ok cs ns os fs ls ks h)).1.le (cost_pos cs ns os fs ls ks (costs_ok cs ns os fs ls ks h)) (bounds_ok cs ns os fs ls ks (costs_ok cs ns os fs ls ks h')).1 (fun k l hk hc => ?_) i0 i1 j0 j1 hB
  have hlt : k < ls.length := (List.getElem?_eq_some_iff.1 hk).1
  rw [costs_getD cs ns os fs ls ks a b hlt] at hc ⊢
  obtain ⟨g1, g2⟩ := cost_narrow cs ns os fs ls ks h h' hac hdb (i := k) (by omega) (by omega) hc
  exact ⟨k, l, hk, by rw [costs_getD cs ns os fs ls ks c d hlt]; exact g1, rfl, rfl, by rw [costs_getD cs ns os fs ls ks c d hlt]; exact g2⟩
theorem t_lranges (a b more less : Int) (cs : List (Int × List Bool × List Int)) (ns os : List ByteArray) (fs : List Off) (ls : List Line) (ks : List Cla) : SoundC Tryz.prog G0 8 [net cs ns os fs ls ks, .dat I a, .dat I b, .dat U16 more, .dat U16 less] [] ⟨u16P more ∧ u16P less, .dat .bool true, []⟩ := by
  refine sound_of_ev (c := { mkc KQ6 with mb := fun t => t == 25 || t == 29 }) KSQ6 KI0s hm (vc_lranges a b more less cs ns os fs ls ks ⟨rfl, fun hp => ?_⟩)
  obtain ⟨⟨w0, w1⟩, v0, v1⟩ := hp
  have hcw : 0 ≤ a ∧ a ≤ 2000000 → D.wrap .i64 (D.add a more) = a + more := fun _ => by
    unfold D.wrap; exact wrap_inR (by unfold D.add; exact in_small (by omega))
  have hdw : 0 ≤ b ∧ b ≤ 2000000 → D.wrap .i64 (D.sub b less) = b - less := fun _ => by
    unfold D.wrap; exact wrap_inR (by unfold D.sub; exact in_small (by omega))
  generalize D.wrap .i64 (D.add a more) = c at *
  generalize D.wrap .i64 (D.sub b less) = d at *
  simp only [cnd_or, cnd_and, D.and, D.or, D.not, Bool.true_and, Bool.and_true, Bool.false_or, Bool.or_false, eq_self, true_and, and_true, imp_self, implies_true, Bool.not_eq_true', Bool.or_eq_true, Bool.or_eq_false_iff, Bool.not_eq_false', Bool.and_eq_true, Bool.and_eq_false_imp, Bool.not_not, forall_const, exists_eq_right, exists_eq_right', exists_eq_left, exists_eq_left', Int.toNat_natCast, Nat.zero_add, Nat.mul_one, Int.ofNat_eq_natCast, D.nil, D.eq, D.ne, D.lt, D.gt, D.le, D.ge, D.beq, D.ilen, D.slen, D.ile, D.ilt, D.ine, D.nle, D.nlt, D.sub, D.add, D.mul, D.neg, D.nat, D.ofN, D.len, D.nadd, D.nmul, D.get, D.mn, D.mx, D.set, D.app, D.tail, D.part, D.seg, D.rep, D.at2, decide_eq_true_eq, decide_eq_false_iff_not, beq_iff_eq, bne_iff_ne, beq_eq_false_iff_ne, bne_eq_false_iff_eq, D.wrap, D.allNil]
  refine ⟨in_small (by omega), in_small (by omega), fun h => few_fewC (few16_iff.1 h).1, fun ⟨⟨hf, hr⟩, hlt⟩ => ?_⟩
  obtain ⟨⟨g0, g1, g2, g3⟩, hs⟩ := ruse_iff.1 hr
  have ec := hcw ⟨by omega, by omega⟩
  have ed := hdw ⟨by omega, by omega⟩
  have hr' : ruseF (cs, ns, os, fs, ls, ks) c d = true := ruse_iff.2 ⟨⟨by omega, by omega, by omega, by omega⟩, hs⟩
  have f5 : fs.length ≤ 5 := (few16_iff.1 hf).2.1
  have l12 : ls.length ≤ 12 := (few16_iff.1 hf).2.2
  have e1 : (rcostsF (cs, ns, os, fs, ls, ks) a b).length = ls.length := by rw [rcosts_eq cs ns os fs ls ks hr]; exact costs_length cs ns os fs ls ks a b
  have e2 : (rcostsF (cs, ns, os, fs, ls, ks) c d).length = ls.length := by rw [rcosts_eq cs ns os fs ls ks hr']; exact costs_length cs ns os fs ls ks c d
  have s1 : Mp.Sq fs.length (rboundsF (cs, ns, os, fs, ls, ks) a b) := by rw [rbnds_eq cs ns os fs ls ks hr]; exact bsq cs ns os fs ls ks _
  have s2 : Mp.Sq fs.length (rboundsF (cs, ns, os, fs, ls, ks) c d) := by rw [rbnds_eq cs ns os fs ls ks hr']; exact bsq cs ns os fs ls ks _
  have q1 : ∀ x : Int, 0 ≤ x → x < ls.length → (rcostsF (cs, ns, os, fs, ls, ks) a b).getD x.toNat 0 ≠ noneI → (rcostsF (cs, ns, os, fs, ls, ks) c d).getD x.toNat 0 ≠ noneI ∧ (rcostsF (cs, ns, os, fs, ls, ks) c d).getD x.toNat 0 ≤ (rcostsF (cs, ns, os, fs, ls, ks) a b).getD x.toNat 0 := fun x x0 x1 => by
    rw [rcosts_eq cs ns os fs ls ks hr, rcosts_eq cs ns os fs ls ks hr', costsF_at cs ns os fs ls ks a b x0 x1, costsF_at cs ns os fs ls ks c d x0 x1]
    exact cost_narrow cs ns os fs ls ks hr hr' (by omega) (by omega) x0 x1
  have q2 : ∀ i j : Int, 0 ≤ i → i < fs.length → 0 ≤ j → j < fs.length → 0 ≤ ((rboundsF (cs, ns, os, fs, ls, ks) a b).getD i.toNat []).getD j.toNat 0 → 0 ≤ ((rboundsF (cs, ns, os, fs, ls, ks) c d).getD i.toNat []).getD j.toNat 0 ∧ ((rboundsF (cs, ns, os, fs, ls, ks) c d).getD i.toNat []).getD j.toNat 0 ≤ ((rboundsF (cs, ns, os, fs, ls, ks) a b).getD i.toNat []).getD j.toNat 0 := fun i j i0 i1 j0 j1 => by
    rw [rbnds_eq cs ns os fs ls ks hr, rbnds_eq cs ns os fs ls ks hr']
    exact narrow_le cs ns os fs ls ks hr hr' (by omega) (by omega) i0 i1 j0 j1
  have hsq1 := sq16_of cs ns os fs ls ks s1
  have hsq2 := sq16_of cs ns os fs ls ks s2
  have hP1 := sqP_of cs ns os fs ls ks hf s1
  have hP2 := sqP_of cs ns os fs ls ks hf s2
  have r0 : ∀ x : Int, 0 ≤ x → x ≤ ls.length → rangesTo (cs, ns, os, fs, ls, ks) a b c d x := fun x x0 x1 => ⟨hf, hr, hr', by omega, by omega, x0, x1⟩
  have r2 : ∀ x : Int, 0 ≤ x → x ≤ fs.length → rangesTo2 (cs, ns, os, fs, ls, ks) a b c d x := fun x x0 x1 => ⟨hf, hr, hr', by omega, by omega, x0, x1⟩
  have n1 := s1.len
  have n2 := s2.len
  have row1 := s1.row
  have row2 := s2.row
  unfold noneI at q1
  generalize rcostsF (cs, ns, os, fs, ls, ks) a b = m1 at *
  generalize rcostsF (cs, ns, os, fs, ls, ks) c d = m2 at *
  generalize rboundsF (cs, ns, os, fs, ls, ks) a b = m3 at *
  generalize rboundsF (cs, ns, os, fs, ls, ks) c d = m4 at *
  refine ⟨fun _ => hP1, fun _ => hP2, fun h => ?_, fun _ => ⟨r0 0 (by omega) (by omega), fun x hx => ⟨fun hlt => ?_, fun hge => ⟨r2 0 (by omega) (by omega), fun y hy hyl => ⟨r2 0 (by omega) (by omega), fun z hz => ⟨fun hzl => ?_, fun hzl => ?_⟩⟩⟩⟩⟩⟩
  · rw [hsq1, hsq2] at h
    rcases h with (h | h) | h
    · exact (h (by omega)).elim
    · cases h
    · cases h
  · have x0 := hx.2.2.2.2.2.1
    have q := q1 x x0 (by omega)
    refine ⟨x0, hlt, fun _ => x0, fun _ => by omega, fun _ => x0, fun _ => by omega, fun _ => x0, fun _ => by omega, fun h => ?_, fun h => ⟨in_small (by omega), x + 1, r0 _ (by omega) (by omega), rfl, by omega⟩⟩
    obtain ⟨k1, k2⟩ := q h.1
    rcases h.2 with h | h
    · exact (k1 h).elim
    · omega
  · have y0 := hy.2.2.2.2.2.1
    have z0 := hz.2.2.2.2.2.1
    have q := q2 y z y0 (by omega) z0 (by omega)
    have a1 := row1 y y0 (by omega)
    have a2 := row2 y y0 (by omega)
    refine ⟨y0, hyl, z0, by omega, fun _ => y0, fun _ => by omega, fun _ => z0, fun _ => by omega, fun _ => y0, fun _ => by omega, fun _ => z0, fun _ => by omega, fun _ => y0, fun _ => by omega, fun _ => z0, fun _ => by omega, fun h => ?_, fun h => ⟨in_small (by omega), z + 1, r2 _ (by omega) (by omega), rfl, by omega⟩⟩
    obtain ⟨k1, k2⟩ := q h.1
    rcases h.2 with h | h <;> omega
  · have y0 := hy.2.2.2.2.2.1
    exact ⟨in_small (by omega), y + 1, r2 _ (by omega) (by omega), rfl, by omega⟩
end Go.Eng.Sv
