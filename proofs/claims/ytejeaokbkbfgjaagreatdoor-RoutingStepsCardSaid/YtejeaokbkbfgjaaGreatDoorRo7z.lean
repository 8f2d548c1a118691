/- PeRo4z, PeRo7z -/
import Derived.Test.YtejeaokbkbfgjaaGreatDoorX22
import Derived.Test.YtejeaokbkbfgjaaGreatDoorRo5z
set_option linter.unusedSimpArgs false
set_option linter.unusedVariables false
set_option maxRecDepth 100000
namespace Go.Eng.Sv
open Go.Proofs
open Go.Eng.Mp (buildF rowsF rowF preBuild upto at2 idx2 starS starE starP)

abbrev U8 : Ty := .int .u8
abbrev U16 : Ty := .int .u16
noncomputable def u8P (a : Int) : Prop := 0 ≤ a ∧ a ≤ 255
noncomputable def u16P (a : Int) : Prop := 0 ≤ a ∧ a ≤ 65535
set_option maxRecDepth 100000 in
theorem vc_ltime (a b which at_ : Int) (cs : List (Int × List Bool × List Int)) (ns os : List ByteArray) (fs : List Off) (ls : List Line) (ks : List Cla) (hvc :
    let c1 := (cs, ns, os, fs, ls, ks);
    let c2 := D.not (few16 c1);
    let c3 := D.not c2;
    let c4 := D.cnd c2 true (D.not (ruseF c1 a b));
    let c5 := D.not c4;
    let c6 := D.ilen ls;
    let c7 := D.cnd c4 true (D.eq c6 (0 : Int));
    let c8 := rcostsF c1 a b;
    let c9 := D.ilen c8;
    let c10 := D.ne c9 c6;
    let c11 := D.rem which c6;
    let c12 := D.nat c11;
    let c13 := D.get c8 c12 (0 : Int);
    let c14 := D.eq c13 (-1099511627776 : Int);
    let c15 := D.add a (D.rem at_ (D.sub b a));
    let c16 := (D.get ls c12 (ByteArray.mk (D.nil UInt8).toArray, (0 : Int), (0 : Int), (0 : Int), (0 : Int), (0 : Int))).snd.snd;
    let c17 := c16.fst;
    let c18 := D.cnd true (D.eq (departE c1 c11 c15) (0 : Int)) false;
    let c19 := D.add (departD c1 c11 c15) c16.snd.snd.fst;
    let c20 := (D.get fs (D.nat c17) (ByteArray.mk (D.nil UInt8).toArray, (0 : Int), (0 : Int), (0 : Int), (0 : Int), (0 : Int), D.nil ByteArray)).snd.snd.snd.snd;
    let c21 := D.mul c20.fst c20.snd.fst;
    let c22 := D.add c19 c21;
    let c23 := D.sub c22 c15; true = true ∧ (u8P which ∧ u16P at_ → True ∧ True ∧ (c3 = true → c3 = true → c3 = true) ∧ (c3 = true → c3 = true → c3 = true) ∧ (c3 =
     true → c3 = true → c3 = true) ∧ (c3 = true → fewC c1 = true) ∧ (c3 = true → c3 = true → c3 = true) ∧ (D.and true c3 = true → c3 = true) ∧ (c5 = true → c5 =
     true → c5 = true) ∧ (c5 = true → c5 = true → c5 = true) ∧ (c5 = true → c5 = true → c5 = true) ∧ (D.and true c5 = true → c5 = true) ∧ (c7 = true → true = true ∧
     True) ∧ (c7 = false → True ∧ inR IntKind.i64 which ∧ D.ine c6 (0 : Int) ∧ (c10 = true → false = true ∧ True) ∧ (c10 = false → D.ile (0 : Int) c11 ∧ D.ilt c11
     c9 ∧ (c14 = true → true = true ∧ True) ∧ (c14 = false → inR IntKind.i64 at_ ∧ inR IntKind.i64 (D.sub b a) ∧ D.ine (D.sub b a) (0 : Int) ∧ inR IntKind.i64 c15 ∧
     True ∧ D.ile (0 : Int) c11 ∧ D.ilt c11 c6 ∧ D.ile (0 : Int) c17 ∧ D.ilt c17 (D.ilen fs) ∧ 1 = 1 ∧ 0 = 0 ∧ (true = true → true = true → true = true) ∧ (D.and
     true true = true → true = true) ∧ (c18 = true → c18 = true → c18 = true) ∧ (c18 = true → c18 = true → c18 = true) ∧ (c18 = true → c18 = true → c18 = true) ∧
     (c18 = true → D.ile (0 : Int) c11) ∧ (c18 = true → D.ilt c11 c6) ∧ (c18 = true → c18 = true → c18 = true) ∧ (c18 = true → c18 = true → c18 = true) ∧ (c18 =
     true → c18 = true → c18 = true) ∧ (c18 = true → c18 = true → c18 = true) ∧ (c18 = true → inR IntKind.i64 c19) ∧ (c18 = true → 1 = 1) ∧ (c18 = true → c18 = true
     → c18 = true) ∧ (c18 = true → 1 = 1) ∧ (c18 = true → 0 = 0) ∧ (c18 = true → 1 = 1) ∧ (c18 = true → c18 = true → c18 = true) ∧ (c18 = true → 1 = 1) ∧ (c18 =
     true → 0 = 0) ∧ (c18 = true → c18 = true → c18 = true) ∧ (c18 = true → c18 = true → c18 = true) ∧ (c18 = true → inR IntKind.i64 c21) ∧ (c18 = true → c18 = true
     → c18 = true) ∧ (c18 = true → c18 = true → c18 = true) ∧ (c18 = true → inR IntKind.i64 c22) ∧ (c18 = true → c18 = true → c18 = true) ∧ (c18 = true → c18 = true
     → c18 = true) ∧ (c18 = true → inR IntKind.i64 c23) ∧ (c18 = true → c18 = true → c18 = true) ∧ (c18 = true → c18 = true → c18 = true) ∧ (c18 = true → D.ile (0 :
     Int) c11) ∧ (c18 = true → D.ilt c11 c9) ∧ (c18 = true → c18 = true → c18 = true) ∧ (c18 = true → c18 = true → c18 = true) ∧ (c18 = true → c18 = true → c18 =
     true) ∧ (D.and true c18 = true → c18 = true) ∧ D.cnd c18 (D.le c23 c13) false = true ∧ True))))) :
    evF (mkc KQ6) noAnn 10 [net cs ns os fs ls ks, .dat I a, .dat I b, .dat U8 which, .dat U16 at_] [] ⟨u8P which ∧ u16P at_, .dat .bool true, []⟩ := of_eq (by kernel_rfl) hvc

theorem rcosts_eq (cs : List (Int × List Bool × List Int)) (ns os : List ByteArray) (fs : List Off) (ls : List Line) (ks : List Cla) {a b : Int} (h : ruseF (cs, ns, os, fs, ls, ks) a b = true) : rcostsF (cs, ns, os, fs, ls, ks) a b = costsF (cs, ns, os, fs, ls, ks) a b := by unfold rcostsF; rw [h]; rfl
theorem rbnds_eq (cs : List (Int × List Bool × List Int)) (ns os : List ByteArray) (fs : List Off) (ls : List Line) (ks : List Cla) {a b : Int} (h : ruseF (cs, ns, os, fs, ls, ks) a b = true) : rboundsF (cs, ns, os, fs, ls, ks) a b = boundsF (cs, ns, os, fs, ls, ks) (costsF (cs, ns, os, fs, ls, ks) a b) := by unfold rboundsF; rw [h]; rfl
theorem rnext_eq (cs : List (Int × List Bool × List Int)) (ns os : List ByteArray) (fs : List Off) (ls : List Line) (ks : List Cla) {a b : Int} (h : ruseF (cs, ns, os, fs, ls, ks) a b = true) : rnextF (cs, ns, os, fs, ls, ks) a b = nextF (cs, ns, os, fs, ls, ks) (costsF (cs, ns, os, fs, ls, ks) a b) := by unfold rnextF; rw [h]; rfl
theorem costs_length (cs : List (Int × List Bool × List Int)) (ns os : List ByteArray) (fs : List Off) (ls : List Line) (ks : List Cla) (a b : Int) : (costsF (cs, ns, os, fs, ls, ks) a b).length = ls.length := costsF_len _ _ _
theorem sq16_of (cs : List (Int × List Bool × List Int)) (ns os : List ByteArray) (fs : List Off) (ls : List Line) (ks : List Cla) {m : List (List Int)} (h : Mp.Sq fs.length m) : sq16 (cs, ns, os, fs, ls, ks) m = true := by
  unfold sq16
  rw [Bool.and_eq_true, decide_eq_true_eq, List.all_eq_true]
  refine ⟨h.len, fun r hr => ?_⟩
  obtain ⟨i, hi, rfl⟩ := List.getElem_of_mem hr
  have := h.row i (by omega) (by rw [← h.len]; omega)
  rw [Int.toNat_natCast, List.getD_eq_getElem?_getD, List.getElem?_eq_getElem hi, Option.getD_some] at this
  exact decide_eq_true this
theorem bsq (cs : List (Int × List Bool × List Int)) (ns os : List ByteArray) (fs : List Off) (ls : List Line) (ks : List Cla) (c : List Int) : Mp.Sq fs.length (boundsF (cs, ns, os, fs, ls, ks) c) := Mp.buildF_sq _ _
theorem nsq (cs : List (Int × List Bool × List Int)) (ns os : List ByteArray) (fs : List Off) (ls : List Line) (ks : List Cla) (c : List Int) : Mp.Sq fs.length (nextF (cs, ns, os, fs, ls, ks) c) := Mp.buildF_sq _ _
theorem sqP_of (cs : List (Int × List Bool × List Int)) (ns os : List ByteArray) (fs : List Off) (ls : List Line) (ks : List Cla) {m : List (List Int)} (hf : few16 (cs, ns, os, fs, ls, ks) = true) (h : Mp.Sq fs.length m) : sqP16 (cs, ns, os, fs, ls, ks) m := by
  obtain ⟨_, h1, _⟩ := few16_iff.1 hf
  have h1 : fs.length ≤ 5 := h1
  refine ⟨by show fs.length ≤ 1000000; omega, by rw [h.len]; omega⟩
theorem bounds_none (cs : List (Int × List Bool × List Int)) (ns os : List ByteArray) (fs : List Off) (ls : List Line) (ks : List Cla) {a b : Int} (h : ruseF (cs, ns, os, fs, ls, ks) a b = false) : rboundsF (cs, ns, os, fs, ls, ks) a b = [] := by unfold rboundsF; rw [h]; rfl
theorem sqP_bnds (cs : List (Int × List Bool × List Int)) (ns os : List ByteArray) (fs : List Off) (ls : List Line) (ks : List Cla) {a b : Int} (hf : few16 (cs, ns, os, fs, ls, ks) = true) : sqP16 (cs, ns, os, fs, ls, ks) (rboundsF (cs, ns, os, fs, ls, ks) a b) := by
  cases h : ruseF (cs, ns, os, fs, ls, ks) a b with
  | true => rw [rbnds_eq cs ns os fs ls ks h]; exact sqP_of cs ns os fs ls ks hf (bsq cs ns os fs ls ks _)
  | false =>
    obtain ⟨_, h1, _⟩ := few16_iff.1 hf
    have h1 : fs.length ≤ 5 := h1
    rw [bounds_none cs ns os fs ls ks h]; exact ⟨by show fs.length ≤ 1000000; omega, Nat.zero_le _⟩
theorem t_ltime (a b which at_ : Int) (cs : List (Int × List Bool × List Int)) (ns os : List ByteArray) (fs : List Off) (ls : List Line) (ks : List Cla) : SoundC Tryz.prog G0 10 [net cs ns os fs ls ks, .dat I a, .dat I b, .dat U8 which, .dat U16 at_] [] ⟨u8P which ∧ u16P at_, .dat .bool true, []⟩ := by
  refine sound_of_ev (c := mkc KQ6) KSQ6 KI0s hm (vc_ltime a b which at_ cs ns os fs ls ks ⟨rfl, fun hp => ?_⟩)
  obtain ⟨⟨w0, w1⟩, a0', a1'⟩ := hp
  simp only [cnd_or, cnd_and, D.and, D.or, D.not, Bool.true_and, Bool.and_true, Bool.false_or, Bool.or_false, eq_self, true_and, and_true, imp_self, implies_true, Bool.not_eq_true', Bool.or_eq_true, Bool.or_eq_false_iff, Bool.not_eq_false', Bool.and_eq_true, Bool.and_eq_false_imp, Bool.not_not, forall_const, exists_eq_right, exists_eq_right', exists_eq_left, exists_eq_left', Int.toNat_natCast, Nat.zero_add, Nat.mul_one, Int.ofNat_eq_natCast, D.nil, D.eq, D.ne, D.lt, D.gt, D.le, D.ge, D.beq, D.ilen, D.slen, D.ile, D.ilt, D.ine, D.nle, D.nlt, D.sub, D.add, D.mul, D.neg, D.nat, D.ofN, D.len, D.nadd, D.nmul, D.get, D.mn, D.mx, D.set, D.app, D.tail, D.part, D.seg, D.rep, D.at2, decide_eq_true_eq, decide_eq_false_iff_not, beq_iff_eq, bne_iff_ne, beq_eq_false_iff_ne, bne_eq_false_iff_eq, D.wrap, D.allNil, lineOf_fold cs ns os fs ls ks]
  refine ⟨fun h => few_fewC (few16_iff.1 h).1, fun h => ?_⟩
  obtain ⟨⟨hf, hr⟩, hl⟩ := h
  obtain ⟨⟨g0, g1, g2, g3⟩, hs⟩ := ruse_iff.1 hr
  have i0 : 0 ≤ D.rem which ls.length := Int.tmod_nonneg _ w0
  have i1 : D.rem which ls.length < ls.length := Int.tmod_lt_of_pos _ (by omega)
  have s0 : 0 ≤ D.rem at_ (b - a) := Int.tmod_nonneg _ a0'
  have s1 : D.rem at_ (b - a) < b - a := Int.tmod_lt_of_pos _ (by omega)
  generalize D.rem which ls.length = i at *
  generalize D.rem at_ (b - a) = s at *
  have hcl := costs_length cs ns os fs ls ks a b
  have lf : fs.getD (lineOf (cs, ns, os, fs, ls, ks) i).2.2.1.toNat (⟨#[]⟩, 0, 0, 0, 0, 0, []) = offOf (cs, ns, os, fs, ls, ks) (lineOf (cs, ns, os, fs, ls, ks) i).2.2.1 := rfl
  have er : (rcostsF (cs, ns, os, fs, ls, ks) a b).length = ls.length := by rw [rcosts_eq cs ns os fs ls ks hr, hcl]
  have ec : (rcostsF (cs, ns, os, fs, ls, ks) a b).getD i.toNat 0 = costF (cs, ns, os, fs, ls, ks) a b i := by rw [rcosts_eq cs ns os fs ls ks hr, costsF_at cs ns os fs ls ks a b i0 i1]
  obtain ⟨l0, l1, l2, l3, l4, l5, l6⟩ := sound_line cs ns os fs ls ks hs i0 i1
  obtain ⟨o0, o1⟩ := sound_off cs ns os fs ls ks hs l2 l3
  refine ⟨in_small (by omega), hl, fun h => (h (by rw [er])).elim, fun _ => ⟨i0, by omega, fun hc => ?_⟩⟩
  rw [ec] at hc
  obtain ⟨e1, d0, d1, e2⟩ := cost_wait cs ns os fs ls ks hr i0 i1 hc
  have ha := line_at cs ns os fs ls ks ⟨sound_noF cs ns os fs ls ks hs, i0, i1⟩
  obtain ⟨u, u1, u2⟩ := (wait_some ha g1 e1).1 (a + s) (by omega) (by omega)
  have hu : usableF (cs, ns, os, fs, ls, ks) i [a + s] = true := by
    unfold usableF idxF
    rw [hs, Bool.and_true, Bool.and_eq_true]
    exact ⟨decide_eq_true ⟨i0, i1⟩, by simp [timeOk]; omega⟩
  obtain ⟨k1, k2⟩ := depart_of hu u1
  have ur := firstO_range u1
  have lf1 : (fs.getD (lineOf (cs, ns, os, fs, ls, ks) i).2.2.1.toNat (⟨#[]⟩, 0, 0, 0, 0, 0, [])).2.2.2.2.1 * (fs.getD (lineOf (cs, ns, os, fs, ls, ks) i).2.2.1.toNat (⟨#[]⟩, 0, 0, 0, 0, 0, [])).2.2.2.2.2.1 = (offOf (cs, ns, os, fs, ls, ks) (lineOf (cs, ns, os, fs, ls, ks) i).2.2.1).2.2.2.2.1 * (offOf (cs, ns, os, fs, ls, ks) (lineOf (cs, ns, os, fs, ls, ks) i).2.2.1).2.2.2.2.2.1 := rfl
  generalize (offOf (cs, ns, os, fs, ls, ks) (lineOf (cs, ns, os, fs, ls, ks) i).2.2.1).2.2.2.2.1 * (offOf (cs, ns, os, fs, ls, ks) (lineOf (cs, ns, os, fs, ls, ks) i).2.2.1).2.2.2.2.2.1 = pm at *
  exact ⟨in_small (by omega), in_small (by omega), by omega, in_small (by omega), i0, i1, l2, l3, fun _ => i0, fun _ => i1, fun _ => in_small (by omega), fun _ => in_small (by rw [lf1]; omega), fun _ => in_small (by rw [lf1]; omega), fun _ => in_small (by rw [lf1]; omega), fun _ => i0, fun _ => by omega, k2, decide_eq_true (by rw [ec, lf1, k1, e2]; omega)⟩
end Go.Eng.Sv

set_option maxRecDepth 100000
namespace Go.Eng.Sv
open Go.Proofs
open Go.Eng.Mp (buildF rowsF rowF preBuild upto at2 idx2 starS starE starP)

noncomputable def bB (n : Net) (a b : Int) (o d : Int) : Int := at2 (boundsF n (costsF n a b)) o d
noncomputable def cnt (n : Net) (a b o d : Int) : Nat := (List.range n.2.2.2.1.length).countP fun x : Nat => decide (bB n a b o d < bB n a b x d)
noncomputable def stepsTo (n : Net) (a b d o s : Int) : Prop := few16 n = true ∧ ruseF n a b = true ∧ 0 ≤ o ∧ o < n.2.2.2.1.length ∧ 0 ≤ d ∧ d < n.2.2.2.1.length ∧ 0 ≤ s ∧ (0 < s → 0 ≤ bB n a b o d) ∧ s ≤ cnt n a b o d
noncomputable def stepsA (n : Net) (a b : Int) : Ann := ⟨fun id s => match id with
  | 12 => match s.sig.T 16 with
    | .dat (.int .i64) d => some { α := Int × Int, inv := fun x => stepsTo n a b d x.1 x.2, st := fun x => put s [(15, .dat I x.1), (17, .dat I x.2)], μ := fun x => D.nat (D.sub (D.ilen n.2.2.2.1) x.2) }
    | _ => none
  | _ => none, fun _ _ => none, fun _ _ => none⟩
set_option maxRecDepth 100000 in
theorem vc_lsteps (a b one two : Int) (cs : List (Int × List Bool × List Int)) (ns os : List ByteArray) (fs : List Off) (ls : List Line) (ks : List Cla) (hvc :
    let c1 := (fs, ls, ks);
    let c2 := (cs, ns, os, c1);
    let c3 := few16 c2;
    let c4 := D.not c3;
    let c5 := D.not c4;
    let c6 := D.ilen fs;
    let c7 := D.cnd c4 true (D.eq c6 (0 : Int));
    let c8 := D.not c7;
    let c9 := D.cnd c7 true (D.not (ruseF c2 a b));
    let c10 := rnextF c2 a b;
    let c11 := sq16 c2 c10;
    let c12 := D.not c11;
    let c13 := D.not c12;
    let c14 := rboundsF c2 a b;
    let c15 := D.cnd c12 true (D.not (sq16 c2 c14));
    let c16 := D.not c15;
    let c17 := rcostsF c2 a b;
    let c18 := D.ilen c17;
    let c19 := D.ilen ls;
    let c20 := D.cnd c15 true (D.ne c18 c19);
    let c21 := D.rem two c6;
    let c22 := D.rem one c6;
    let c23 := D.ilen c14;
    let c24 := D.nat c21;
    let c25 := D.ilen c10;
    let c26 := (ByteArray.mk (D.nil UInt8).toArray, (0 : Int), (0 : Int), (0 : Int), (0 : Int), (0 : Int)); true = true ∧ (u8P one ∧ u8P two → True ∧ True ∧ (c5 =
     true → c5 = true → c5 = true) ∧ (c5 = true → c5 = true → c5 = true) ∧ (c5 = true → c5 = true → c5 = true) ∧ (D.and true c5 = true → c5 = true) ∧ (c8 = true →
     c8 = true → c8 = true) ∧ (c8 = true → c8 = true → c8 = true) ∧ (c8 = true → c8 = true → c8 = true) ∧ (c8 = true → fewC c2 = true) ∧ (c8 = true → c8 = true → c8
     = true) ∧ (D.and true c8 = true → c8 = true) ∧ (c9 = true → true = true ∧ True) ∧ (c9 = false → True ∧ True ∧ True ∧ sqP16 c2 c10 ∧ (c13 = true → c13 = true →
     c13 = true) ∧ (c13 = true → c13 = true → c13 = true) ∧ (c13 = true → sqP16 c2 c14) ∧ (c13 = true → c13 = true → c13 = true) ∧ (D.and true c13 = true → c13 =
     true) ∧ (c16 = true → c16 = true → c16 = true) ∧ (c16 = true → c16 = true → c16 = true) ∧ (c16 = true → c16 = true → c16 = true) ∧ (c16 = true → c16 = true →
     c16 = true) ∧ (c16 = true → c16 = true → c16 = true) ∧ (D.and true c16 = true → c16 = true) ∧ (c20 = true → false = true ∧ True) ∧ (c20 = false → inR
     IntKind.i64 one ∧ D.ine c6 (0 : Int) ∧ inR IntKind.i64 two ∧ D.ine c6 (0 : Int) ∧ (∃ (x : Int × Int), stepsTo c2 a b c21 x.fst x.snd ∧ cs = cs ∧ ns = ns ∧ os =
     os ∧ fs = fs ∧ ls = ls ∧ ks = ks ∧ a = a ∧ b = b ∧ one = one ∧ two = two ∧ c2 = c2 ∧ true = true ∧ c10 = c10 ∧ c14 = c14 ∧ c17 = c17 ∧ c22 = x.fst ∧ c21 = c21
     ∧ (0 : Int) = x.snd ∧ true = true ∧ cs = cs ∧ ns = ns ∧ os = os ∧ fs = fs ∧ ls = ls ∧ ks = ks ∧ c3 = c3 ∧ c4 = c4 ∧ c4 = c4 ∧ c7 = c7 ∧ c7 = c7 ∧ c9 = c9 ∧ cs
     = cs ∧ ns = ns ∧ os = os ∧ fs = fs ∧ ls = ls ∧ ks = ks ∧ a = a ∧ b = b ∧ c10 = c10 ∧ cs = cs ∧ ns = ns ∧ os = os ∧ fs = fs ∧ ls = ls ∧ ks = ks ∧ a = a ∧ b = b
     ∧ c14 = c14 ∧ cs = cs ∧ ns = ns ∧ os = os ∧ fs = fs ∧ ls = ls ∧ ks = ks ∧ a = a ∧ b = b ∧ c17 = c17 ∧ cs = cs ∧ ns = ns ∧ os = os ∧ fs = fs ∧ ls = ls ∧ ks = ks
     ∧ c10 = c10 ∧ c11 = c11 ∧ c12 = c12 ∧ c12 = c12 ∧ c15 = c15 ∧ c15 = c15 ∧ c20 = c20 ∧ one = one ∧ one = one ∧ c1 = c1 ∧ fs = fs ∧ c6 = c6 ∧ c22 = c22 ∧ two =
     two ∧ two = two ∧ c1 = c1 ∧ fs = fs ∧ c6 = c6 ∧ c21 = c21 ∧ True) ∧ ∀ (x : Int × Int),
    let c27 := D.lt x.snd c6;
    let c28 := D.eq x.fst c21;
    let c29 := D.nat x.fst;
    let c30 := D.get c14 c29 (D.nil Int);
    let c31 := D.get c30 c24 (0 : Int);
    let c32 := D.cnd true (D.eq c31 (0 : Int)) false;
    let c33 := D.get c10 c29 (D.nil Int);
    let c34 := D.get c33 c24 (0 : Int);
    let c35 := D.eq c34 (-1 : Int);
    let c36 := D.cnd true (D.eq c31 (-1 : Int)) false;
    let c37 := D.lt c34 (0 : Int);
    let c38 := D.not c37;
    let c39 := D.cnd c37 true (D.ge c34 c19);
    let c40 := D.not c39;
    let c41 := D.nat c34;
    let c42 := (D.get ls c41 c26).snd;
    let c43 := D.cnd c39 true (D.ne c42.fst x.fst);
    let c44 := D.not c43;
    let c45 := D.get c17 c41 (0 : Int);
    let c46 := D.cnd c43 true (D.le c45 (0 : Int));
    let c47 := D.not c46;
    let c48 := c42.snd.fst;
    let c49 := D.get c14 (D.nat c48) (D.nil Int);
    let c50 := D.add c45 (D.get c49 c24 (0 : Int));
    let c51 := D.cnd c46 true (D.ne c31 c50);
    let c52 := D.add x.snd (1 : Int); stepsTo c2 a b c21 x.fst x.snd → (c27 = true → (c28 = true → (true = true → true = true → true = true) ∧ (true = true → true =
     true → true = true) ∧ (true = true → D.ile (0 : Int) x.fst) ∧ (true = true → D.ilt x.fst c23) ∧ (true = true → true = true → true = true) ∧ (true = true → true
     = true → true = true) ∧ (true = true → true = true → true = true) ∧ (true = true → D.ile (0 : Int) c21) ∧ (true = true → D.ilt c21 (D.ilen c30)) ∧ (true = true
     → true = true → true = true) ∧ (true = true → true = true → true = true) ∧ (D.and true true = true → true = true) ∧ (c32 = true → c32 = true → c32 = true) ∧
     (c32 = true → c32 = true → c32 = true) ∧ (c32 = true → D.ile (0 : Int) x.fst) ∧ (c32 = true → D.ilt x.fst c25) ∧ (c32 = true → c32 = true → c32 = true) ∧ (c32
     = true → c32 = true → c32 = true) ∧ (c32 = true → c32 = true → c32 = true) ∧ (c32 = true → D.ile (0 : Int) c21) ∧ (c32 = true → D.ilt c21 (D.ilen c33)) ∧ (c32
     = true → c32 = true → c32 = true) ∧ (c32 = true → c32 = true → c32 = true) ∧ (D.and true c32 = true → c32 = true) ∧ D.cnd c32 c35 false = true ∧ True) ∧ (c28 =
     false → D.ile (0 : Int) x.fst ∧ D.ilt x.fst c25 ∧ D.ile (0 : Int) c21 ∧ D.ilt c21 (D.ilen c33) ∧ (c35 = true → (true = true → true = true → true = true) ∧
     (true = true → true = true → true = true) ∧ (true = true → D.ile (0 : Int) x.fst) ∧ (true = true → D.ilt x.fst c23) ∧ (true = true → true = true → true = true)
     ∧ (true = true → true = true → true = true) ∧ (true = true → true = true → true = true) ∧ (true = true → D.ile (0 : Int) c21) ∧ (true = true → D.ilt c21
     (D.ilen c30)) ∧ (true = true → true = true → true = true) ∧ (true = true → true = true → true = true) ∧ (D.and true true = true → true = true) ∧ (c36 = true →
     c36 = true → c36 = true) ∧ (D.and true c36 = true → c36 = true) ∧ D.cnd c36 (D.eq x.snd (0 : Int)) false = true ∧ True) ∧ (c35 = false → (c38 = true → c38 =
     true → c38 = true) ∧ (c38 = true → c38 = true → c38 = true) ∧ (c38 = true → c38 = true → c38 = true) ∧ (c38 = true → c38 = true → c38 = true) ∧ (D.and true c38
     = true → c38 = true) ∧ (c40 = true → c40 = true → c40 = true) ∧ (c40 = true → c40 = true → c40 = true) ∧ (c40 = true → c40 = true → c40 = true) ∧ (c40 = true →
     D.ile (0 : Int) c34) ∧ (c40 = true → D.ilt c34 c19) ∧ (c40 = true → c40 = true → c40 = true) ∧ (c40 = true → c40 = true → c40 = true) ∧ (c40 = true → c40 =
     true → c40 = true) ∧ (c40 = true → c40 = true → c40 = true) ∧ (D.and true c40 = true → c40 = true) ∧ (c44 = true → c44 = true → c44 = true) ∧ (c44 = true → c44
     = true → c44 = true) ∧ (c44 = true → D.ile (0 : Int) c34) ∧ (c44 = true → D.ilt c34 c18) ∧ (c44 = true → c44 = true → c44 = true) ∧ (c44 = true → c44 = true →
     c44 = true) ∧ (D.and true c44 = true → c44 = true) ∧ (c47 = true → c47 = true → c47 = true) ∧ (c47 = true → c47 = true → c47 = true) ∧ (c47 = true → D.ile (0 :
     Int) x.fst) ∧ (c47 = true → D.ilt x.fst c23) ∧ (c47 = true → c47 = true → c47 = true) ∧ (c47 = true → c47 = true → c47 = true) ∧ (c47 = true → c47 = true → c47
     = true) ∧ (c47 = true → D.ile (0 : Int) c21) ∧ (c47 = true → D.ilt c21 (D.ilen c30)) ∧ (c47 = true → c47 = true → c47 = true) ∧ (c47 = true → c47 = true → c47
     = true) ∧ (c47 = true → c47 = true → c47 = true) ∧ (c47 = true → D.ile (0 : Int) c34) ∧ (c47 = true → D.ilt c34 c18) ∧ (c47 = true → c47 = true → c47 = true) ∧
     (c47 = true → c47 = true → c47 = true) ∧ (c47 = true → c47 = true → c47 = true) ∧ (c47 = true → c47 = true → c47 = true) ∧ (c47 = true → D.ile (0 : Int) c34) ∧
     (c47 = true → D.ilt c34 c19) ∧ (c47 = true → c47 = true → c47 = true) ∧ (c47 = true → c47 = true → c47 = true) ∧ (c47 = true → c47 = true → c47 = true) ∧ (c47
     = true → c47 = true → c47 = true) ∧ (c47 = true → D.ile (0 : Int) c48) ∧ (c47 = true → D.ilt c48 c23) ∧ (c47 = true → c47 = true → c47 = true) ∧ (c47 = true →
     c47 = true → c47 = true) ∧ (c47 = true → c47 = true → c47 = true) ∧ (c47 = true → D.ile (0 : Int) c21) ∧ (c47 = true → D.ilt c21 (D.ilen c49)) ∧ (c47 = true →
     c47 = true → c47 = true) ∧ (c47 = true → c47 = true → c47 = true) ∧ (c47 = true → c47 = true → c47 = true) ∧ (c47 = true → inR IntKind.i64 c50) ∧ (c47 = true →
     c47 = true → c47 = true) ∧ (c47 = true → c47 = true → c47 = true) ∧ (D.and true c47 = true → c47 = true) ∧ (c51 = true → false = true ∧ True) ∧ (c51 = false →
     D.ile (0 : Int) c34 ∧ D.ilt c34 c19 ∧ inR IntKind.i64 c52 ∧ ∃ (y : Int × Int), stepsTo c2 a b c21 y.fst y.snd ∧ (cs = cs ∧ ns = ns ∧ os = os ∧ fs = fs ∧ ls =
     ls ∧ ks = ks ∧ a = a ∧ b = b ∧ one = one ∧ two = two ∧ c2 = c2 ∧ true = true ∧ c10 = c10 ∧ c14 = c14 ∧ c17 = c17 ∧ c48 = y.fst ∧ c21 = c21 ∧ c52 = y.snd ∧ true
     = true ∧ cs = cs ∧ ns = ns ∧ os = os ∧ fs = fs ∧ ls = ls ∧ ks = ks ∧ c3 = c3 ∧ c4 = c4 ∧ c4 = c4 ∧ c7 = c7 ∧ c7 = c7 ∧ c9 = c9 ∧ cs = cs ∧ ns = ns ∧ os = os ∧
     fs = fs ∧ ls = ls ∧ ks = ks ∧ a = a ∧ b = b ∧ c10 = c10 ∧ cs = cs ∧ ns = ns ∧ os = os ∧ fs = fs ∧ ls = ls ∧ ks = ks ∧ a = a ∧ b = b ∧ c14 = c14 ∧ cs = cs ∧ ns
     = ns ∧ os = os ∧ fs = fs ∧ ls = ls ∧ ks = ks ∧ a = a ∧ b = b ∧ c17 = c17 ∧ cs = cs ∧ ns = ns ∧ os = os ∧ fs = fs ∧ ls = ls ∧ ks = ks ∧ c10 = c10 ∧ c11 = c11 ∧
     c12 = c12 ∧ c12 = c12 ∧ c15 = c15 ∧ c15 = c15 ∧ c20 = c20 ∧ one = one ∧ one = one ∧ c1 = c1 ∧ fs = fs ∧ c6 = c6 ∧ c22 = c22 ∧ two = two ∧ two = two ∧ c1 = c1 ∧
     fs = fs ∧ c6 = c6 ∧ c21 = c21 ∧ True) ∧ D.nlt (D.nat (D.sub c6 y.snd)) (D.nat (D.sub c6 x.snd)))))) ∧ (c27 = false → false = true ∧ True))))) :
    evF (mkc KQ6) (stepsA (cs, ns, os, fs, ls, ks) a b) 5 [net cs ns os fs ls ks, .dat I a, .dat I b, .dat U8 one, .dat U8 two] [] ⟨u8P one ∧ u8P two, .dat .bool true, []⟩ := of_eq (by kernel_rfl) hvc

theorem countP_lt {α : Type} {p q : α → Bool} : ∀ {l : List α}, (∀ x ∈ l, p x = true → q x = true) → (∃ x ∈ l, q x = true ∧ p x = false) → l.countP p + 1 ≤ l.countP q
  | [], _, h => by obtain ⟨x, hx, _⟩ := h; cases hx
  | y :: l, h1, h2 => by
    have hle : l.countP p ≤ l.countP q := List.countP_mono_left fun x hx => h1 x (List.mem_cons_of_mem _ hx)
    rw [List.countP_cons, List.countP_cons]
    obtain ⟨x, hx, g1, g2⟩ := h2
    rcases List.mem_cons.1 hx with rfl | hx
    · rw [if_pos g1, if_neg (by rw [g2]; decide)]; omega
    · have ih := countP_lt (fun x hx => h1 x (List.mem_cons_of_mem _ hx)) ⟨x, hx, g1, g2⟩
      have := h1 y List.mem_cons_self
      by_cases hy : p y = true
      · rw [if_pos hy, if_pos (this hy)]; omega
      · rw [if_neg hy]; omega
theorem cnt_lt (cs : List (Int × List Bool × List Int)) (ns os : List ByteArray) (fs : List Off) (ls : List Line) (ks : List Cla) {a b o d : Int} (o0 : 0 ≤ o) (o1 : o < fs.length) : cnt (cs, ns, os, fs, ls, ks) a b o d + 1 ≤ fs.length := by
  have h := countP_lt (p := fun x : Nat => decide (bB (cs, ns, os, fs, ls, ks) a b o d < bB (cs, ns, os, fs, ls, ks) a b x d)) (q := fun _ => true) (l := List.range fs.length) (fun _ _ _ => rfl) ⟨o.toNat, List.mem_range.2 (by omega), rfl, by
    rw [decide_eq_false_iff_not, Int.toNat_of_nonneg o0]; omega⟩
  have e : (List.range fs.length).countP (fun _ => true) = fs.length := by simp
  rw [e] at h
  exact h
theorem cnt_next (cs : List (Int × List Bool × List Int)) (ns os : List ByteArray) (fs : List Off) (ls : List Line) (ks : List Cla) {a b o o' d : Int} (o0 : 0 ≤ o) (o1 : o < fs.length) (h : bB (cs, ns, os, fs, ls, ks) a b o' d < bB (cs, ns, os, fs, ls, ks) a b o d) : cnt (cs, ns, os, fs, ls, ks) a b o d + 1 ≤ cnt (cs, ns, os, fs, ls, ks) a b o' d := by
  refine countP_lt (fun x _ hx => ?_) ⟨o.toNat, List.mem_range.2 (by show o.toNat < fs.length; omega), ?_, ?_⟩
  · have := of_decide_eq_true hx
    exact decide_eq_true (by omega)
  · rw [decide_eq_true_eq, Int.toNat_of_nonneg o0]; exact h
  · rw [decide_eq_false_iff_not, Int.toNat_of_nonneg o0]; omega
/-- The next line, where there is a bound. -/
theorem best_some (cs : List (Int × List Bool × List Int)) (ns os : List ByteArray) (fs : List Off) (ls : List Line) (ks : List Cla) {a b o d : Int} (h : ruseF (cs, ns, os, fs, ls, ks) a b = true) (o0 : 0 ≤ o) (o1 : o < fs.length) (d0 : 0 ≤ d) (d1 : d < fs.length) (hne : o ≠ d) (hB : 0 ≤ bB (cs, ns, os, fs, ls, ks) a b o d) :
    ∃ i : Int, at2 (nextF (cs, ns, os, fs, ls, ks) (costsF (cs, ns, os, fs, ls, ks) a b)) o d = i ∧ 0 ≤ i ∧ i < ls.length ∧ (lineOf (cs, ns, os, fs, ls, ks) i).2.1 = o ∧ (costsF (cs, ns, os, fs, ls, ks) a b).getD i.toNat 0 ≠ noneI ∧ 0 < (costsF (cs, ns, os, fs, ls, ks) a b).getD i.toNat 0 ∧ 0 ≤ bB (cs, ns, os, fs, ls, ks) a b (lineOf (cs, ns, os, fs, ls, ks) i).2.2.1 d ∧ bB (cs, ns, os, fs, ls, ks) a b o d = (costsF (cs, ns, os, fs, ls, ks) a b).getD i.toNat 0 + bB (cs, ns, os, fs, ls, ks) a b (lineOf (cs, ns, os, fs, ls, ks) i).2.2.1 d := by
  have hc := costs_ok cs ns os fs ls ks h
  have hat : at2 (nextF (cs, ns, os, fs, ls, ks) (costsF (cs, ns, os, fs, ls, ks) a b)) o d = next2 (cs, ns, os, fs, ls, ks) (costsF (cs, ns, os, fs, ls, ks) a b) (boundsF (cs, ns, os, fs, ls, ks) (costsF (cs, ns, os, fs, ls, ks) a b)) o d := Mp.buildF_at _ _ o d o0 o1 d0 d1
  have hn : next2 (cs, ns, os, fs, ls, ks) (costsF (cs, ns, os, fs, ls, ks) a b) (boundsF (cs, ns, os, fs, ls, ks) (costsF (cs, ns, os, fs, ls, ks) a b)) o d = bestF (cs, ns, os, fs, ls, ks) (costsF (cs, ns, os, fs, ls, ks) a b) (boundsF (cs, ns, os, fs, ls, ks) (costsF (cs, ns, os, fs, ls, ks) a b)) o d := by
    unfold next2; rw [if_neg (fun q => q.elim hne (fun g => by have g : bB (cs, ns, os, fs, ls, ks) a b o d < 0 := g; omega))]
  rw [hat, hn]
  obtain ⟨k, l, k1, k2, k3, k4, k5⟩ := (bounds_ok cs ns os fs ls ks hc).1.from_ o d o0 o1 d0 d1 hne hB
  have hlt : k < ls.length := (List.getElem?_eq_some_iff.1 k1).1
  have el : ∀ j : Nat, ∀ l, ls[j]? = some l → lineOf (cs, ns, os, fs, ls, ks) j = l := fun j l hj => by
    unfold lineOf
    show ls.getD (j : Int).toNat _ = l
    rw [Int.toNat_natCast, List.getD_eq_getElem?_getD, hj]; rfl
  have hb : isBest (cs, ns, os, fs, ls, ks) (costsF (cs, ns, os, fs, ls, ks) a b) (boundsF (cs, ns, os, fs, ls, ks) (costsF (cs, ns, os, fs, ls, ks) a b)) o d k = true := isBest_iff.2 ⟨by rw [el k l k1]; exact k3, by rw [Int.toNat_natCast]; exact k2, by rw [el k l k1]; exact k4, by rw [Int.toNat_natCast, el k l k1]; exact k5.symm⟩
  unfold bestF
  cases hf : (List.range ls.length).find? (fun i : Nat => isBest (cs, ns, os, fs, ls, ks) (costsF (cs, ns, os, fs, ls, ks) a b) (boundsF (cs, ns, os, fs, ls, ks) (costsF (cs, ns, os, fs, ls, ks) a b)) o d i) with
  | none => exact (List.find?_eq_none.1 hf k (List.mem_range.2 hlt) hb).elim
  | some i =>
    have hi := List.mem_range.1 (List.mem_of_find?_eq_some hf)
    have hp : isBest (cs, ns, os, fs, ls, ks) (costsF (cs, ns, os, fs, ls, ks) a b) (boundsF (cs, ns, os, fs, ls, ks) (costsF (cs, ns, os, fs, ls, ks) a b)) o d i = true := List.find?_some (p := fun i : Nat => isBest (cs, ns, os, fs, ls, ks) (costsF (cs, ns, os, fs, ls, ks) a b) (boundsF (cs, ns, os, fs, ls, ks) (costsF (cs, ns, os, fs, ls, ks) a b)) o d i) hf
    obtain ⟨p1, p2, p3, p4⟩ := isBest_iff.1 hp
    have hc2 := hc.2.2 i (by omega) (by rw [hc.2.1]; show (i : Int) < ls.length; omega)
    refine ⟨i, ?_, by omega, by omega, p1, p2, ?_, p3, p4.symm⟩
    · rfl
    · rcases hc2 with g | g
      · exact (p2 g).elim
      · exact g.1
theorem t_lsteps (a b one two : Int) (cs : List (Int × List Bool × List Int)) (ns os : List ByteArray) (fs : List Off) (ls : List Line) (ks : List Cla) : SoundC Tryz.prog G0 5 [net cs ns os fs ls ks, .dat I a, .dat I b, .dat U8 one, .dat U8 two] [] ⟨u8P one ∧ u8P two, .dat .bool true, []⟩ := by
  refine sound_of_ev (c := mkc KQ6) KSQ6 KI0s hm (vc_lsteps a b one two cs ns os fs ls ks ⟨rfl, fun hp => ?_⟩)
  obtain ⟨⟨w0, w1⟩, v0, v1⟩ := hp
  simp only [cnd_or, cnd_and, D.and, D.or, D.not, Bool.true_and, Bool.and_true, Bool.false_or, Bool.or_false, eq_self, true_and, and_true, imp_self, implies_true, Bool.not_eq_true', Bool.or_eq_true, Bool.or_eq_false_iff, Bool.not_eq_false', Bool.and_eq_true, Bool.and_eq_false_imp, Bool.not_not, forall_const, exists_eq_right, exists_eq_right', exists_eq_left, exists_eq_left', Int.toNat_natCast, Nat.zero_add, Nat.mul_one, Int.ofNat_eq_natCast, D.nil, D.eq, D.ne, D.lt, D.gt, D.le, D.ge, D.beq, D.ilen, D.slen, D.ile, D.ilt, D.ine, D.nle, D.nlt, D.sub, D.add, D.mul, D.neg, D.nat, D.ofN, D.len, D.nadd, D.nmul, D.get, D.mn, D.mx, D.set, D.app, D.tail, D.part, D.seg, D.rep, D.at2, decide_eq_true_eq, decide_eq_false_iff_not, beq_iff_eq, bne_iff_ne, beq_eq_false_iff_ne, bne_eq_false_iff_eq, D.wrap, D.allNil, lineOf_fold cs ns os fs ls ks]
  refine ⟨fun h => few_fewC (few16_iff.1 h.1).1, fun ⟨⟨hf, hq⟩, hr⟩ => ?_⟩
  obtain ⟨⟨g0, g1, g2, g3⟩, hs⟩ := ruse_iff.1 hr
  have f5 : fs.length ≤ 5 := (few16_iff.1 hf).2.1
  have l12 : ls.length ≤ 12 := (few16_iff.1 hf).2.2
  have hcl : (rcostsF (cs, ns, os, fs, ls, ks) a b).length = ls.length := by rw [rcosts_eq cs ns os fs ls ks hr]; exact costs_length cs ns os fs ls ks a b
  have s1 : Mp.Sq fs.length (rboundsF (cs, ns, os, fs, ls, ks) a b) := by rw [rbnds_eq cs ns os fs ls ks hr]; exact bsq cs ns os fs ls ks _
  have s2 : Mp.Sq fs.length (rnextF (cs, ns, os, fs, ls, ks) a b) := by rw [rnext_eq cs ns os fs ls ks hr]; exact nsq cs ns os fs ls ks _
  have hsq1 := sq16_of cs ns os fs ls ks s1
  have hsq2 := sq16_of cs ns os fs ls ks s2
  have hP1 := sqP_of cs ns os fs ls ks hf s1
  have hP2 := sqP_of cs ns os fs ls ks hf s2
  have hBo := (bounds_ok cs ns os fs ls ks (costs_ok cs ns os fs ls ks hr)).1
  have hB : ∀ i j : Int, ((rboundsF (cs, ns, os, fs, ls, ks) a b).getD i.toNat []).getD j.toNat 0 = bB (cs, ns, os, fs, ls, ks) a b i j := fun i j => by rw [rbnds_eq cs ns os fs ls ks hr]; rfl
  have hN0 : ∀ i j : Int, 0 ≤ i → i < fs.length → 0 ≤ j → j < fs.length → i = j ∨ bB (cs, ns, os, fs, ls, ks) a b i j < 0 → ((rnextF (cs, ns, os, fs, ls, ks) a b).getD i.toNat []).getD j.toNat 0 = -1 := fun i j i0 i1 j0 j1 h => by
    rw [rnext_eq cs ns os fs ls ks hr]
    have : at2 (nextF (cs, ns, os, fs, ls, ks) (costsF (cs, ns, os, fs, ls, ks) a b)) i j = next2 (cs, ns, os, fs, ls, ks) (costsF (cs, ns, os, fs, ls, ks) a b) (boundsF (cs, ns, os, fs, ls, ks) (costsF (cs, ns, os, fs, ls, ks) a b)) i j := Mp.buildF_at _ _ i j i0 i1 j0 j1
    show at2 (nextF (cs, ns, os, fs, ls, ks) (costsF (cs, ns, os, fs, ls, ks) a b)) i j = -1
    rw [this]; unfold next2; exact if_pos h
  have hN1 : ∀ i j : Int, 0 ≤ i → i < fs.length → 0 ≤ j → j < fs.length → i ≠ j → 0 ≤ bB (cs, ns, os, fs, ls, ks) a b i j → ∃ k : Int, ((rnextF (cs, ns, os, fs, ls, ks) a b).getD i.toNat []).getD j.toNat 0 = k ∧ 0 ≤ k ∧ k < ls.length ∧ (lineOf (cs, ns, os, fs, ls, ks) k).2.1 = i ∧ 0 < (rcostsF (cs, ns, os, fs, ls, ks) a b).getD k.toNat 0 ∧ 0 ≤ bB (cs, ns, os, fs, ls, ks) a b (lineOf (cs, ns, os, fs, ls, ks) k).2.2.1 j ∧ bB (cs, ns, os, fs, ls, ks) a b i j = (rcostsF (cs, ns, os, fs, ls, ks) a b).getD k.toNat 0 + bB (cs, ns, os, fs, ls, ks) a b (lineOf (cs, ns, os, fs, ls, ks) k).2.2.1 j := fun i j i0 i1 j0 j1 hne h => by
    obtain ⟨k, k1, k2, k3, k4, _, k5, k6, k7⟩ := best_some cs ns os fs ls ks hr i0 i1 j0 j1 hne h
    exact ⟨k, by rw [rnext_eq cs ns os fs ls ks hr]; exact k1, k2, k3, k4, by rw [rcosts_eq cs ns os fs ls ks hr]; exact k5, k6, by rw [rcosts_eq cs ns os fs ls ks hr]; exact k7⟩
  have hcb : ∀ i : Int, 0 ≤ i → i < ls.length → (rcostsF (cs, ns, os, fs, ls, ks) a b).getD i.toNat 0 ≤ 1000000 := fun i i0 i1 => by
    rw [rcosts_eq cs ns os fs ls ks hr]
    have := (costs_ok cs ns os fs ls ks hr).2.2 i i0 (by rw [costs_length cs ns os fs ls ks]; exact i1)
    unfold noneI at this
    omega
  have hbb : ∀ i j : Int, 0 ≤ i → i < fs.length → 0 ≤ j → j < fs.length → bB (cs, ns, os, fs, ls, ks) a b i j ≤ 1152921504606846976 := fun i j i0 i1 j0 j1 => (bnd_ok cs ns os fs ls ks (costs_ok cs ns os fs ls ks hr) i j i0 i1 j0 j1).2.2
  have lm : ∀ k : Int, 0 ≤ k → k < ls.length → 0 ≤ (lineOf (cs, ns, os, fs, ls, ks) k).2.2.1 ∧ (lineOf (cs, ns, os, fs, ls, ks) k).2.2.1 < fs.length := fun k k0 k1 => by
    obtain ⟨_, _, q3, q4, _⟩ := sound_line cs ns os fs ls ks hs k0 k1
    exact ⟨q3, q4⟩
  have n1 := s1.len
  have n2 := s2.len
  have row1 := s1.row
  have row2 := s2.row
  have i0 : 0 ≤ D.rem one fs.length := Int.tmod_nonneg _ w0
  have i1 : D.rem one fs.length < fs.length := Int.tmod_lt_of_pos _ (by omega)
  have j0 : 0 ≤ D.rem two fs.length := Int.tmod_nonneg _ v0
  have j1 : D.rem two fs.length < fs.length := Int.tmod_lt_of_pos _ (by omega)
  generalize D.rem one fs.length = p at *
  generalize D.rem two fs.length = d at *
  simp only [hB]
  generalize rcostsF (cs, ns, os, fs, ls, ks) a b = mc at *
  generalize rboundsF (cs, ns, os, fs, ls, ks) a b = mb at *
  generalize rnextF (cs, ns, os, fs, ls, ks) a b = mn at *
  refine ⟨hP2, fun _ => hP1, fun h => ?_, fun _ => ⟨in_small (by omega), hq, in_small (by omega), hq, ⟨(p, 0), ⟨hf, hr, i0, i1, j0, j1, Int.le_refl _, fun h => (by have h : (0 : Int) < 0 := h; omega), Int.natCast_nonneg _⟩, rfl, rfl⟩, fun x => ?_⟩⟩
  · rw [hsq1, hsq2] at h
    rcases h with (h | h) | h
    · cases h
    · cases h
    · omega
  obtain ⟨o, s⟩ := x
  simp only
  rintro ⟨_, _, o0, o1, _, _, s0, sB, sc⟩
  have o1 : o < fs.length := o1
  have r1 := row1 o o0 o1
  have r2 := row2 o o0 o1
  have hcn := cnt_lt cs ns os fs ls ks (a := a) (b := b) (d := d) o0 o1
  refine ⟨fun hlt => ⟨fun he => ?_, fun hne => ?_⟩, fun hge => ?_⟩
  · subst he
    have hz : bB (cs, ns, os, fs, ls, ks) a b o o = 0 := hBo.same o o0 o1
    have hn := hN0 o o o0 o1 o0 o1 (.inl rfl)
    and_intros
    all_goals first | omega | (intro _; omega) | exact hz | exact hn
  · by_cases hb : 0 ≤ bB (cs, ns, os, fs, ls, ks) a b o d
    · obtain ⟨k, k1, k2, k3, k4, k5, k6, k7⟩ := hN1 o d o0 o1 j0 j1 hne hb
      rw [k1]
      obtain ⟨t0, t1⟩ := lm k k2 k3
      have r3 := row1 _ t0 t1
      have hcb' := hcb k k2 k3
      have hbb' := hbb _ d t0 t1 j0 j1
      have hnx := cnt_next cs ns os fs ls ks (a := a) (b := b) (o := o) (o' := (lineOf (cs, ns, os, fs, ls, ks) k).2.2.1) (d := d) o0 o1 (by omega)
      refine ⟨o0, by omega, j0, by omega, fun h => by omega, fun _ => ?_⟩
      have hin : inR .i64 (mc.getD k.toNat 0 + bB (cs, ns, os, fs, ls, ks) a b (lineOf (cs, ns, os, fs, ls, ks) k).2.2.1 d) := by unfold inR; simp only; omega
      refine ⟨fun _ => k2, fun _ => k3, fun _ => k2, fun _ => by omega, fun _ => o0, fun _ => by omega, fun _ => j0, fun _ => by omega, fun _ => k2, fun _ => by omega, fun _ => k2, fun _ => k3, fun _ => t0, fun _ => by omega, fun _ => j0, fun _ => by omega, fun _ => hin, fun h => ?_, fun _ => ⟨k2, k3, in_small (by omega), ((lineOf (cs, ns, os, fs, ls, ks) k).2.2.1, s + 1), ⟨hf, hr, t0, t1, j0, j1, by omega, fun _ => k6, by show s + 1 ≤ ((cnt (cs, ns, os, fs, ls, ks) a b (lineOf (cs, ns, os, fs, ls, ks) k).2.2.1 d : Nat) : Int); omega⟩, ⟨rfl, rfl⟩, by show ((fs.length : Int) - (s + 1)).toNat < _; omega⟩⟩
      exfalso
      rcases h with (((h | h) | h) | h) | h
      · omega
      · omega
      · exact h k4
      · omega
      · exact h k7
    · have hn := hN0 o d o0 o1 j0 j1 (.inr (by omega))
      rw [hn]
      have hlo : -1 ≤ bB (cs, ns, os, fs, ls, ks) a b o d := hBo.lo o d o0 o1 j0 j1
      refine ⟨o0, by omega, j0, by omega, fun _ => ⟨o0, by omega, j0, by omega, by omega, by omega⟩, fun h => (h rfl).elim⟩
  · exfalso; omega
end Go.Eng.Sv
