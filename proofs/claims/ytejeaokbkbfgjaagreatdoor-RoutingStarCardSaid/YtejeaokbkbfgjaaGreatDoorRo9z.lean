/- PeRo4z, PeRo9z -/
import Derived.Test.YtejeaokbkbfgjaaGreatDoorX22
import Derived.Test.YtejeaokbkbfgjaaGreatDoorRo5z
set_option linter.unusedSimpArgs false
set_option linter.unusedVariables false
set_option maxRecDepth 100000
namespace Go.Eng.Sv
open Go.Proofs
open Go.Eng.Mp (buildF rowsF rowF preBuild upto at2 idx2 starS starE starP)

abbrev U8 : Ty := .int .u8
abbrev U16 : Ty := .int .u16
noncomputable def u8P (a : Int) : Prop := 0 ≤ a ∧ a ≤ 255
noncomputable def u16P (a : Int) : Prop := 0 ≤ a ∧ a ≤ 65535
set_option maxRecDepth 100000 in
theorem vc_ltime (a b which at_ : Int) (cs : List (Int × List Bool × List Int)) (ns os : List ByteArray) (fs : List Off) (ls : List Line) (ks : List Cla) (hvc :
    let c1 := (cs, ns, os, fs, ls, ks);
    let c2 := D.not (few16 c1);
    let c3 := D.not c2;
    let c4 := D.cnd c2 true (D.not (ruseF c1 a b));
    let c5 := D.not c4;
    let c6 := D.ilen ls;
    let c7 := D.cnd c4 true (D.eq c6 (0 : Int));
    let c8 := rcostsF c1 a b;
    let c9 := D.ilen c8;
    let c10 := D.ne c9 c6;
    let c11 := D.rem which c6;
    let c12 := D.nat c11;
    let c13 := D.get c8 c12 (0 : Int);
    let c14 := D.eq c13 (-1099511627776 : Int);
    let c15 := D.add a (D.rem at_ (D.sub b a));
    let c16 := (D.get ls c12 (ByteArray.mk (D.nil UInt8).toArray, (0 : Int), (0 : Int), (0 : Int), (0 : Int), (0 : Int))).snd.snd;
    let c17 := c16.fst;
    let c18 := D.cnd true (D.eq (departE c1 c11 c15) (0 : Int)) false;
    let c19 := D.add (departD c1 c11 c15) c16.snd.snd.fst;
    let c20 := (D.get fs (D.nat c17) (ByteArray.mk (D.nil UInt8).toArray, (0 : Int), (0 : Int), (0 : Int), (0 : Int), (0 : Int), D.nil ByteArray)).snd.snd.snd.snd;
    let c21 := D.mul c20.fst c20.snd.fst;
    let c22 := D.add c19 c21;
    let c23 := D.sub c22 c15; true = true ∧ (u8P which ∧ u16P at_ → True ∧ True ∧ (c3 = true → c3 = true → c3 = true) ∧ (c3 = true → c3 = true → c3 = true) ∧ (c3 =
     true → c3 = true → c3 = true) ∧ (c3 = true → fewC c1 = true) ∧ (c3 = true → c3 = true → c3 = true) ∧ (D.and true c3 = true → c3 = true) ∧ (c5 = true → c5 =
     true → c5 = true) ∧ (c5 = true → c5 = true → c5 = true) ∧ (c5 = true → c5 = true → c5 = true) ∧ (D.and true c5 = true → c5 = true) ∧ (c7 = true → true = true ∧
     True) ∧ (c7 = false → True ∧ inR IntKind.i64 which ∧ D.ine c6 (0 : Int) ∧ (c10 = true → false = true ∧ True) ∧ (c10 = false → D.ile (0 : Int) c11 ∧ D.ilt c11
     c9 ∧ (c14 = true → true = true ∧ True) ∧ (c14 = false → inR IntKind.i64 at_ ∧ inR IntKind.i64 (D.sub b a) ∧ D.ine (D.sub b a) (0 : Int) ∧ inR IntKind.i64 c15 ∧
     True ∧ D.ile (0 : Int) c11 ∧ D.ilt c11 c6 ∧ D.ile (0 : Int) c17 ∧ D.ilt c17 (D.ilen fs) ∧ 1 = 1 ∧ 0 = 0 ∧ (true = true → true = true → true = true) ∧ (D.and
     true true = true → true = true) ∧ (c18 = true → c18 = true → c18 = true) ∧ (c18 = true → c18 = true → c18 = true) ∧ (c18 = true → c18 = true → c18 = true) ∧
     (c18 = true → D.ile (0 : Int) c11) ∧ (c18 = true → D.ilt c11 c6) ∧ (c18 = true → c18 = true → c18 = true) ∧ (c18 = true → c18 = true → c18 = true) ∧ (c18 =
     true → c18 = true → c18 = true) ∧ (c18 = true → c18 = true → c18 = true) ∧ (c18 = true → inR IntKind.i64 c19) ∧ (c18 = true → 1 = 1) ∧ (c18 = true → c18 = true
     → c18 = true) ∧ (c18 = true → 1 = 1) ∧ (c18 = true → 0 = 0) ∧ (c18 = true → 1 = 1) ∧ (c18 = true → c18 = true → c18 = true) ∧ (c18 = true → 1 = 1) ∧ (c18 =
     true → 0 = 0) ∧ (c18 = true → c18 = true → c18 = true) ∧ (c18 = true → c18 = true → c18 = true) ∧ (c18 = true → inR IntKind.i64 c21) ∧ (c18 = true → c18 = true
     → c18 = true) ∧ (c18 = true → c18 = true → c18 = true) ∧ (c18 = true → inR IntKind.i64 c22) ∧ (c18 = true → c18 = true → c18 = true) ∧ (c18 = true → c18 = true
     → c18 = true) ∧ (c18 = true → inR IntKind.i64 c23) ∧ (c18 = true → c18 = true → c18 = true) ∧ (c18 = true → c18 = true → c18 = true) ∧ (c18 = true → D.ile (0 :
     Int) c11) ∧ (c18 = true → D.ilt c11 c9) ∧ (c18 = true → c18 = true → c18 = true) ∧ (c18 = true → c18 = true → c18 = true) ∧ (c18 = true → c18 = true → c18 =
     true) ∧ (D.and true c18 = true → c18 = true) ∧ D.cnd c18 (D.le c23 c13) false = true ∧ True))))) :
    evF (mkc KQ6) noAnn 10 [net cs ns os fs ls ks, .dat I a, .dat I b, .dat U8 which, .dat U16 at_] [] ⟨u8P which ∧ u16P at_, .dat .bool true, []⟩ := of_eq (by kernel_rfl) hvc

theorem rcosts_eq (cs : List (Int × List Bool × List Int)) (ns os : List ByteArray) (fs : List Off) (ls : List Line) (ks : List Cla) {a b : Int} (h : ruseF (cs, ns, os, fs, ls, ks) a b = true) : rcostsF (cs, ns, os, fs, ls, ks) a b = costsF (cs, ns, os, fs, ls, ks) a b := by unfold rcostsF; rw [h]; rfl
theorem rbnds_eq (cs : List (Int × List Bool × List Int)) (ns os : List ByteArray) (fs : List Off) (ls : List Line) (ks : List Cla) {a b : Int} (h : ruseF (cs, ns, os, fs, ls, ks) a b = true) : rboundsF (cs, ns, os, fs, ls, ks) a b = boundsF (cs, ns, os, fs, ls, ks) (costsF (cs, ns, os, fs, ls, ks) a b) := by unfold rboundsF; rw [h]; rfl
theorem rnext_eq (cs : List (Int × List Bool × List Int)) (ns os : List ByteArray) (fs : List Off) (ls : List Line) (ks : List Cla) {a b : Int} (h : ruseF (cs, ns, os, fs, ls, ks) a b = true) : rnextF (cs, ns, os, fs, ls, ks) a b = nextF (cs, ns, os, fs, ls, ks) (costsF (cs, ns, os, fs, ls, ks) a b) := by unfold rnextF; rw [h]; rfl
theorem costs_length (cs : List (Int × List Bool × List Int)) (ns os : List ByteArray) (fs : List Off) (ls : List Line) (ks : List Cla) (a b : Int) : (costsF (cs, ns, os, fs, ls, ks) a b).length = ls.length := costsF_len _ _ _
theorem sq16_of (cs : List (Int × List Bool × List Int)) (ns os : List ByteArray) (fs : List Off) (ls : List Line) (ks : List Cla) {m : List (List Int)} (h : Mp.Sq fs.length m) : sq16 (cs, ns, os, fs, ls, ks) m = true := by
  unfold sq16
  rw [Bool.and_eq_true, decide_eq_true_eq, List.all_eq_true]
  refine ⟨h.len, fun r hr => ?_⟩
  obtain ⟨i, hi, rfl⟩ := List.getElem_of_mem hr
  have := h.row i (by omega) (by rw [← h.len]; omega)
  rw [Int.toNat_natCast, List.getD_eq_getElem?_getD, List.getElem?_eq_getElem hi, Option.getD_some] at this
  exact decide_eq_true this
theorem bsq (cs : List (Int × List Bool × List Int)) (ns os : List ByteArray) (fs : List Off) (ls : List Line) (ks : List Cla) (c : List Int) : Mp.Sq fs.length (boundsF (cs, ns, os, fs, ls, ks) c) := Mp.buildF_sq _ _
theorem nsq (cs : List (Int × List Bool × List Int)) (ns os : List ByteArray) (fs : List Off) (ls : List Line) (ks : List Cla) (c : List Int) : Mp.Sq fs.length (nextF (cs, ns, os, fs, ls, ks) c) := Mp.buildF_sq _ _
theorem sqP_of (cs : List (Int × List Bool × List Int)) (ns os : List ByteArray) (fs : List Off) (ls : List Line) (ks : List Cla) {m : List (List Int)} (hf : few16 (cs, ns, os, fs, ls, ks) = true) (h : Mp.Sq fs.length m) : sqP16 (cs, ns, os, fs, ls, ks) m := by
  obtain ⟨_, h1, _⟩ := few16_iff.1 hf
  have h1 : fs.length ≤ 5 := h1
  refine ⟨by show fs.length ≤ 1000000; omega, by rw [h.len]; omega⟩
theorem bounds_none (cs : List (Int × List Bool × List Int)) (ns os : List ByteArray) (fs : List Off) (ls : List Line) (ks : List Cla) {a b : Int} (h : ruseF (cs, ns, os, fs, ls, ks) a b = false) : rboundsF (cs, ns, os, fs, ls, ks) a b = [] := by unfold rboundsF; rw [h]; rfl
theorem sqP_bnds (cs : List (Int × List Bool × List Int)) (ns os : List ByteArray) (fs : List Off) (ls : List Line) (ks : List Cla) {a b : Int} (hf : few16 (cs, ns, os, fs, ls, ks) = true) : sqP16 (cs, ns, os, fs, ls, ks) (rboundsF (cs, ns, os, fs, ls, ks) a b) := by
  cases h : ruseF (cs, ns, os, fs, ls, ks) a b with
  | true => rw [rbnds_eq cs ns os fs ls ks h]; exact sqP_of cs ns os fs ls ks hf (bsq cs ns os fs ls ks _)
  | false =>
    obtain ⟨_, h1, _⟩ := few16_iff.1 hf
    have h1 : fs.length ≤ 5 := h1
    rw [bounds_none cs ns os fs ls ks h]; exact ⟨by show fs.length ≤ 1000000; omega, Nat.zero_le _⟩
theorem t_ltime (a b which at_ : Int) (cs : List (Int × List Bool × List Int)) (ns os : List ByteArray) (fs : List Off) (ls : List Line) (ks : List Cla) : SoundC Tryz.prog G0 10 [net cs ns os fs ls ks, .dat I a, .dat I b, .dat U8 which, .dat U16 at_] [] ⟨u8P which ∧ u16P at_, .dat .bool true, []⟩ := by
  refine sound_of_ev (c := mkc KQ6) KSQ6 KI0s hm (vc_ltime a b which at_ cs ns os fs ls ks ⟨rfl, fun hp => ?_⟩)
  obtain ⟨⟨w0, w1⟩, a0', a1'⟩ := hp
  simp only [cnd_or, cnd_and, D.and, D.or, D.not, Bool.true_and, Bool.and_true, Bool.false_or, Bool.or_false, eq_self, true_and, and_true, imp_self, implies_true, Bool.not_eq_true', Bool.or_eq_true, Bool.or_eq_false_iff, Bool.not_eq_false', Bool.and_eq_true, Bool.and_eq_false_imp, Bool.not_not, forall_const, exists_eq_right, exists_eq_right', exists_eq_left, exists_eq_left', Int.toNat_natCast, Nat.zero_add, Nat.mul_one, Int.ofNat_eq_natCast, D.nil, D.eq, D.ne, D.lt, D.gt, D.le, D.ge, D.beq, D.ilen, D.slen, D.ile, D.ilt, D.ine, D.nle, D.nlt, D.sub, D.add, D.mul, D.neg, D.nat, D.ofN, D.len, D.nadd, D.nmul, D.get, D.mn, D.mx, D.set, D.app, D.tail, D.part, D.seg, D.rep, D.at2, decide_eq_true_eq, decide_eq_false_iff_not, beq_iff_eq, bne_iff_ne, beq_eq_false_iff_ne, bne_eq_false_iff_eq, D.wrap, D.allNil, lineOf_fold cs ns os fs ls ks]
  refine ⟨fun h => few_fewC (few16_iff.1 h).1, fun h => ?_⟩
  obtain ⟨⟨hf, hr⟩, hl⟩ := h
  obtain ⟨⟨g0, g1, g2, g3⟩, hs⟩ := ruse_iff.1 hr
  have i0 : 0 ≤ D.rem which ls.length := Int.tmod_nonneg _ w0
  have i1 : D.rem which ls.length < ls.length := Int.tmod_lt_of_pos _ (by omega)
  have s0 : 0 ≤ D.rem at_ (b - a) := Int.tmod_nonneg _ a0'
  have s1 : D.rem at_ (b - a) < b - a := Int.tmod_lt_of_pos _ (by omega)
  generalize D.rem which ls.length = i at *
  generalize D.rem at_ (b - a) = s at *
  have hcl := costs_length cs ns os fs ls ks a b
  have lf : fs.getD (lineOf (cs, ns, os, fs, ls, ks) i).2.2.1.toNat (⟨#[]⟩, 0, 0, 0, 0, 0, []) = offOf (cs, ns, os, fs, ls, ks) (lineOf (cs, ns, os, fs, ls, ks) i).2.2.1 := rfl
  have er : (rcostsF (cs, ns, os, fs, ls, ks) a b).length = ls.length := by rw [rcosts_eq cs ns os fs ls ks hr, hcl]
  have ec : (rcostsF (cs, ns, os, fs, ls, ks) a b).getD i.toNat 0 = costF (cs, ns, os, fs, ls, ks) a b i := by rw [rcosts_eq cs ns os fs ls ks hr, costsF_at cs ns os fs ls ks a b i0 i1]
  obtain ⟨l0, l1, l2, l3, l4, l5, l6⟩ := sound_line cs ns os fs ls ks hs i0 i1
  obtain ⟨o0, o1⟩ := sound_off cs ns os fs ls ks hs l2 l3
  refine ⟨in_small (by omega), hl, fun h => (h (by rw [er])).elim, fun _ => ⟨i0, by omega, fun hc => ?_⟩⟩
  rw [ec] at hc
  obtain ⟨e1, d0, d1, e2⟩ := cost_wait cs ns os fs ls ks hr i0 i1 hc
  have ha := line_at cs ns os fs ls ks ⟨sound_noF cs ns os fs ls ks hs, i0, i1⟩
  obtain ⟨u, u1, u2⟩ := (wait_some ha g1 e1).1 (a + s) (by omega) (by omega)
  have hu : usableF (cs, ns, os, fs, ls, ks) i [a + s] = true := by
    unfold usableF idxF
    rw [hs, Bool.and_true, Bool.and_eq_true]
    exact ⟨decide_eq_true ⟨i0, i1⟩, by simp [timeOk]; omega⟩
  obtain ⟨k1, k2⟩ := depart_of hu u1
  have ur := firstO_range u1
  have lf1 : (fs.getD (lineOf (cs, ns, os, fs, ls, ks) i).2.2.1.toNat (⟨#[]⟩, 0, 0, 0, 0, 0, [])).2.2.2.2.1 * (fs.getD (lineOf (cs, ns, os, fs, ls, ks) i).2.2.1.toNat (⟨#[]⟩, 0, 0, 0, 0, 0, [])).2.2.2.2.2.1 = (offOf (cs, ns, os, fs, ls, ks) (lineOf (cs, ns, os, fs, ls, ks) i).2.2.1).2.2.2.2.1 * (offOf (cs, ns, os, fs, ls, ks) (lineOf (cs, ns, os, fs, ls, ks) i).2.2.1).2.2.2.2.2.1 := rfl
  generalize (offOf (cs, ns, os, fs, ls, ks) (lineOf (cs, ns, os, fs, ls, ks) i).2.2.1).2.2.2.2.1 * (offOf (cs, ns, os, fs, ls, ks) (lineOf (cs, ns, os, fs, ls, ks) i).2.2.1).2.2.2.2.2.1 = pm at *
  exact ⟨in_small (by omega), in_small (by omega), by omega, in_small (by omega), i0, i1, l2, l3, fun _ => i0, fun _ => i1, fun _ => in_small (by omega), fun _ => in_small (by rw [lf1]; omega), fun _ => in_small (by rw [lf1]; omega), fun _ => in_small (by rw [lf1]; omega), fun _ => i0, fun _ => by omega, k2, decide_eq_true (by rw [ec, lf1, k1, e2]; omega)⟩
end Go.Eng.Sv

set_option maxRecDepth 100000
namespace Go.Eng.Sv
open Go.Proofs
open Go.Eng.Mp (buildF rowsF rowF preBuild upto at2 idx2 starS starE starP)

noncomputable def want2 (b : List (List Int)) (o d : Int) : Int := if at2 b o d < 0 then noneI else -(at2 b o d)
noncomputable def wantF (n : Net) (b : List (List Int)) : List (List Int) := buildF (want2 b) n.2.2.2.1.length
noncomputable def mrows (m : List (List Int)) (k : Int) : List (List Int) := m.take k.toNat
noncomputable def mrow (m : List (List Int)) (o d : Int) : List Int := (m.getD o.toNat []).take d.toNat
noncomputable def leastX (n : Net) (c : List Int) (k o d : Int) : Int := leastN n.2.2.2.2.1 c k.toNat o d
noncomputable def starOk (n : Net) (a b o : Int) : Prop := few16 n = true ∧ ruseF n a b = true ∧ 0 ≤ o ∧ o ≤ n.2.2.2.1.length
noncomputable def starOk3 (n : Net) (a b k : Int) : Prop := few16 n = true ∧ ruseF n a b = true ∧ 0 ≤ k ∧ k ≤ n.2.2.2.2.1.length
noncomputable def keepL : List Nat → Nat → List AV → List AV
  | _, _, [] => []
  | l, i, a :: r => (if l.contains i then a else .top) :: keepL l (i + 1) r
noncomputable def keepT (l : List Nat) (s : St) : St := { s with tm := keepL l 0 s.tm }
noncomputable def lstarA (n : Net) (a b : Int) : Ann := ⟨fun id s => match id with
  | 11 => match s.sig.T 52, s.sig.T 53 with
    | .buf n1 _, .buf n2 _ => some { α := Int, inv := fun o => starOk n a b o, st := fun o => putM (putM (put (flat s) [(12, .dat I o), (10, .buf n1 (D.len (mrows (leastF n (rcostsF n a b)) o))), (11, .buf n2 (D.len (mrows (wantF n (rboundsF n a b)) o)))]) n1 (.buf 37 R (mrows (leastF n (rcostsF n a b)) o) [])) n2 (.buf 37 R (mrows (wantF n (rboundsF n a b)) o) []), μ := fun o => D.nat (D.sub (D.ilen n.2.2.2.1) o) }
    | _, _ => none
  | 16 => match s.sig.T 12, s.sig.T 61, s.sig.T 62 with
    | .dat (.int .i64) o, .buf n3 _, .buf n4 _ => some { α := Int, inv := fun d => starOk n a b d, st := fun d => putM (putM (put (flat s) [(15, .dat I d), (13, .buf n3 (D.len (mrow (leastF n (rcostsF n a b)) o d))), (14, .buf n4 (D.len (mrow (wantF n (rboundsF n a b)) o d)))]) n3 (.buf 3 I (mrow (leastF n (rcostsF n a b)) o d) [])) n4 (.buf 3 I (mrow (wantF n (rboundsF n a b)) o d) []), μ := fun d => D.nat (D.sub (D.ilen n.2.2.2.1) d) }
    | _, _, _ => none
  | 20 => match s.sig.T 12, s.sig.T 15 with
    | .dat (.int .i64) o, .dat (.int .i64) d => some { α := Int, inv := fun k => starOk3 n a b k, st := fun k => put (flat s) [(17, .dat I k), (16, .dat I (leastX n (rcostsF n a b) k o d))], μ := fun k => D.nat (D.sub (D.ilen n.2.2.2.2.1) k) }
    | _, _ => none
  | _ => none, fun id s => match id with
  | 28 => match s.sig.T 13, s.sig.T 14 with
    | .buf n3 _, .buf n4 _ => some (keepT (List.range 54) (frz [n3, n4] s))
    | _, _ => none
  | 30 => some (keepT (List.range 52) (frz (allNames s) s))
  | _ => none, fun _ _ => none⟩
set_option maxRecDepth 100000 in
theorem vc_lstar (a b : Int) (cs : List (Int × List Bool × List Int)) (ns os : List ByteArray) (fs : List Off) (ls : List Line) (ks : List Cla) (hvc :
    let c1 := (ls, ks);
    let c2 := (fs, c1);
    let c3 := (cs, ns, os, c2);
    let c4 := few16 c3;
    let c5 := D.not c4;
    let c6 := D.not c5;
    let c7 := D.cnd c5 true (D.not (ruseF c3 a b));
    let c8 := rcostsF c3 a b;
    let c9 := D.ilen c8;
    let c10 := D.ilen ls;
    let c11 := D.ne c9 c10;
    let c12 := D.not c11;
    let c13 := rboundsF c3 a b;
    let c14 := D.cnd c11 true (D.not (sq16 c3 c13));
    let c15 := leastF c3 c8;
    let c16 := wantF c3 c13;
    let c17 := D.ilen fs;
    let c18 := (ByteArray.mk (D.nil UInt8).toArray, (0 : Int), (0 : Int), (0 : Int), (0 : Int), (0 : Int));
    let c19 := D.ilen c13;
    let c20 := [(-1099511627776 : Int)];
    let c21 := D.len c20; true = true ∧ (True → True ∧ True ∧ (c6 = true → c6 = true → c6 = true) ∧ (c6 = true → c6 = true → c6 = true) ∧ (c6 = true → c6 = true →
     c6 = true) ∧ (c6 = true → fewC c3 = true) ∧ (c6 = true → c6 = true → c6 = true) ∧ (D.and true c6 = true → c6 = true) ∧ (c7 = true → true = true ∧ True) ∧ (c7 =
     false → True ∧ True ∧ (c12 = true → c12 = true → c12 = true) ∧ (c12 = true → c12 = true → c12 = true) ∧ (c12 = true → sqP16 c3 c13) ∧ (c12 = true → c12 = true
     → c12 = true) ∧ (D.and true c12 = true → c12 = true) ∧ (c14 = true → false = true ∧ True) ∧ (c14 = false → (∃ x, starOk c3 a b x ∧ cs = cs ∧ ns = ns ∧ os = os
     ∧ fs = fs ∧ ls = ls ∧ ks = ks ∧ a = a ∧ b = b ∧ c3 = c3 ∧ false = false ∧ true = true ∧ c8 = c8 ∧ c13 = c13 ∧ 0 = D.len (mrows c15 x) ∧ 0 = D.len (mrows c16 x)
     ∧ (0 : Int) = x ∧ true = true ∧ cs = cs ∧ ns = ns ∧ os = os ∧ fs = fs ∧ ls = ls ∧ ks = ks ∧ c4 = c4 ∧ c5 = c5 ∧ c5 = c5 ∧ c7 = c7 ∧ cs = cs ∧ ns = ns ∧ os = os
     ∧ fs = fs ∧ ls = ls ∧ ks = ks ∧ a = a ∧ b = b ∧ c8 = c8 ∧ cs = cs ∧ ns = ns ∧ os = os ∧ fs = fs ∧ ls = ls ∧ ks = ks ∧ a = a ∧ b = b ∧ c13 = c13 ∧ c8 = c8 ∧ c9
     = c9 ∧ c1 = c1 ∧ ls = ls ∧ c10 = c10 ∧ c11 = c11 ∧ c11 = c11 ∧ c14 = c14 ∧ 0 = 0 ∧ 0 = 0 ∧ D.nil (List Int) = mrows c15 x ∧ D.nil (List Int) = mrows c16 x ∧
     True) ∧ ∀ (x : Int),
    let c22 := D.len (mrows c15 x);
    let c23 := D.len (mrows c16 x);
    let c24 := D.get c13 (D.nat x) (D.nil Int);
    let c25 := D.ilen c24;
    let c26 := D.add x (1 : Int);
    let c27 := D.cnd true (D.eq (starE (mrows c15 x)) (0 : Int)) false; starOk c3 a b x → (D.lt x c17 = true → (∃ x_3, starOk c3 a b x_3 ∧ cs = cs ∧ ns = ns ∧ os =
     os ∧ fs = fs ∧ ls = ls ∧ ks = ks ∧ a = a ∧ b = b ∧ c3 = c3 ∧ false = false ∧ true = true ∧ c8 = c8 ∧ c13 = c13 ∧ c22 = c22 ∧ c23 = c23 ∧ x = x ∧ 0 = D.len
     (mrow c15 x x_3) ∧ 0 = D.len (mrow c16 x x_3) ∧ (0 : Int) = x_3 ∧ true = true ∧ cs = cs ∧ ns = ns ∧ os = os ∧ fs = fs ∧ ls = ls ∧ ks = ks ∧ c4 = c4 ∧ c5 = c5 ∧
     c5 = c5 ∧ c7 = c7 ∧ cs = cs ∧ ns = ns ∧ os = os ∧ fs = fs ∧ ls = ls ∧ ks = ks ∧ a = a ∧ b = b ∧ c8 = c8 ∧ cs = cs ∧ ns = ns ∧ os = os ∧ fs = fs ∧ ls = ls ∧ ks
     = ks ∧ a = a ∧ b = b ∧ c13 = c13 ∧ c8 = c8 ∧ c9 = c9 ∧ c1 = c1 ∧ ls = ls ∧ c10 = c10 ∧ c11 = c11 ∧ c11 = c11 ∧ c14 = c14 ∧ 0 = 0 ∧ 0 = 0 ∧ x = x ∧ c2 = c2 ∧ fs
     = fs ∧ c17 = c17 ∧ D.lt x c17 = D.lt x c17 ∧ 0 = 0 ∧ 0 = 0 ∧ mrows c15 x = mrows c15 x ∧ mrows c16 x = mrows c16 x ∧ D.nil Int = mrow c15 x x_3 ∧ D.nil Int =
     mrow c16 x x_3 ∧ True) ∧ ∀ (x_3 : Int),
    let c28 := D.len (mrow c15 x x_3);
    let c29 := D.len (mrow c16 x x_3);
    let c30 := D.get c24 (D.nat x_3) (0 : Int);
    let c31 := D.lt c30 (0 : Int);
    let c32 := D.nadd c29 c21;
    let c33 := D.add x_3 (1 : Int);
    let c34 := D.neg c30;
    let c35 := [c34];
    let c36 := D.nadd c29 (D.len c35);
    let c37 := [mrow c15 x x_3];
    let c38 := D.nadd c22 (D.len c37);
    let c39 := [mrow c16 x x_3];
    let c40 := D.nadd c23 (D.len c39); starOk c3 a b x_3 → (D.lt x_3 c17 = true → (∃ x_6, starOk3 c3 a b x_6 ∧ cs = cs ∧ ns = ns ∧ os = os ∧ fs = fs ∧ ls = ls ∧ ks
     = ks ∧ a = a ∧ b = b ∧ c3 = c3 ∧ false = false ∧ true = true ∧ c8 = c8 ∧ c13 = c13 ∧ c22 = c22 ∧ c23 = c23 ∧ x = x ∧ c28 = c28 ∧ c29 = c29 ∧ x_3 = x_3 ∧
     (-1099511627776 : Int) = leastX c3 c8 x_6 x x_3 ∧ (0 : Int) = x_6 ∧ true = true ∧ cs = cs ∧ ns = ns ∧ os = os ∧ fs = fs ∧ ls = ls ∧ ks = ks ∧ c4 = c4 ∧ c5 = c5
     ∧ c5 = c5 ∧ c7 = c7 ∧ cs = cs ∧ ns = ns ∧ os = os ∧ fs = fs ∧ ls = ls ∧ ks = ks ∧ a = a ∧ b = b ∧ c8 = c8 ∧ cs = cs ∧ ns = ns ∧ os = os ∧ fs = fs ∧ ls = ls ∧
     ks = ks ∧ a = a ∧ b = b ∧ c13 = c13 ∧ c8 = c8 ∧ c9 = c9 ∧ c1 = c1 ∧ ls = ls ∧ c10 = c10 ∧ c11 = c11 ∧ c11 = c11 ∧ c14 = c14 ∧ 0 = 0 ∧ 0 = 0 ∧ x = x ∧ c2 = c2 ∧
     fs = fs ∧ c17 = c17 ∧ D.lt x c17 = D.lt x c17 ∧ 0 = 0 ∧ 0 = 0 ∧ x_3 = x_3 ∧ c2 = c2 ∧ fs = fs ∧ c17 = c17 ∧ D.lt x_3 c17 = D.lt x_3 c17 ∧ mrows c15 x = mrows
     c15 x ∧ mrows c16 x = mrows c16 x ∧ mrow c15 x x_3 = mrow c15 x x_3 ∧ mrow c16 x x_3 = mrow c16 x x_3 ∧ True) ∧ ∀ (x_6 : Int),
    let c41 := (D.get ls (D.nat x_6) c18).snd;
    let c42 := D.eq c41.fst x;
    let c43 := D.cnd c42 (D.eq c41.snd.fst x_3) false;
    let c44 := D.get c8 (D.nat x_6) (0 : Int);
    let c45 := D.cnd c43 (D.ne c44 (-1099511627776 : Int)) false;
    let c46 := D.neg c44;
    let c47 := D.add x_6 (1 : Int);
    let c48 := leastX c3 c8 x_6 x x_3;
    let c49 := [c48];
    let c50 := D.nadd c28 (D.len c49); starOk3 c3 a b x_6 → (D.lt x_6 c10 = true → D.ile (0 : Int) x_6 ∧ D.ilt x_6 c10 ∧ (c42 = true → c42 = true → c42 = true) ∧
     (c42 = true → c42 = true → c42 = true) ∧ (c42 = true → c42 = true → c42 = true) ∧ (c42 = true → D.ile (0 : Int) x_6) ∧ (c42 = true → D.ilt x_6 c10) ∧ (c42 =
     true → c42 = true → c42 = true) ∧ (c42 = true → c42 = true → c42 = true) ∧ (c42 = true → c42 = true → c42 = true) ∧ (c42 = true → c42 = true → c42 = true) ∧
     (D.and true c42 = true → c42 = true) ∧ (c43 = true → c43 = true → c43 = true) ∧ (c43 = true → c43 = true → c43 = true) ∧ (c43 = true → D.ile (0 : Int) x_6) ∧
     (c43 = true → D.ilt x_6 c9) ∧ (c43 = true → c43 = true → c43 = true) ∧ (c43 = true → c43 = true → c43 = true) ∧ (D.and true c43 = true → c43 = true) ∧ (c45 =
     true → D.ile (0 : Int) x_6 ∧ D.ilt x_6 c9 ∧ inR IntKind.i64 c46 ∧ inR IntKind.i64 c47 ∧ ∃ y, starOk3 c3 a b y ∧ (cs = cs ∧ ns = ns ∧ os = os ∧ fs = fs ∧ ls =
     ls ∧ ks = ks ∧ a = a ∧ b = b ∧ c3 = c3 ∧ false = false ∧ true = true ∧ c8 = c8 ∧ c13 = c13 ∧ c22 = c22 ∧ c23 = c23 ∧ x = x ∧ c28 = c28 ∧ c29 = c29 ∧ x_3 = x_3
     ∧ D.mx c48 c46 = leastX c3 c8 y x x_3 ∧ c47 = y ∧ true = true ∧ cs = cs ∧ ns = ns ∧ os = os ∧ fs = fs ∧ ls = ls ∧ ks = ks ∧ c4 = c4 ∧ c5 = c5 ∧ c5 = c5 ∧ c7 =
     c7 ∧ cs = cs ∧ ns = ns ∧ os = os ∧ fs = fs ∧ ls = ls ∧ ks = ks ∧ a = a ∧ b = b ∧ c8 = c8 ∧ cs = cs ∧ ns = ns ∧ os = os ∧ fs = fs ∧ ls = ls ∧ ks = ks ∧ a = a ∧
     b = b ∧ c13 = c13 ∧ c8 = c8 ∧ c9 = c9 ∧ c1 = c1 ∧ ls = ls ∧ c10 = c10 ∧ c11 = c11 ∧ c11 = c11 ∧ c14 = c14 ∧ 0 = 0 ∧ 0 = 0 ∧ x = x ∧ c2 = c2 ∧ fs = fs ∧ c17 =
     c17 ∧ D.lt x c17 = D.lt x c17 ∧ 0 = 0 ∧ 0 = 0 ∧ x_3 = x_3 ∧ c2 = c2 ∧ fs = fs ∧ c17 = c17 ∧ D.lt x_3 c17 = D.lt x_3 c17 ∧ mrows c15 x = mrows c15 x ∧ mrows c16
     x = mrows c16 x ∧ mrow c15 x x_3 = mrow c15 x x_3 ∧ mrow c16 x x_3 = mrow c16 x x_3 ∧ True) ∧ D.nlt (D.nat (D.sub c10 y)) (D.nat (D.sub c10 x_6))) ∧ (c45 =
     false → inR IntKind.i64 c47 ∧ ∃ y, starOk3 c3 a b y ∧ (cs = cs ∧ ns = ns ∧ os = os ∧ fs = fs ∧ ls = ls ∧ ks = ks ∧ a = a ∧ b = b ∧ c3 = c3 ∧ false = false ∧
     true = true ∧ c8 = c8 ∧ c13 = c13 ∧ c22 = c22 ∧ c23 = c23 ∧ x = x ∧ c28 = c28 ∧ c29 = c29 ∧ x_3 = x_3 ∧ c48 = leastX c3 c8 y x x_3 ∧ c47 = y ∧ true = true ∧ cs
     = cs ∧ ns = ns ∧ os = os ∧ fs = fs ∧ ls = ls ∧ ks = ks ∧ c4 = c4 ∧ c5 = c5 ∧ c5 = c5 ∧ c7 = c7 ∧ cs = cs ∧ ns = ns ∧ os = os ∧ fs = fs ∧ ls = ls ∧ ks = ks ∧ a
     = a ∧ b = b ∧ c8 = c8 ∧ cs = cs ∧ ns = ns ∧ os = os ∧ fs = fs ∧ ls = ls ∧ ks = ks ∧ a = a ∧ b = b ∧ c13 = c13 ∧ c8 = c8 ∧ c9 = c9 ∧ c1 = c1 ∧ ls = ls ∧ c10 =
     c10 ∧ c11 = c11 ∧ c11 = c11 ∧ c14 = c14 ∧ 0 = 0 ∧ 0 = 0 ∧ x = x ∧ c2 = c2 ∧ fs = fs ∧ c17 = c17 ∧ D.lt x c17 = D.lt x c17 ∧ 0 = 0 ∧ 0 = 0 ∧ x_3 = x_3 ∧ c2 = c2
     ∧ fs = fs ∧ c17 = c17 ∧ D.lt x_3 c17 = D.lt x_3 c17 ∧ mrows c15 x = mrows c15 x ∧ mrows c16 x = mrows c16 x ∧ mrow c15 x x_3 = mrow c15 x x_3 ∧ mrow c16 x x_3
     = mrow c16 x x_3 ∧ True) ∧ D.nlt (D.nat (D.sub c10 y)) (D.nat (D.sub c10 x_6)))) ∧ (D.lt x_6 c10 = false → c28 = c28 ∧ D.nle (D.nmul c50 (8)) (140737488355328)
     ∧ D.nle c50 (9223372036854775807) ∧ D.ile (0 : Int) x ∧ D.ilt x c19 ∧ D.ile (0 : Int) x_3 ∧ D.ilt x_3 c25 ∧ (c31 = true → c29 = c29 ∧ D.nle (D.nmul c32 (8))
     (140737488355328) ∧ D.nle c32 (9223372036854775807) ∧ inR IntKind.i64 c33 ∧ ∃ y, starOk c3 a b y ∧ (cs = cs ∧ ns = ns ∧ os = os ∧ fs = fs ∧ ls = ls ∧ ks = ks ∧
     a = a ∧ b = b ∧ c3 = c3 ∧ false = false ∧ true = true ∧ c8 = c8 ∧ c13 = c13 ∧ c22 = c22 ∧ c23 = c23 ∧ x = x ∧ c50 = D.len (mrow c15 x y) ∧ c32 = D.len (mrow
     c16 x y) ∧ c33 = y ∧ true = true ∧ cs = cs ∧ ns = ns ∧ os = os ∧ fs = fs ∧ ls = ls ∧ ks = ks ∧ c4 = c4 ∧ c5 = c5 ∧ c5 = c5 ∧ c7 = c7 ∧ cs = cs ∧ ns = ns ∧ os =
     os ∧ fs = fs ∧ ls = ls ∧ ks = ks ∧ a = a ∧ b = b ∧ c8 = c8 ∧ cs = cs ∧ ns = ns ∧ os = os ∧ fs = fs ∧ ls = ls ∧ ks = ks ∧ a = a ∧ b = b ∧ c13 = c13 ∧ c8 = c8 ∧
     c9 = c9 ∧ c1 = c1 ∧ ls = ls ∧ c10 = c10 ∧ c11 = c11 ∧ c11 = c11 ∧ c14 = c14 ∧ 0 = 0 ∧ 0 = 0 ∧ x = x ∧ c2 = c2 ∧ fs = fs ∧ c17 = c17 ∧ D.lt x c17 = D.lt x c17 ∧
     0 = 0 ∧ 0 = 0 ∧ mrows c15 x = mrows c15 x ∧ mrows c16 x = mrows c16 x ∧ D.app (mrow c15 x x_3) c49 = mrow c15 x y ∧ D.app (mrow c16 x x_3) c20 = mrow c16 x y ∧
     True) ∧ D.nlt (D.nat (D.sub c17 y)) (D.nat (D.sub c17 x_3))) ∧ (c31 = false → D.ile (0 : Int) x ∧ D.ilt x c19 ∧ D.ile (0 : Int) x_3 ∧ D.ilt x_3 c25 ∧ inR
     IntKind.i64 c34 ∧ c29 = c29 ∧ D.nle (D.nmul c36 (8)) (140737488355328) ∧ D.nle c36 (9223372036854775807) ∧ inR IntKind.i64 c33 ∧ ∃ y, starOk c3 a b y ∧ (cs =
     cs ∧ ns = ns ∧ os = os ∧ fs = fs ∧ ls = ls ∧ ks = ks ∧ a = a ∧ b = b ∧ c3 = c3 ∧ false = false ∧ true = true ∧ c8 = c8 ∧ c13 = c13 ∧ c22 = c22 ∧ c23 = c23 ∧ x
     = x ∧ c50 = D.len (mrow c15 x y) ∧ c36 = D.len (mrow c16 x y) ∧ c33 = y ∧ true = true ∧ cs = cs ∧ ns = ns ∧ os = os ∧ fs = fs ∧ ls = ls ∧ ks = ks ∧ c4 = c4 ∧
     c5 = c5 ∧ c5 = c5 ∧ c7 = c7 ∧ cs = cs ∧ ns = ns ∧ os = os ∧ fs = fs ∧ ls = ls ∧ ks = ks ∧ a = a ∧ b = b ∧ c8 = c8 ∧ cs = cs ∧ ns = ns ∧ os = os ∧ fs = fs ∧ ls
     = ls ∧ ks = ks ∧ a = a ∧ b = b ∧ c13 = c13 ∧ c8 = c8 ∧ c9 = c9 ∧ c1 = c1 ∧ ls = ls ∧ c10 = c10 ∧ c11 = c11 ∧ c11 = c11 ∧ c14 = c14 ∧ 0 = 0 ∧ 0 = 0 ∧ x = x ∧ c2
     = c2 ∧ fs = fs ∧ c17 = c17 ∧ D.lt x c17 = D.lt x c17 ∧ 0 = 0 ∧ 0 = 0 ∧ mrows c15 x = mrows c15 x ∧ mrows c16 x = mrows c16 x ∧ D.app (mrow c15 x x_3) c49 =
     mrow c15 x y ∧ D.app (mrow c16 x x_3) c35 = mrow c16 x y ∧ True) ∧ D.nlt (D.nat (D.sub c17 y)) (D.nat (D.sub c17 x_3))))) ∧ (D.lt x_3 c17 = false → cs = cs ∧
     ns = ns ∧ os = os ∧ fs = fs ∧ ls = ls ∧ ks = ks ∧ a = a ∧ b = b ∧ c3 = c3 ∧ false = false ∧ true = true ∧ c8 = c8 ∧ c13 = c13 ∧ c22 = c22 ∧ c23 = c23 ∧ x = x ∧
     c28 = c28 ∧ mrow c15 x x_3 = mrow c15 x x_3 ∧ c29 = c29 ∧ mrow c16 x x_3 = mrow c16 x x_3 ∧ x_3 = x_3 ∧ true = true ∧ cs = cs ∧ ns = ns ∧ os = os ∧ fs = fs ∧
     ls = ls ∧ ks = ks ∧ c4 = c4 ∧ c5 = c5 ∧ c5 = c5 ∧ c7 = c7 ∧ cs = cs ∧ ns = ns ∧ os = os ∧ fs = fs ∧ ls = ls ∧ ks = ks ∧ a = a ∧ b = b ∧ c8 = c8 ∧ cs = cs ∧ ns
     = ns ∧ os = os ∧ fs = fs ∧ ls = ls ∧ ks = ks ∧ a = a ∧ b = b ∧ c13 = c13 ∧ c8 = c8 ∧ c9 = c9 ∧ c1 = c1 ∧ ls = ls ∧ c10 = c10 ∧ c11 = c11 ∧ c11 = c11 ∧ c14 =
     c14 ∧ 0 = 0 ∧ 0 = 0 ∧ mrows c15 x = mrows c15 x ∧ mrows c16 x = mrows c16 x ∧ c22 = c22 ∧ D.nle (D.nmul c38 (24)) (140737488355328) ∧ D.nle c38
     (9223372036854775807) ∧ c23 = c23 ∧ D.nle (D.nmul c40 (24)) (140737488355328) ∧ D.nle c40 (9223372036854775807) ∧ inR IntKind.i64 c26 ∧ ∃ y, starOk c3 a b y ∧
     (cs = cs ∧ ns = ns ∧ os = os ∧ fs = fs ∧ ls = ls ∧ ks = ks ∧ a = a ∧ b = b ∧ c3 = c3 ∧ false = false ∧ true = true ∧ c8 = c8 ∧ c13 = c13 ∧ c38 = D.len (mrows
     c15 y) ∧ c40 = D.len (mrows c16 y) ∧ c26 = y ∧ true = true ∧ cs = cs ∧ ns = ns ∧ os = os ∧ fs = fs ∧ ls = ls ∧ ks = ks ∧ c4 = c4 ∧ c5 = c5 ∧ c5 = c5 ∧ c7 = c7
     ∧ cs = cs ∧ ns = ns ∧ os = os ∧ fs = fs ∧ ls = ls ∧ ks = ks ∧ a = a ∧ b = b ∧ c8 = c8 ∧ cs = cs ∧ ns = ns ∧ os = os ∧ fs = fs ∧ ls = ls ∧ ks = ks ∧ a = a ∧ b =
     b ∧ c13 = c13 ∧ c8 = c8 ∧ c9 = c9 ∧ c1 = c1 ∧ ls = ls ∧ c10 = c10 ∧ c11 = c11 ∧ c11 = c11 ∧ c14 = c14 ∧ 0 = 0 ∧ 0 = 0 ∧ D.app (mrows c15 x) c37 = mrows c15 y ∧
     D.app (mrows c16 x) c39 = mrows c16 y ∧ True) ∧ D.nlt (D.nat (D.sub c17 y)) (D.nat (D.sub c17 x)))) ∧ (D.lt x c17 = false → cs = cs ∧ ns = ns ∧ os = os ∧ fs =
     fs ∧ ls = ls ∧ ks = ks ∧ a = a ∧ b = b ∧ c3 = c3 ∧ false = false ∧ true = true ∧ c8 = c8 ∧ c13 = c13 ∧ c22 = c22 ∧ mrows c15 x = mrows c15 x ∧ c23 = c23 ∧
     mrows c16 x = mrows c16 x ∧ x = x ∧ true = true ∧ cs = cs ∧ ns = ns ∧ os = os ∧ fs = fs ∧ ls = ls ∧ ks = ks ∧ c4 = c4 ∧ c5 = c5 ∧ c5 = c5 ∧ c7 = c7 ∧ cs = cs ∧
     ns = ns ∧ os = os ∧ fs = fs ∧ ls = ls ∧ ks = ks ∧ a = a ∧ b = b ∧ c8 = c8 ∧ cs = cs ∧ ns = ns ∧ os = os ∧ fs = fs ∧ ls = ls ∧ ks = ks ∧ a = a ∧ b = b ∧ c13 =
     c13 ∧ c8 = c8 ∧ c9 = c9 ∧ c1 = c1 ∧ ls = ls ∧ c10 = c10 ∧ c11 = c11 ∧ c11 = c11 ∧ c14 = c14 ∧ starP (mrows c15 x) ∧ (true = true → true = true → true = true) ∧
     (D.and true true = true → true = true) ∧ (c27 = true → c27 = true → c27 = true) ∧ (c27 = true → c27 = true → c27 = true) ∧ (c27 = true → mild (starS (mrows c15
     x))) ∧ (D.and true c27 = true → c27 = true) ∧ D.cnd c27 (sameR (starS (mrows c15 x)) (mrows c16 x)) false = true ∧ True))))) :
    evF { mkc KQ6 with mb := fun t => t == 52 || t == 53 || t == 61 || t == 62 } (lstarA (cs, ns, os, fs, ls, ks) a b) 7 [net cs ns os fs ls ks, .dat I a, .dat I b] [] ⟨True, .dat .bool true, []⟩ := of_eq (by kernel_rfl) hvc

theorem row_next {m : List (List Int)} {q : Nat} (h : Mp.Sq q m) {o d : Int} (o0 : 0 ≤ o) (o1 : o < q) (d0 : 0 ≤ d) (d1 : d < q) : mrow m o d ++ [at2 m o d] = mrow m o (d + 1) := by
  have hr := h.row o o0 o1
  unfold mrow at2
  rw [show (d + 1).toNat = d.toNat + 1 by omega, List.take_add_one, List.getElem?_eq_getElem (by omega), List.getD_eq_getElem?_getD (l := m.getD o.toNat []), List.getElem?_eq_getElem (by omega)]; rfl
theorem row_len {m : List (List Int)} {q : Nat} (h : Mp.Sq q m) {o d : Int} (o0 : 0 ≤ o) (o1 : o < q) (d0 : 0 ≤ d) (d1 : d ≤ q) : (mrow m o d).length = d.toNat := by
  have hr := h.row o o0 o1
  unfold mrow
  rw [List.length_take]; omega
theorem rows_len {m : List (List Int)} {q : Nat} (h : Mp.Sq q m) {o : Int} (o0 : 0 ≤ o) (o1 : o ≤ q) : (mrows m o).length = o.toNat := by
  have hr := h.len
  unfold mrows
  rw [List.length_take]; omega
theorem rows_next {m : List (List Int)} {q : Nat} (h : Mp.Sq q m) {o d : Int} (o0 : 0 ≤ o) (o1 : o < q) (d1 : d = q) : mrows m o ++ [mrow m o d] = mrows m (o + 1) := by
  have hr := h.row o o0 o1
  have hl := h.len
  have e : mrow m o d = m.getD o.toNat [] := by unfold mrow; rw [List.take_of_length_le (by omega)]
  rw [e]
  unfold mrows
  rw [show (o + 1).toNat = o.toNat + 1 by omega, List.take_add_one, List.getElem?_eq_getElem (by omega), List.getD_eq_getElem?_getD, List.getElem?_eq_getElem (by omega)]; rfl
theorem rows_all {m : List (List Int)} {q : Nat} (h : Mp.Sq q m) {o : Int} (o1 : o = q) : mrows m o = m := by
  have hl := h.len
  unfold mrows
  rw [List.take_of_length_le (by omega)]
theorem sq_ext {a b : List (List Int)} {q : Nat} (ha : Mp.Sq q a) (hb : Mp.Sq q b) (h : ∀ i j : Int, 0 ≤ i → i < q → 0 ≤ j → j < q → at2 a i j = at2 b i j) : a = b := by
  refine List.ext_getElem (by rw [ha.len, hb.len]) fun i h1 h2 => ?_
  have q1 : i < q := by rw [← ha.len]; exact h1
  have r1 := ha.row i (by omega) (by omega)
  have r2 := hb.row i (by omega) (by omega)
  have e1 : a.getD (i : Int).toNat [] = a[i] := by rw [Int.toNat_natCast, List.getD_eq_getElem?_getD, List.getElem?_eq_getElem h1, Option.getD_some]
  have e2 : b.getD (i : Int).toNat [] = b[i] := by rw [Int.toNat_natCast, List.getD_eq_getElem?_getD, List.getElem?_eq_getElem h2, Option.getD_some]
  rw [e1] at r1
  rw [e2] at r2
  refine List.ext_getElem (by omega) fun j h3 h4 => ?_
  have := h i j (by omega) (by omega) (by omega) (by omega)
  unfold at2 at this
  rw [e1, e2, Int.toNat_natCast, List.getD_eq_getElem?_getD, List.getD_eq_getElem?_getD, List.getElem?_eq_getElem h3, List.getElem?_eq_getElem h4] at this
  exact this
theorem leastX_next {n : Net} {c : List Int} {k o d : Int} (k0 : 0 ≤ k) : leastX n c (k + 1) o d = if c.getD k.toNat 0 ≠ noneI ∧ (lineOf n k).2.1 = o ∧ (lineOf n k).2.2.1 = d then max (leastX n c k o d) (-(c.getD k.toNat 0)) else leastX n c k o d := by
  unfold leastX
  rw [show (k + 1).toNat = k.toNat + 1 by omega, leastN_succ]; rfl
theorem t_lstar (a b : Int) (cs : List (Int × List Bool × List Int)) (ns os : List ByteArray) (fs : List Off) (ls : List Line) (ks : List Cla) : SoundC Tryz.prog G0 7 [net cs ns os fs ls ks, .dat I a, .dat I b] [] ⟨True, .dat .bool true, []⟩ := by
  refine sound_of_ev (c := { mkc KQ6 with mb := fun t => t == 52 || t == 53 || t == 61 || t == 62 }) KSQ6 KI0s hm (vc_lstar a b cs ns os fs ls ks ⟨rfl, fun _ => ?_⟩)
  simp only [cnd_or, cnd_and, D.and, D.or, D.not, Bool.true_and, Bool.and_true, Bool.false_or, Bool.or_false, eq_self, true_and, and_true, imp_self, implies_true, Bool.not_eq_true', Bool.or_eq_true, Bool.or_eq_false_iff, Bool.not_eq_false', Bool.and_eq_true, Bool.and_eq_false_imp, Bool.not_not, forall_const, exists_eq_right, exists_eq_right', exists_eq_left, exists_eq_left', Int.toNat_natCast, Nat.zero_add, Nat.mul_one, Int.ofNat_eq_natCast, D.nil, D.eq, D.ne, D.lt, D.gt, D.le, D.ge, D.beq, D.ilen, D.slen, D.ile, D.ilt, D.ine, D.nle, D.nlt, D.sub, D.add, D.mul, D.neg, D.nat, D.ofN, D.len, D.nadd, D.nmul, D.get, D.mn, D.mx, D.set, D.app, D.tail, D.part, D.seg, D.rep, D.at2, decide_eq_true_eq, decide_eq_false_iff_not, beq_iff_eq, bne_iff_ne, beq_eq_false_iff_ne, bne_eq_false_iff_eq, D.wrap, D.allNil, lineOf_fold cs ns os fs ls ks]
  refine ⟨fun h => few_fewC (few16_iff.1 h).1, fun ⟨hf, hr⟩ => ?_⟩
  obtain ⟨⟨g0, g1, g2, g3⟩, hs⟩ := ruse_iff.1 hr
  have f5 : fs.length ≤ 5 := (few16_iff.1 hf).2.1
  have l12 : ls.length ≤ 12 := (few16_iff.1 hf).2.2
  have hcl : (rcostsF (cs, ns, os, fs, ls, ks) a b).length = ls.length := by rw [rcosts_eq cs ns os fs ls ks hr]; exact costs_length cs ns os fs ls ks a b
  have s1 : Mp.Sq fs.length (rboundsF (cs, ns, os, fs, ls, ks) a b) := by rw [rbnds_eq cs ns os fs ls ks hr]; exact bsq cs ns os fs ls ks _
  have hsq1 := sq16_of cs ns os fs ls ks s1
  have hP1 := sqP_of cs ns os fs ls ks hf s1
  have hcb : ∀ i : Int, 0 ≤ i → i < ls.length → (rcostsF (cs, ns, os, fs, ls, ks) a b).getD i.toNat 0 = noneI ∨ (0 < (rcostsF (cs, ns, os, fs, ls, ks) a b).getD i.toNat 0 ∧ (rcostsF (cs, ns, os, fs, ls, ks) a b).getD i.toNat 0 ≤ 1000000) := fun i i0 i1 => by
    rw [rcosts_eq cs ns os fs ls ks hr]
    exact (costs_ok cs ns os fs ls ks hr).2.2 i i0 (by rw [costs_length cs ns os fs ls ks]; exact i1)
  have hbb : ∀ i j : Int, 0 ≤ i → i < fs.length → 0 ≤ j → j < fs.length → -1152921504606846976 ≤ at2 (rboundsF (cs, ns, os, fs, ls, ks) a b) i j ∧ at2 (rboundsF (cs, ns, os, fs, ls, ks) a b) i j ≤ 1152921504606846976 := fun i j i0 i1 j0 j1 => by
    rw [rbnds_eq cs ns os fs ls ks hr]; exact (bnd_ok cs ns os fs ls ks (costs_ok cs ns os fs ls ks hr) i j i0 i1 j0 j1).2
  have sl : Mp.Sq fs.length (leastF (cs, ns, os, fs, ls, ks) (rcostsF (cs, ns, os, fs, ls, ks) a b)) := leastTo_sq cs ns os fs ls ks _ _
  have sw : Mp.Sq fs.length (wantF (cs, ns, os, fs, ls, ks) (rboundsF (cs, ns, os, fs, ls, ks) a b)) := Mp.buildF_sq _ _
  have lat : ∀ i j : Int, 0 ≤ i → i < fs.length → 0 ≤ j → j < fs.length → at2 (leastF (cs, ns, os, fs, ls, ks) (rcostsF (cs, ns, os, fs, ls, ks) a b)) i j = leastX (cs, ns, os, fs, ls, ks) (rcostsF (cs, ns, os, fs, ls, ks) a b) ls.length i j := fun i j i0 i1 j0 j1 => leastTo_at cs ns os fs ls ks _ _ i0 i1 j0 j1
  have wat : ∀ i j : Int, 0 ≤ i → i < fs.length → 0 ≤ j → j < fs.length → at2 (wantF (cs, ns, os, fs, ls, ks) (rboundsF (cs, ns, os, fs, ls, ks) a b)) i j = want2 (rboundsF (cs, ns, os, fs, ls, ks) a b) i j := fun i j i0 i1 j0 j1 => Mp.buildF_at _ _ i j i0 i1 j0 j1
  have hstar : starE (leastF (cs, ns, os, fs, ls, ks) (rcostsF (cs, ns, os, fs, ls, ks) a b)) = 0 ∧ starS (leastF (cs, ns, os, fs, ls, ks) (rcostsF (cs, ns, os, fs, ls, ks) a b)) = wantF (cs, ns, os, fs, ls, ks) (rboundsF (cs, ns, os, fs, ls, ks) a b) := by
    obtain ⟨_, b1, b2, b3⟩ := bounds_ok cs ns os fs ls ks (costs_ok cs ns os fs ls ks hr)
    rw [← rcosts_eq cs ns os fs ls ks hr] at b1 b2 b3
    refine ⟨b1, sq_ext b3 sw fun i j i0 i1 j0 j1 => ?_⟩
    rw [b2 i j i0 i1 j0 j1, wat i j i0 i1 j0 j1]
    unfold want2
    rw [rbnds_eq cs ns os fs ls ks hr, rcosts_eq cs ns os fs ls ks hr]
  have n1 := s1.len
  have row1 := s1.row
  have hat : ∀ i j : Int, ((rboundsF (cs, ns, os, fs, ls, ks) a b).getD i.toNat []).getD j.toNat 0 = at2 (rboundsF (cs, ns, os, fs, ls, ks) a b) i j := fun _ _ => rfl
  have nxt := fun (k o d : Int) (h : 0 ≤ k) => leastX_next (n := (cs, ns, os, fs, ls, ks)) (c := rcostsF (cs, ns, os, fs, ls, ks) a b) (k := k) (o := o) (d := d) h
  have ok0 : ∀ o : Int, 0 ≤ o → o ≤ fs.length → starOk (cs, ns, os, fs, ls, ks) a b o := fun o o0 o1 => ⟨hf, hr, o0, o1⟩
  have ok3 : ∀ o : Int, 0 ≤ o → o ≤ ls.length → starOk3 (cs, ns, os, fs, ls, ks) a b o := fun o o0 o1 => ⟨hf, hr, o0, o1⟩
  have lx0 : ∀ o d : Int, leastX (cs, ns, os, fs, ls, ks) (rcostsF (cs, ns, os, fs, ls, ks) a b) 0 o d = -1099511627776 := fun _ _ => rfl
  simp only [hat]
  generalize rcostsF (cs, ns, os, fs, ls, ks) a b = mc at *
  generalize rboundsF (cs, ns, os, fs, ls, ks) a b = mb at *
  generalize leastF (cs, ns, os, fs, ls, ks) mc = ml at *
  generalize wantF (cs, ns, os, fs, ls, ks) mb = mw at *
  refine ⟨fun _ => hP1, fun h => ?_, fun _ => ⟨⟨0, ok0 0 (by omega) (by omega), by simp [mrows], by simp [mrows], rfl, by simp [mrows], by simp [mrows]⟩, fun o ho => ⟨fun hlt => ⟨⟨0, ok0 0 (by omega) (by omega), by simp [mrow], by simp [mrow], rfl, by simp [mrow], by simp [mrow]⟩, fun d hd => ⟨fun hdl => ⟨⟨0, ok3 0 (by omega) (by omega), (lx0 _ _).symm, rfl⟩, fun k hk => ⟨fun hkl => ?_, fun hkl => ?_⟩⟩, fun hdl => ?_⟩⟩, fun hge => ?_⟩⟩⟩
  · rw [hsq1] at h
    rcases h with h | h
    · omega
    · cases h
  · have k0 := hk.2.2.1
    have hn := nxt k o d k0
    have hc := hcb k k0 hkl
    have hok := ok3 (k + 1) (by omega) (by omega)
    refine ⟨k0, hkl, fun _ => k0, fun _ => hkl, fun _ => k0, fun _ => by omega, fun h => ?_, fun h => ?_⟩
    · rw [if_pos ⟨h.2, h.1.1, h.1.2⟩] at hn
      refine ⟨k0, by omega, ?_, in_small (by omega), k + 1, hok, ⟨hn.symm, rfl⟩, by omega⟩
      rcases hc with hc | hc
      · exact (h.2 hc).elim
      · exact in_small (by omega)
    · rw [if_neg (fun g => g.1 (h ⟨g.2.1, g.2.2⟩))] at hn
      exact ⟨in_small (by omega), k + 1, hok, ⟨hn.symm, rfl⟩, by omega⟩
  · have o0 := ho.2.2.1
    have d0 := hd.2.2.1
    have ek : k = ls.length := by
      have : k ≤ ls.length := hk.2.2.2
      omega
    have el := lat o d o0 hlt d0 hdl
    have ew := wat o d o0 hlt d0 hdl
    have r1 := row1 o o0 hlt
    have a1 := row_next sl o0 hlt d0 hdl
    have a2 := row_next sw o0 hlt d0 hdl
    have b1 := row_len sl o0 hlt d0 (by omega)
    have b2 := row_len sw o0 hlt d0 (by omega)
    have b3 := row_len sl o0 hlt (d := d + 1) (by omega) (by omega)
    have b4 := row_len sw o0 hlt (d := d + 1) (by omega) (by omega)
    have hbd := hbb o d o0 hlt d0 hdl
    have hok := ok0 (d + 1) (by omega) (by omega)
    rw [el, ← ek] at a1
    rw [ew] at a2
    unfold want2 at a2
    simp only [List.length_singleton]
    refine ⟨by omega, by omega, o0, by omega, d0, by omega, fun h => ?_, fun h => ?_⟩
    · rw [if_pos h] at a2
      exact ⟨by omega, by omega, in_small (by omega), d + 1, hok, ⟨by omega, by omega, rfl, a1, a2⟩, by omega⟩
    · rw [if_neg h] at a2
      exact ⟨o0, by omega, d0, by omega, by unfold inR; simp only; omega, by omega, by omega, in_small (by omega), d + 1, hok, ⟨by omega, by omega, rfl, a1, a2⟩, by omega⟩
  · have o0 := ho.2.2.1
    have ed : d = fs.length := by
      have : d ≤ fs.length := hd.2.2.2
      omega
    have a1 := rows_next sl o0 hlt ed
    have a2 := rows_next sw o0 hlt ed
    have b1 := rows_len sl o0 (by omega)
    have b2 := rows_len sw o0 (by omega)
    have b3 := rows_len sl (o := o + 1) (by omega) (by omega)
    have b4 := rows_len sw (o := o + 1) (by omega) (by omega)
    simp only [List.length_singleton]
    exact ⟨by omega, by omega, by omega, by omega, in_small (by omega), o + 1, ok0 (o + 1) (by omega) (by omega), ⟨by omega, by omega, rfl, a1, a2⟩, by omega⟩
  · have eo : o = fs.length := by
      have : o ≤ fs.length := ho.2.2.2
      omega
    rw [rows_all sl eo, rows_all sw eo, hstar.1, hstar.2]
    have hl := sl.len
    refine ⟨by show ml.length ≤ 20; omega, fun _ => ⟨by rw [sw.len]; omega, fun r hr => ?_⟩, rfl, by unfold sameR; simp⟩
    obtain ⟨i, hi, rfl⟩ := List.getElem_of_mem hr
    have := sw.row i (by omega) (by rw [← sw.len]; omega)
    rw [Int.toNat_natCast, List.getD_eq_getElem?_getD, List.getElem?_eq_getElem hi, Option.getD_some] at this
    omega
end Go.Eng.Sv
