/- PeRo4z, PeRo10z -/
import Derived.Test.YtejeaokbkbfgjaaGreatDoorX22
import Derived.Test.YtejeaokbkbfgjaaGreatDoorRo5z
set_option linter.unusedSimpArgs false
set_option linter.unusedVariables false
set_option maxRecDepth 100000
namespace Go.Eng.Sv
open Go.Proofs
open Go.Eng.Mp (buildF rowsF rowF preBuild upto at2 idx2 starS starE starP)

abbrev U8 : Ty := .int .u8
abbrev U16 : Ty := .int .u16
noncomputable def u8P (a : Int) : Prop := 0 ≤ a ∧ a ≤ 255
noncomputable def u16P (a : Int) : Prop := 0 ≤ a ∧ a ≤ 65535
set_option maxRecDepth 100000 in
theorem vc_ltime (a b which at_ : Int) (cs : List (Int × List Bool × List Int)) (ns os : List ByteArray) (fs : List Off) (ls : List Line) (ks : List Cla) (hvc :
    let c1 := (cs, ns, os, fs, ls, ks);
    let c2 := D.not (few16 c1);
    let c3 := D.not c2;
    let c4 := D.cnd c2 true (D.not (ruseF c1 a b));
    let c5 := D.not c4;
    let c6 := D.ilen ls;
    let c7 := D.cnd c4 true (D.eq c6 (0 : Int));
    let c8 := rcostsF c1 a b;
    let c9 := D.ilen c8;
    let c10 := D.ne c9 c6;
    let c11 := D.rem which c6;
    let c12 := D.nat c11;
    let c13 := D.get c8 c12 (0 : Int);
    let c14 := D.eq c13 (-1099511627776 : Int);
    let c15 := D.add a (D.rem at_ (D.sub b a));
    let c16 := (D.get ls c12 (ByteArray.mk (D.nil UInt8).toArray, (0 : Int), (0 : Int), (0 : Int), (0 : Int), (0 : Int))).snd.snd;
    let c17 := c16.fst;
    let c18 := D.cnd true (D.eq (departE c1 c11 c15) (0 : Int)) false;
    let c19 := D.add (departD c1 c11 c15) c16.snd.snd.fst;
    let c20 := (D.get fs (D.nat c17) (ByteArray.mk (D.nil UInt8).toArray, (0 : Int), (0 : Int), (0 : Int), (0 : Int), (0 : Int), D.nil ByteArray)).snd.snd.snd.snd;
    let c21 := D.mul c20.fst c20.snd.fst;
    let c22 := D.add c19 c21;
    let c23 := D.sub c22 c15; true = true ∧ (u8P which ∧ u16P at_ → True ∧ True ∧ (c3 = true → c3 = true → c3 = true) ∧ (c3 = true → c3 = true → c3 = true) ∧ (c3 =
     true → c3 = true → c3 = true) ∧ (c3 = true → fewC c1 = true) ∧ (c3 = true → c3 = true → c3 = true) ∧ (D.and true c3 = true → c3 = true) ∧ (c5 = true → c5 =
     true → c5 = true) ∧ (c5 = true → c5 = true → c5 = true) ∧ (c5 = true → c5 = true → c5 = true) ∧ (D.and true c5 = true → c5 = true) ∧ (c7 = true → true = true ∧
     True) ∧ (c7 = false → True ∧ inR IntKind.i64 which ∧ D.ine c6 (0 : Int) ∧ (c10 = true → false = true ∧ True) ∧ (c10 = false → D.ile (0 : Int) c11 ∧ D.ilt c11
     c9 ∧ (c14 = true → true = true ∧ True) ∧ (c14 = false → inR IntKind.i64 at_ ∧ inR IntKind.i64 (D.sub b a) ∧ D.ine (D.sub b a) (0 : Int) ∧ inR IntKind.i64 c15 ∧
     True ∧ D.ile (0 : Int) c11 ∧ D.ilt c11 c6 ∧ D.ile (0 : Int) c17 ∧ D.ilt c17 (D.ilen fs) ∧ 1 = 1 ∧ 0 = 0 ∧ (true = true → true = true → true = true) ∧ (D.and
     true true = true → true = true) ∧ (c18 = true → c18 = true → c18 = true) ∧ (c18 = true → c18 = true → c18 = true) ∧ (c18 = true → c18 = true → c18 = true) ∧
     (c18 = true → D.ile (0 : Int) c11) ∧ (c18 = true → D.ilt c11 c6) ∧ (c18 = true → c18 = true → c18 = true) ∧ (c18 = true → c18 = true → c18 = true) ∧ (c18 =
     true → c18 = true → c18 = true) ∧ (c18 = true → c18 = true → c18 = true) ∧ (c18 = true → inR IntKind.i64 c19) ∧ (c18 = true → 1 = 1) ∧ (c18 = true → c18 = true
     → c18 = true) ∧ (c18 = true → 1 = 1) ∧ (c18 = true → 0 = 0) ∧ (c18 = true → 1 = 1) ∧ (c18 = true → c18 = true → c18 = true) ∧ (c18 = true → 1 = 1) ∧ (c18 =
     true → 0 = 0) ∧ (c18 = true → c18 = true → c18 = true) ∧ (c18 = true → c18 = true → c18 = true) ∧ (c18 = true → inR IntKind.i64 c21) ∧ (c18 = true → c18 = true
     → c18 = true) ∧ (c18 = true → c18 = true → c18 = true) ∧ (c18 = true → inR IntKind.i64 c22) ∧ (c18 = true → c18 = true → c18 = true) ∧ (c18 = true → c18 = true
     → c18 = true) ∧ (c18 = true → inR IntKind.i64 c23) ∧ (c18 = true → c18 = true → c18 = true) ∧ (c18 = true → c18 = true → c18 = true) ∧ (c18 = true → D.ile (0 :
     Int) c11) ∧ (c18 = true → D.ilt c11 c9) ∧ (c18 = true → c18 = true → c18 = true) ∧ (c18 = true → c18 = true → c18 = true) ∧ (c18 = true → c18 = true → c18 =
     true) ∧ (D.and true c18 = true → c18 = true) ∧ D.cnd c18 (D.le c23 c13) false = true ∧ True))))) :
    evF (mkc KQ6) noAnn 10 [net cs ns os fs ls ks, .dat I a, .dat I b, .dat U8 which, .dat U16 at_] [] ⟨u8P which ∧ u16P at_, .dat .bool true, []⟩ := of_eq (by kernel_rfl) hvc

theorem rcosts_eq (cs : List (Int × List Bool × List Int)) (ns os : List ByteArray) (fs : List Off) (ls : List Line) (ks : List Cla) {a b : Int} (h : ruseF (cs, ns, os, fs, ls, ks) a b = true) : rcostsF (cs, ns, os, fs, ls, ks) a b = costsF (cs, ns, os, fs, ls, ks) a b := by unfold rcostsF; rw [h]; rfl
theorem rbnds_eq (cs : List (Int × List Bool × List Int)) (ns os : List ByteArray) (fs : List Off) (ls : List Line) (ks : List Cla) {a b : Int} (h : ruseF (cs, ns, os, fs, ls, ks) a b = true) : rboundsF (cs, ns, os, fs, ls, ks) a b = boundsF (cs, ns, os, fs, ls, ks) (costsF (cs, ns, os, fs, ls, ks) a b) := by unfold rboundsF; rw [h]; rfl
theorem rnext_eq (cs : List (Int × List Bool × List Int)) (ns os : List ByteArray) (fs : List Off) (ls : List Line) (ks : List Cla) {a b : Int} (h : ruseF (cs, ns, os, fs, ls, ks) a b = true) : rnextF (cs, ns, os, fs, ls, ks) a b = nextF (cs, ns, os, fs, ls, ks) (costsF (cs, ns, os, fs, ls, ks) a b) := by unfold rnextF; rw [h]; rfl
theorem costs_length (cs : List (Int × List Bool × List Int)) (ns os : List ByteArray) (fs : List Off) (ls : List Line) (ks : List Cla) (a b : Int) : (costsF (cs, ns, os, fs, ls, ks) a b).length = ls.length := costsF_len _ _ _
theorem sq16_of (cs : List (Int × List Bool × List Int)) (ns os : List ByteArray) (fs : List Off) (ls : List Line) (ks : List Cla) {m : List (List Int)} (h : Mp.Sq fs.length m) : sq16 (cs, ns, os, fs, ls, ks) m = true := by
  unfold sq16
  rw [Bool.and_eq_true, decide_eq_true_eq, List.all_eq_true]
  refine ⟨h.len, fun r hr => ?_⟩
  obtain ⟨i, hi, rfl⟩ := List.getElem_of_mem hr
  have := h.row i (by omega) (by rw [← h.len]; omega)
  rw [Int.toNat_natCast, List.getD_eq_getElem?_getD, List.getElem?_eq_getElem hi, Option.getD_some] at this
  exact decide_eq_true this
theorem bsq (cs : List (Int × List Bool × List Int)) (ns os : List ByteArray) (fs : List Off) (ls : List Line) (ks : List Cla) (c : List Int) : Mp.Sq fs.length (boundsF (cs, ns, os, fs, ls, ks) c) := Mp.buildF_sq _ _
theorem nsq (cs : List (Int × List Bool × List Int)) (ns os : List ByteArray) (fs : List Off) (ls : List Line) (ks : List Cla) (c : List Int) : Mp.Sq fs.length (nextF (cs, ns, os, fs, ls, ks) c) := Mp.buildF_sq _ _
theorem sqP_of (cs : List (Int × List Bool × List Int)) (ns os : List ByteArray) (fs : List Off) (ls : List Line) (ks : List Cla) {m : List (List Int)} (hf : few16 (cs, ns, os, fs, ls, ks) = true) (h : Mp.Sq fs.length m) : sqP16 (cs, ns, os, fs, ls, ks) m := by
  obtain ⟨_, h1, _⟩ := few16_iff.1 hf
  have h1 : fs.length ≤ 5 := h1
  refine ⟨by show fs.length ≤ 1000000; omega, by rw [h.len]; omega⟩
theorem bounds_none (cs : List (Int × List Bool × List Int)) (ns os : List ByteArray) (fs : List Off) (ls : List Line) (ks : List Cla) {a b : Int} (h : ruseF (cs, ns, os, fs, ls, ks) a b = false) : rboundsF (cs, ns, os, fs, ls, ks) a b = [] := by unfold rboundsF; rw [h]; rfl
theorem sqP_bnds (cs : List (Int × List Bool × List Int)) (ns os : List ByteArray) (fs : List Off) (ls : List Line) (ks : List Cla) {a b : Int} (hf : few16 (cs, ns, os, fs, ls, ks) = true) : sqP16 (cs, ns, os, fs, ls, ks) (rboundsF (cs, ns, os, fs, ls, ks) a b) := by
  cases h : ruseF (cs, ns, os, fs, ls, ks) a b with
  | true => rw [rbnds_eq cs ns os fs ls ks h]; exact sqP_of cs ns os fs ls ks hf (bsq cs ns os fs ls ks _)
  | false =>
    obtain ⟨_, h1, _⟩ := few16_iff.1 hf
    have h1 : fs.length ≤ 5 := h1
    rw [bounds_none cs ns os fs ls ks h]; exact ⟨by show fs.length ≤ 1000000; omega, Nat.zero_le _⟩
theorem t_ltime (a b which at_ : Int) (cs : List (Int × List Bool × List Int)) (ns os : List ByteArray) (fs : List Off) (ls : List Line) (ks : List Cla) : SoundC Tryz.prog G0 10 [net cs ns os fs ls ks, .dat I a, .dat I b, .dat U8 which, .dat U16 at_] [] ⟨u8P which ∧ u16P at_, .dat .bool true, []⟩ := by
  refine sound_of_ev (c := mkc KQ6) KSQ6 KI0s hm (vc_ltime a b which at_ cs ns os fs ls ks ⟨rfl, fun hp => ?_⟩)
  obtain ⟨⟨w0, w1⟩, a0', a1'⟩ := hp
  simp only [cnd_or, cnd_and, D.and, D.or, D.not, Bool.true_and, Bool.and_true, Bool.false_or, Bool.or_false, eq_self, true_and, and_true, imp_self, implies_true, Bool.not_eq_true', Bool.or_eq_true, Bool.or_eq_false_iff, Bool.not_eq_false', Bool.and_eq_true, Bool.and_eq_false_imp, Bool.not_not, forall_const, exists_eq_right, exists_eq_right', exists_eq_left, exists_eq_left', Int.toNat_natCast, Nat.zero_add, Nat.mul_one, Int.ofNat_eq_natCast, D.nil, D.eq, D.ne, D.lt, D.gt, D.le, D.ge, D.beq, D.ilen, D.slen, D.ile, D.ilt, D.ine, D.nle, D.nlt, D.sub, D.add, D.mul, D.neg, D.nat, D.ofN, D.len, D.nadd, D.nmul, D.get, D.mn, D.mx, D.set, D.app, D.tail, D.part, D.seg, D.rep, D.at2, decide_eq_true_eq, decide_eq_false_iff_not, beq_iff_eq, bne_iff_ne, beq_eq_false_iff_ne, bne_eq_false_iff_eq, D.wrap, D.allNil, lineOf_fold cs ns os fs ls ks]
  refine ⟨fun h => few_fewC (few16_iff.1 h).1, fun h => ?_⟩
  obtain ⟨⟨hf, hr⟩, hl⟩ := h
  obtain ⟨⟨g0, g1, g2, g3⟩, hs⟩ := ruse_iff.1 hr
  have i0 : 0 ≤ D.rem which ls.length := Int.tmod_nonneg _ w0
  have i1 : D.rem which ls.length < ls.length := Int.tmod_lt_of_pos _ (by omega)
  have s0 : 0 ≤ D.rem at_ (b - a) := Int.tmod_nonneg _ a0'
  have s1 : D.rem at_ (b - a) < b - a := Int.tmod_lt_of_pos _ (by omega)
  generalize D.rem which ls.length = i at *
  generalize D.rem at_ (b - a) = s at *
  have hcl := costs_length cs ns os fs ls ks a b
  have lf : fs.getD (lineOf (cs, ns, os, fs, ls, ks) i).2.2.1.toNat (⟨#[]⟩, 0, 0, 0, 0, 0, []) = offOf (cs, ns, os, fs, ls, ks) (lineOf (cs, ns, os, fs, ls, ks) i).2.2.1 := rfl
  have er : (rcostsF (cs, ns, os, fs, ls, ks) a b).length = ls.length := by rw [rcosts_eq cs ns os fs ls ks hr, hcl]
  have ec : (rcostsF (cs, ns, os, fs, ls, ks) a b).getD i.toNat 0 = costF (cs, ns, os, fs, ls, ks) a b i := by rw [rcosts_eq cs ns os fs ls ks hr, costsF_at cs ns os fs ls ks a b i0 i1]
  obtain ⟨l0, l1, l2, l3, l4, l5, l6⟩ := sound_line cs ns os fs ls ks hs i0 i1
  obtain ⟨o0, o1⟩ := sound_off cs ns os fs ls ks hs l2 l3
  refine ⟨in_small (by omega), hl, fun h => (h (by rw [er])).elim, fun _ => ⟨i0, by omega, fun hc => ?_⟩⟩
  rw [ec] at hc
  obtain ⟨e1, d0, d1, e2⟩ := cost_wait cs ns os fs ls ks hr i0 i1 hc
  have ha := line_at cs ns os fs ls ks ⟨sound_noF cs ns os fs ls ks hs, i0, i1⟩
  obtain ⟨u, u1, u2⟩ := (wait_some ha g1 e1).1 (a + s) (by omega) (by omega)
  have hu : usableF (cs, ns, os, fs, ls, ks) i [a + s] = true := by
    unfold usableF idxF
    rw [hs, Bool.and_true, Bool.and_eq_true]
    exact ⟨decide_eq_true ⟨i0, i1⟩, by simp [timeOk]; omega⟩
  obtain ⟨k1, k2⟩ := depart_of hu u1
  have ur := firstO_range u1
  have lf1 : (fs.getD (lineOf (cs, ns, os, fs, ls, ks) i).2.2.1.toNat (⟨#[]⟩, 0, 0, 0, 0, 0, [])).2.2.2.2.1 * (fs.getD (lineOf (cs, ns, os, fs, ls, ks) i).2.2.1.toNat (⟨#[]⟩, 0, 0, 0, 0, 0, [])).2.2.2.2.2.1 = (offOf (cs, ns, os, fs, ls, ks) (lineOf (cs, ns, os, fs, ls, ks) i).2.2.1).2.2.2.2.1 * (offOf (cs, ns, os, fs, ls, ks) (lineOf (cs, ns, os, fs, ls, ks) i).2.2.1).2.2.2.2.2.1 := rfl
  generalize (offOf (cs, ns, os, fs, ls, ks) (lineOf (cs, ns, os, fs, ls, ks) i).2.2.1).2.2.2.2.1 * (offOf (cs, ns, os, fs, ls, ks) (lineOf (cs, ns, os, fs, ls, ks) i).2.2.1).2.2.2.2.2.1 = pm at *
  exact ⟨in_small (by omega), in_small (by omega), by omega, in_small (by omega), i0, i1, l2, l3, fun _ => i0, fun _ => i1, fun _ => in_small (by omega), fun _ => in_small (by rw [lf1]; omega), fun _ => in_small (by rw [lf1]; omega), fun _ => in_small (by rw [lf1]; omega), fun _ => i0, fun _ => by omega, k2, decide_eq_true (by rw [ec, lf1, k1, e2]; omega)⟩
end Go.Eng.Sv

set_option maxRecDepth 100000
namespace Go.Eng.Sv
open Go.Proofs
open Go.Eng.Mp (buildF rowsF rowF preBuild upto at2 idx2 starS starE starP)

noncomputable def upP (q k : Int) : Prop := 0 ≤ k ∧ k ≤ q
noncomputable def noL (m : List (List Int)) (q l i : Int) : Prop := 0 ≤ i ∧ i ≤ q ∧ ∀ j k : Int, 0 ≤ j → j < i → 0 ≤ k → k < q → at2 m j k ≠ l
noncomputable def noL2 (m : List (List Int)) (q l i k : Int) : Prop := 0 ≤ k ∧ k ≤ q ∧ ∀ j : Int, 0 ≤ j → j < k → at2 m i j ≠ l
noncomputable def keepL2 : List Nat → Nat → List AV → List AV
  | _, _, [] => []
  | l, i, a :: r => (if l.contains i then a else .top) :: keepL2 l (i + 1) r
noncomputable def keepT2 (l : List Nat) (s : St) : St := { s with tm := keepL2 l 0 s.tm }
noncomputable def bufNames2 (s : St) : List Nat := s.mem.filterMap fun p => match p.2 with
  | .buf _ _ _ _ => some p.1
  | _ => none
noncomputable def lrlinesA (n : Net) (a b : Int) : Ann := ⟨fun id s => match id with
  | 15 => some { α := Int, inv := fun k => upP (D.ilen n.2.2.2.1) k, st := fun k => put (flat s) [(16, .dat I k)], μ := fun k => D.nat (D.sub (D.ilen n.2.2.2.1) k) }
  | 18 => some { α := Int, inv := fun k => upP (D.ilen n.2.2.2.1) k, st := fun k => put (flat s) [(17, .dat I k)], μ := fun k => D.nat (D.sub (D.ilen n.2.2.2.1) k) }
  | 26 => match s.sig.T 18 with
    | .dat (.int .i64) l => some { α := Int, inv := fun k => noL (rnextF n a b) (D.ilen n.2.2.2.1) l k, st := fun k => put (flat s) [(19, .dat I k)], μ := fun k => D.nat (D.sub (D.ilen n.2.2.2.1) k) }
    | _ => none
  | 29 => match s.sig.T 18, s.sig.T 19 with
    | .dat (.int .i64) l, .dat (.int .i64) i => some { α := Int, inv := fun k => noL2 (rnextF n a b) (D.ilen n.2.2.2.1) l i k, st := fun k => put (flat s) [(20, .dat I k)], μ := fun k => D.nat (D.sub (D.ilen n.2.2.2.1) k) }
    | _, _ => none
  | _ => none, fun id s => match id with
  | 10 => some (keepT2 (List.range 15) (frz (bufNames2 s) s))
  | 22 => some (keepT2 (List.range 15) s)
  | 35 => some (keepT2 ([0, 1, 2, 3, 4, 5, 8, 11, 12, 13, 18, 21]) (frz (bufNames2 s) s))
  | _ => none, fun _ _ => none⟩
set_option maxRecDepth 100000 in
theorem vc_lrlines (a b which : Int) (cs : List (Int × List Bool × List Int)) (ns os : List ByteArray) (fs : List Off) (ls : List Line) (ks : List Cla) (e1 : ByteArray) (e2 e3 e4 e5 e6 : Int) (hvc :
 let c1 := (ls, ks);
 let c2 := (cs, ns, os, fs, c1);
 let c3 := D.not (few16 c2);
 let c4 := D.not c3;
 let c5 := D.ilen ls;
 let c6 := D.cnd c3 true (D.gt c5 (11 : Int));
 let c7 := D.not c6;
 let c8 := D.cnd c6 true (D.not (ruseF c2 a b));
 let c9 := rboundsF c2 a b;
 let c10 := D.not (sq16 c2 c9);
 let c11 := D.not c10;
 let c12 := rnextF c2 a b;
 let c13 := D.cnd c10 true (D.not (sq16 c2 c12));
 let c14 := D.nadd (0) (D.len ls);
 let c15 := D.app (D.nil (ByteArray × Int × Int × Int × Int × Int)) ls;
 let c16 := (e1, e2, e3, e4, e5, e6);
 let c17 := [c16];
 let c18 := D.nadd c14 (D.len c17);
 let c19 := D.app c15 c17;
 let c20 := (cs, ns, os, fs, c19, ks);
 let c21 := few16 c20;
 let c22 := D.cnd c21 (ruseF c20 a b) false;
 let c23 := rboundsF c20 a b;
 let c24 := sq16 c2 c23;
 let c25 := D.not c24;
 let c26 := D.ilen fs;
 let c27 := D.ilen c9;
 let c28 := D.eq c5 (0 : Int);
 let c29 := D.rem which c5;
 let c30 := D.ilen c12;
 let c31 := D.part ls (0 : Int) c29;
 let c32 := D.nadd (0) (D.len c31);
 let c33 := D.add c29 (1 : Int);
 let c34 := D.app (D.nil (ByteArray × Int × Int × Int × Int × Int)) c31;
 let c35 := D.tail ls c33;
 let c36 := D.nadd c32 (D.len c35);
 let c37 := D.app c34 c35;
 let c38 := (cs, ns, os, fs, c37, ks);
 let c39 := D.not (ruseF c38 a b);
 let c40 := rboundsF c38 a b; true = true ∧ (u8P which → True ∧ True ∧ (c4 = true → c4 = true → c4 = true) ∧ (c4 = true → c4 = true → c4 = true) ∧ (c4 = true →
  c4 = true → c4 = true) ∧ (D.and true c4 = true → c4 = true) ∧ (c7 = true → c7 = true → c7 = true) ∧ (c7 = true → c7 = true → c7 = true) ∧ (c7 = true → c7 =
  true → c7 = true) ∧ (c7 = true → fewC c2 = true) ∧ (c7 = true → c7 = true → c7 = true) ∧ (D.and true c7 = true → c7 = true) ∧ (c8 = true → true = true ∧ True)
  ∧ (c8 = false → True ∧ True ∧ sqP16 c2 c9 ∧ (c11 = true → c11 = true → c11 = true) ∧ (c11 = true → c11 = true → c11 = true) ∧ (c11 = true → sqP16 c2 c12) ∧
  (c11 = true → c11 = true → c11 = true) ∧ (D.and true c11 = true → c11 = true) ∧ (c13 = true → false = true ∧ True) ∧ (c13 = false → 1 = 1 ∧ 0 = 0 ∧ D.len
  (D.nil (ByteArray × Int × Int × Int × Int × Int)) = 0 ∧ D.nle (D.nmul c14 (56)) (140737488355328) ∧ D.nle c14 (9223372036854775807) ∧ D.len c15 = c14 ∧ D.nle
  (D.nmul c18 (56)) (140737488355328) ∧ D.nle c18 (9223372036854775807) ∧ 1 = 1 ∧ 1 = 1 ∧ 0 = 0 ∧ D.len c19 = c18 ∧ cs = cs ∧ ns = ns ∧ os = os ∧ fs = fs ∧ ls =
  ls ∧ ks = ks ∧ a = a ∧ b = b ∧ e1 = e1 ∧ e2 = e2 ∧ e3 = e3 ∧ e4 = e4 ∧ e5 = e5 ∧ e6 = e6 ∧ which = which ∧ c2 = c2 ∧ c16 = c16 ∧ false = false ∧ true = true ∧
  c9 = c9 ∧ c12 = c12 ∧ 1 = 1 ∧ 0 = 0 ∧ 0 = 0 ∧ cs = cs ∧ ns = ns ∧ os = os ∧ fs = fs ∧ D.len c19 = c18 ∧ c19 = c19 ∧ ks = ks ∧ 1 = 1 ∧ 0 = 0 ∧ True ∧ (c21 =
  true → 1 = 1) ∧ (c21 = true → 0 = 0) ∧ (c21 = true → c21 = true → c21 = true) ∧ (c21 = true → c21 = true → c21 = true) ∧ (c21 = true → c21 = true → c21 = true)
  ∧ (c21 = true → fewC c20 = true) ∧ (D.and true c21 = true → c21 = true) ∧ (c22 = true → 1 = 1 ∧ 0 = 0 ∧ True ∧ sqP16 c2 c23 ∧ (c25 = true → false = true ∧
  True) ∧ (c25 = false → (∃ x, upP c26 x ∧ cs = cs ∧ ns = ns ∧ os = os ∧ fs = fs ∧ ls = ls ∧ ks = ks ∧ a = a ∧ b = b ∧ e1 = e1 ∧ e2 = e2 ∧ e3 = e3 ∧ e4 = e4 ∧ e5
  = e5 ∧ e6 = e6 ∧ which = which ∧ c2 = c2 ∧ c16 = c16 ∧ true = true ∧ c9 = c9 ∧ c12 = c12 ∧ 1 = 1 ∧ 0 = 0 ∧ 0 = 0 ∧ c23 = c23 ∧ (0 : Int) = x ∧ cs = cs ∧ ns =
  ns ∧ os = os ∧ fs = fs ∧ c19 = c19 ∧ ks = ks ∧ c21 = c21 ∧ c21 = c21 ∧ c22 = c22 ∧ cs = cs ∧ ns = ns ∧ os = os ∧ fs = fs ∧ c19 = c19 ∧ ks = ks ∧ a = a ∧ b = b
  ∧ c23 = c23 ∧ cs = cs ∧ ns = ns ∧ os = os ∧ fs = fs ∧ ls = ls ∧ ks = ks ∧ c23 = c23 ∧ c24 = c24 ∧ c25 = c25 ∧ cs = cs ∧ ns = ns ∧ os = os ∧ fs = fs ∧ c19 = c19
  ∧ ks = ks ∧ True) ∧ ∀ (x : Int),
 let c41 := D.get c9 (D.nat x) (D.nil Int);
 let c42 := D.ilen c41;
 let c43 := D.get c23 (D.nat x) (D.nil Int);
 let c44 := D.add x (1 : Int); upP c26 x → (D.lt x c27 = true → (∃ x_3, upP c26 x_3 ∧ cs = cs ∧ ns = ns ∧ os = os ∧ fs = fs ∧ ls = ls ∧ ks = ks ∧ a = a ∧ b = b ∧
  e1 = e1 ∧ e2 = e2 ∧ e3 = e3 ∧ e4 = e4 ∧ e5 = e5 ∧ e6 = e6 ∧ which = which ∧ c2 = c2 ∧ c16 = c16 ∧ true = true ∧ c9 = c9 ∧ c12 = c12 ∧ 1 = 1 ∧ 0 = 0 ∧ 0 = 0 ∧
  c23 = c23 ∧ x = x ∧ (0 : Int) = x_3 ∧ cs = cs ∧ ns = ns ∧ os = os ∧ fs = fs ∧ c19 = c19 ∧ ks = ks ∧ c21 = c21 ∧ c21 = c21 ∧ c22 = c22 ∧ cs = cs ∧ ns = ns ∧ os
  = os ∧ fs = fs ∧ c19 = c19 ∧ ks = ks ∧ a = a ∧ b = b ∧ c23 = c23 ∧ cs = cs ∧ ns = ns ∧ os = os ∧ fs = fs ∧ ls = ls ∧ ks = ks ∧ c23 = c23 ∧ c24 = c24 ∧ c25 =
  c25 ∧ x = x ∧ c9 = c9 ∧ c27 = c27 ∧ D.lt x c27 = D.lt x c27 ∧ cs = cs ∧ ns = ns ∧ os = os ∧ fs = fs ∧ c19 = c19 ∧ ks = ks ∧ True) ∧ ∀ (x_3 : Int),
 let c45 := D.get c41 (D.nat x_3) (0 : Int);
 let c46 := D.ge c45 (0 : Int);
 let c47 := D.get c43 (D.nat x_3) (0 : Int);
 let c48 := D.lt c47 (0 : Int);
 let c49 := D.cnd c46 (D.cnd c48 true (D.gt c47 c45)) false;
 let c50 := D.add x_3 (1 : Int); upP c26 x_3 → (D.lt x_3 c27 = true → D.ile (0 : Int) x ∧ D.ilt x c27 ∧ D.ile (0 : Int) x_3 ∧ D.ilt x_3 c42 ∧ (c46 = true → c46 =
  true → c46 = true) ∧ (c46 = true → c46 = true → c46 = true) ∧ (c46 = true → D.ile (0 : Int) x) ∧ (c46 = true → D.ilt x (D.ilen c23)) ∧ (c46 = true → c46 = true
  → c46 = true) ∧ (c46 = true → c46 = true → c46 = true) ∧ (c46 = true → c46 = true → c46 = true) ∧ (c46 = true → D.ile (0 : Int) x_3) ∧ (c46 = true → D.ilt x_3
  (D.ilen c43)) ∧ (c46 = true → c46 = true → c46 = true) ∧ (c46 = true → c46 = true → c46 = true) ∧ (c46 = true → c46 = true → c46 = true) ∧ (D.and c46 (D.not
  c48) = true → D.and c46 (D.not c48) = true → D.and c46 (D.not c48) = true) ∧ (D.and c46 (D.not c48) = true → D.and c46 (D.not c48) = true → D.and c46 (D.not
  c48) = true) ∧ (D.and c46 (D.not c48) = true → D.ile (0 : Int) x) ∧ (D.and c46 (D.not c48) = true → D.ilt x (D.ilen c23)) ∧ (D.and c46 (D.not c48) = true →
  D.and c46 (D.not c48) = true → D.and c46 (D.not c48) = true) ∧ (D.and c46 (D.not c48) = true → D.and c46 (D.not c48) = true → D.and c46 (D.not c48) = true) ∧
  (D.and c46 (D.not c48) = true → D.and c46 (D.not c48) = true → D.and c46 (D.not c48) = true) ∧ (D.and c46 (D.not c48) = true → D.ile (0 : Int) x_3) ∧ (D.and
  c46 (D.not c48) = true → D.ilt x_3 (D.ilen c43)) ∧ (D.and c46 (D.not c48) = true → D.and c46 (D.not c48) = true → D.and c46 (D.not c48) = true) ∧ (D.and c46
  (D.not c48) = true → D.and c46 (D.not c48) = true → D.and c46 (D.not c48) = true) ∧ (D.and c46 (D.not c48) = true → D.and c46 (D.not c48) = true → D.and c46
  (D.not c48) = true) ∧ (D.and c46 (D.not c48) = true → D.ile (0 : Int) x) ∧ (D.and c46 (D.not c48) = true → D.ilt x c27) ∧ (D.and c46 (D.not c48) = true → D.and
  c46 (D.not c48) = true → D.and c46 (D.not c48) = true) ∧ (D.and c46 (D.not c48) = true → D.and c46 (D.not c48) = true → D.and c46 (D.not c48) = true) ∧ (D.and
  c46 (D.not c48) = true → D.and c46 (D.not c48) = true → D.and c46 (D.not c48) = true) ∧ (D.and c46 (D.not c48) = true → D.ile (0 : Int) x_3) ∧ (D.and c46
  (D.not c48) = true → D.ilt x_3 c42) ∧ (D.and c46 (D.not c48) = true → D.and c46 (D.not c48) = true → D.and c46 (D.not c48) = true) ∧ (D.and c46 (D.not c48) =
  true → D.and c46 (D.not c48) = true → D.and c46 (D.not c48) = true) ∧ (D.and c46 (D.not c48) = true → D.and c46 (D.not c48) = true → D.and c46 (D.not c48) =
  true) ∧ (c46 = true → c46 = true → c46 = true) ∧ (c46 = true → D.and c46 (D.not c48) = true → D.and c46 (D.not c48) = true) ∧ (D.and true c46 = true → c46 =
  true) ∧ (c49 = true → false = true ∧ True) ∧ (c49 = false → inR IntKind.i64 c50 ∧ ∃ y, upP c26 y ∧ (cs = cs ∧ ns = ns ∧ os = os ∧ fs = fs ∧ ls = ls ∧ ks = ks ∧
  a = a ∧ b = b ∧ e1 = e1 ∧ e2 = e2 ∧ e3 = e3 ∧ e4 = e4 ∧ e5 = e5 ∧ e6 = e6 ∧ which = which ∧ c2 = c2 ∧ c16 = c16 ∧ true = true ∧ c9 = c9 ∧ c12 = c12 ∧ 1 = 1 ∧ 0
  = 0 ∧ 0 = 0 ∧ c23 = c23 ∧ x = x ∧ c50 = y ∧ cs = cs ∧ ns = ns ∧ os = os ∧ fs = fs ∧ c19 = c19 ∧ ks = ks ∧ c21 = c21 ∧ c21 = c21 ∧ c22 = c22 ∧ cs = cs ∧ ns = ns
  ∧ os = os ∧ fs = fs ∧ c19 = c19 ∧ ks = ks ∧ a = a ∧ b = b ∧ c23 = c23 ∧ cs = cs ∧ ns = ns ∧ os = os ∧ fs = fs ∧ ls = ls ∧ ks = ks ∧ c23 = c23 ∧ c24 = c24 ∧ c25
  = c25 ∧ x = x ∧ c9 = c9 ∧ c27 = c27 ∧ D.lt x c27 = D.lt x c27 ∧ cs = cs ∧ ns = ns ∧ os = os ∧ fs = fs ∧ c19 = c19 ∧ ks = ks ∧ True) ∧ D.nlt (D.nat (D.sub c26
  y)) (D.nat (D.sub c26 x_3)))) ∧ (D.lt x_3 c27 = false → inR IntKind.i64 c44 ∧ ∃ y, upP c26 y ∧ (cs = cs ∧ ns = ns ∧ os = os ∧ fs = fs ∧ ls = ls ∧ ks = ks ∧ a =
  a ∧ b = b ∧ e1 = e1 ∧ e2 = e2 ∧ e3 = e3 ∧ e4 = e4 ∧ e5 = e5 ∧ e6 = e6 ∧ which = which ∧ c2 = c2 ∧ c16 = c16 ∧ true = true ∧ c9 = c9 ∧ c12 = c12 ∧ 1 = 1 ∧ 0 = 0
  ∧ 0 = 0 ∧ c23 = c23 ∧ c44 = y ∧ cs = cs ∧ ns = ns ∧ os = os ∧ fs = fs ∧ c19 = c19 ∧ ks = ks ∧ c21 = c21 ∧ c21 = c21 ∧ c22 = c22 ∧ cs = cs ∧ ns = ns ∧ os = os ∧
  fs = fs ∧ c19 = c19 ∧ ks = ks ∧ a = a ∧ b = b ∧ c23 = c23 ∧ cs = cs ∧ ns = ns ∧ os = os ∧ fs = fs ∧ ls = ls ∧ ks = ks ∧ c23 = c23 ∧ c24 = c24 ∧ c25 = c25 ∧ cs
  = cs ∧ ns = ns ∧ os = os ∧ fs = fs ∧ c19 = c19 ∧ ks = ks ∧ True) ∧ D.nlt (D.nat (D.sub c26 y)) (D.nat (D.sub c26 x)))) ∧ (D.lt x c27 = false → cs = cs ∧ ns =
  ns ∧ os = os ∧ fs = fs ∧ ls = ls ∧ ks = ks ∧ a = a ∧ b = b ∧ e1 = e1 ∧ e2 = e2 ∧ e3 = e3 ∧ e4 = e4 ∧ e5 = e5 ∧ e6 = e6 ∧ which = which ∧ c2 = c2 ∧ c16 = c16 ∧
  true = true ∧ c9 = c9 ∧ c12 = c12 ∧ 1 = 1 ∧ 0 = 0 ∧ 0 = 0 ∧ cs = cs ∧ ns = ns ∧ os = os ∧ fs = fs ∧ c19 = c19 ∧ ks = ks ∧ (c28 = true → true = true ∧ True) ∧
  (c28 = false → inR IntKind.i64 which ∧ D.ine c5 (0 : Int) ∧ (∃ x, noL c12 c26 c29 x ∧ cs = cs ∧ ns = ns ∧ os = os ∧ fs = fs ∧ ls = ls ∧ ks = ks ∧ a = a ∧ b = b
  ∧ e1 = e1 ∧ e2 = e2 ∧ e3 = e3 ∧ e4 = e4 ∧ e5 = e5 ∧ e6 = e6 ∧ which = which ∧ c2 = c2 ∧ c16 = c16 ∧ true = true ∧ c9 = c9 ∧ c12 = c12 ∧ 1 = 1 ∧ 0 = 0 ∧ 0 = 0 ∧
  c29 = c29 ∧ (0 : Int) = x ∧ c1 = c1 ∧ ls = ls ∧ c5 = c5 ∧ c28 = c28 ∧ which = which ∧ which = which ∧ c1 = c1 ∧ ls = ls ∧ c5 = c5 ∧ c29 = c29 ∧ cs = cs ∧ ns =
  ns ∧ os = os ∧ fs = fs ∧ c19 = c19 ∧ ks = ks ∧ True) ∧ ∀ (x : Int),
 let c51 := D.get c12 (D.nat x) (D.nil Int);
 let c52 := D.add x (1 : Int); noL c12 c26 c29 x → (D.lt x c30 = true → (∃ x_4, noL2 c12 c26 c29 x x_4 ∧ cs = cs ∧ ns = ns ∧ os = os ∧ fs = fs ∧ ls = ls ∧ ks =
  ks ∧ a = a ∧ b = b ∧ e1 = e1 ∧ e2 = e2 ∧ e3 = e3 ∧ e4 = e4 ∧ e5 = e5 ∧ e6 = e6 ∧ which = which ∧ c2 = c2 ∧ c16 = c16 ∧ true = true ∧ c9 = c9 ∧ c12 = c12 ∧ 1 =
  1 ∧ 0 = 0 ∧ 0 = 0 ∧ c29 = c29 ∧ x = x ∧ (0 : Int) = x_4 ∧ c1 = c1 ∧ ls = ls ∧ c5 = c5 ∧ c28 = c28 ∧ which = which ∧ which = which ∧ c1 = c1 ∧ ls = ls ∧ c5 = c5
  ∧ c29 = c29 ∧ x = x ∧ c12 = c12 ∧ c30 = c30 ∧ D.lt x c30 = D.lt x c30 ∧ cs = cs ∧ ns = ns ∧ os = os ∧ fs = fs ∧ c19 = c19 ∧ ks = ks ∧ True) ∧ ∀ (x_4 : Int),
 let c53 := D.eq (D.get c51 (D.nat x_4) (0 : Int)) c29;
 let c54 := D.add x_4 (1 : Int); noL2 c12 c26 c29 x x_4 → (D.lt x_4 c30 = true → D.ile (0 : Int) x ∧ D.ilt x c30 ∧ D.ile (0 : Int) x_4 ∧ D.ilt x_4 (D.ilen c51) ∧
  (c53 = true → true = true ∧ True) ∧ (c53 = false → inR IntKind.i64 c54 ∧ ∃ y, noL2 c12 c26 c29 x y ∧ (cs = cs ∧ ns = ns ∧ os = os ∧ fs = fs ∧ ls = ls ∧ ks = ks
  ∧ a = a ∧ b = b ∧ e1 = e1 ∧ e2 = e2 ∧ e3 = e3 ∧ e4 = e4 ∧ e5 = e5 ∧ e6 = e6 ∧ which = which ∧ c2 = c2 ∧ c16 = c16 ∧ true = true ∧ c9 = c9 ∧ c12 = c12 ∧ 1 = 1 ∧
  0 = 0 ∧ 0 = 0 ∧ c29 = c29 ∧ x = x ∧ c54 = y ∧ c1 = c1 ∧ ls = ls ∧ c5 = c5 ∧ c28 = c28 ∧ which = which ∧ which = which ∧ c1 = c1 ∧ ls = ls ∧ c5 = c5 ∧ c29 = c29
  ∧ x = x ∧ c12 = c12 ∧ c30 = c30 ∧ D.lt x c30 = D.lt x c30 ∧ cs = cs ∧ ns = ns ∧ os = os ∧ fs = fs ∧ c19 = c19 ∧ ks = ks ∧ True) ∧ D.nlt (D.nat (D.sub c26 y))
  (D.nat (D.sub c26 x_4)))) ∧ (D.lt x_4 c30 = false → inR IntKind.i64 c52 ∧ ∃ y, noL c12 c26 c29 y ∧ (cs = cs ∧ ns = ns ∧ os = os ∧ fs = fs ∧ ls = ls ∧ ks = ks ∧
  a = a ∧ b = b ∧ e1 = e1 ∧ e2 = e2 ∧ e3 = e3 ∧ e4 = e4 ∧ e5 = e5 ∧ e6 = e6 ∧ which = which ∧ c2 = c2 ∧ c16 = c16 ∧ true = true ∧ c9 = c9 ∧ c12 = c12 ∧ 1 = 1 ∧ 0
  = 0 ∧ 0 = 0 ∧ c29 = c29 ∧ c52 = y ∧ c1 = c1 ∧ ls = ls ∧ c5 = c5 ∧ c28 = c28 ∧ which = which ∧ which = which ∧ c1 = c1 ∧ ls = ls ∧ c5 = c5 ∧ c29 = c29 ∧ cs = cs
  ∧ ns = ns ∧ os = os ∧ fs = fs ∧ c19 = c19 ∧ ks = ks ∧ True) ∧ D.nlt (D.nat (D.sub c26 y)) (D.nat (D.sub c26 x)))) ∧ (D.lt x c30 = false → 1 = 1 ∧ 0 = 0 ∧ D.ile
  (0 : Int) (0 : Int) ∧ D.ile (0 : Int) c29 ∧ D.ile c29 c5 ∧ D.len (D.nil (ByteArray × Int × Int × Int × Int × Int)) = 0 ∧ D.nle (D.nmul c32 (56))
  (140737488355328) ∧ D.nle c32 (9223372036854775807) ∧ inR IntKind.i64 c33 ∧ D.ile (0 : Int) c33 ∧ D.ile c33 c5 ∧ D.len c34 = c32 ∧ D.nle (D.nmul c36 (56))
  (140737488355328) ∧ D.nle c36 (9223372036854775807) ∧ 1 = 1 ∧ 1 = 1 ∧ 0 = 0 ∧ D.len c37 = c36 ∧ cs = cs ∧ ns = ns ∧ os = os ∧ fs = fs ∧ ls = ls ∧ ks = ks ∧ a =
  a ∧ b = b ∧ e1 = e1 ∧ e2 = e2 ∧ e3 = e3 ∧ e4 = e4 ∧ e5 = e5 ∧ e6 = e6 ∧ which = which ∧ c2 = c2 ∧ c16 = c16 ∧ true = true ∧ c9 = c9 ∧ c12 = c12 ∧ c29 = c29 ∧ 1
  = 1 ∧ 0 = 0 ∧ 0 = 0 ∧ cs = cs ∧ ns = ns ∧ os = os ∧ fs = fs ∧ c19 = c19 ∧ ks = ks ∧ cs = cs ∧ ns = ns ∧ os = os ∧ fs = fs ∧ D.len c37 = c36 ∧ c37 = c37 ∧ ks =
  ks ∧ (true = true → 1 = 1) ∧ (true = true → 0 = 0) ∧ (true = true → true = true → true = true) ∧ (true = true → true = true → true = true) ∧ (true = true →
  true = true → true = true) ∧ (true = true → fewC c38 = true) ∧ (true = true → true = true → true = true) ∧ (true = true → true = true → true = true) ∧ (D.and
  true (D.not c39) = true → 1 = 1) ∧ (D.and true (D.not c39) = true → 0 = 0) ∧ (D.and true (D.not c39) = true → D.and true (D.not c39) = true → D.and true (D.not
  c39) = true) ∧ (D.and true (D.not c39) = true → D.and true (D.not c39) = true → D.and true (D.not c39) = true) ∧ (D.and true (D.not c39) = true → D.and true
  (D.not c39) = true → D.and true (D.not c39) = true) ∧ (D.and true (D.not c39) = true → True) ∧ (D.and true (D.not c39) = true → D.and true (D.not c39) = true →
  D.and true (D.not c39) = true) ∧ (D.and true (D.not c39) = true → D.and true (D.not c39) = true → D.and true (D.not c39) = true) ∧ (D.and true (D.not c39) =
  true → mild c40) ∧ (true = true → true = true → true = true) ∧ (true = true → D.and true (D.not c39) = true → D.and true (D.not c39) = true) ∧ (D.and true true
  = true → true = true) ∧ D.cnd true (D.cnd c39 true (sameR c40 c9)) false = true ∧ True))))) ∧ (c22 = false → cs = cs ∧ ns = ns ∧ os = os ∧ fs = fs ∧ ls = ls ∧
  ks = ks ∧ a = a ∧ b = b ∧ e1 = e1 ∧ e2 = e2 ∧ e3 = e3 ∧ e4 = e4 ∧ e5 = e5 ∧ e6 = e6 ∧ which = which ∧ c2 = c2 ∧ c16 = c16 ∧ false = false ∧ true = true ∧ c9 =
  c9 ∧ c12 = c12 ∧ 1 = 1 ∧ 0 = 0 ∧ 0 = 0 ∧ cs = cs ∧ ns = ns ∧ os = os ∧ fs = fs ∧ c19 = c19 ∧ ks = ks ∧ (c28 = true → true = true ∧ True) ∧ (c28 = false → inR
  IntKind.i64 which ∧ D.ine c5 (0 : Int) ∧ (∃ x, noL c12 c26 c29 x ∧ cs = cs ∧ ns = ns ∧ os = os ∧ fs = fs ∧ ls = ls ∧ ks = ks ∧ a = a ∧ b = b ∧ e1 = e1 ∧ e2 =
  e2 ∧ e3 = e3 ∧ e4 = e4 ∧ e5 = e5 ∧ e6 = e6 ∧ which = which ∧ c2 = c2 ∧ c16 = c16 ∧ true = true ∧ c9 = c9 ∧ c12 = c12 ∧ 1 = 1 ∧ 0 = 0 ∧ 0 = 0 ∧ c29 = c29 ∧ (0 :
  Int) = x ∧ c1 = c1 ∧ ls = ls ∧ c5 = c5 ∧ c28 = c28 ∧ which = which ∧ which = which ∧ c1 = c1 ∧ ls = ls ∧ c5 = c5 ∧ c29 = c29 ∧ cs = cs ∧ ns = ns ∧ os = os ∧ fs
  = fs ∧ c19 = c19 ∧ ks = ks ∧ True) ∧ ∀ (x : Int),
 let c55 := D.get c12 (D.nat x) (D.nil Int);
 let c56 := D.add x (1 : Int); noL c12 c26 c29 x → (D.lt x c30 = true → (∃ x_3, noL2 c12 c26 c29 x x_3 ∧ cs = cs ∧ ns = ns ∧ os = os ∧ fs = fs ∧ ls = ls ∧ ks =
  ks ∧ a = a ∧ b = b ∧ e1 = e1 ∧ e2 = e2 ∧ e3 = e3 ∧ e4 = e4 ∧ e5 = e5 ∧ e6 = e6 ∧ which = which ∧ c2 = c2 ∧ c16 = c16 ∧ true = true ∧ c9 = c9 ∧ c12 = c12 ∧ 1 =
  1 ∧ 0 = 0 ∧ 0 = 0 ∧ c29 = c29 ∧ x = x ∧ (0 : Int) = x_3 ∧ c1 = c1 ∧ ls = ls ∧ c5 = c5 ∧ c28 = c28 ∧ which = which ∧ which = which ∧ c1 = c1 ∧ ls = ls ∧ c5 = c5
  ∧ c29 = c29 ∧ x = x ∧ c12 = c12 ∧ c30 = c30 ∧ D.lt x c30 = D.lt x c30 ∧ cs = cs ∧ ns = ns ∧ os = os ∧ fs = fs ∧ c19 = c19 ∧ ks = ks ∧ True) ∧ ∀ (x_3 : Int),
 let c57 := D.eq (D.get c55 (D.nat x_3) (0 : Int)) c29;
 let c58 := D.add x_3 (1 : Int); noL2 c12 c26 c29 x x_3 → (D.lt x_3 c30 = true → D.ile (0 : Int) x ∧ D.ilt x c30 ∧ D.ile (0 : Int) x_3 ∧ D.ilt x_3 (D.ilen c55) ∧
  (c57 = true → true = true ∧ True) ∧ (c57 = false → inR IntKind.i64 c58 ∧ ∃ y, noL2 c12 c26 c29 x y ∧ (cs = cs ∧ ns = ns ∧ os = os ∧ fs = fs ∧ ls = ls ∧ ks = ks
  ∧ a = a ∧ b = b ∧ e1 = e1 ∧ e2 = e2 ∧ e3 = e3 ∧ e4 = e4 ∧ e5 = e5 ∧ e6 = e6 ∧ which = which ∧ c2 = c2 ∧ c16 = c16 ∧ true = true ∧ c9 = c9 ∧ c12 = c12 ∧ 1 = 1 ∧
  0 = 0 ∧ 0 = 0 ∧ c29 = c29 ∧ x = x ∧ c58 = y ∧ c1 = c1 ∧ ls = ls ∧ c5 = c5 ∧ c28 = c28 ∧ which = which ∧ which = which ∧ c1 = c1 ∧ ls = ls ∧ c5 = c5 ∧ c29 = c29
  ∧ x = x ∧ c12 = c12 ∧ c30 = c30 ∧ D.lt x c30 = D.lt x c30 ∧ cs = cs ∧ ns = ns ∧ os = os ∧ fs = fs ∧ c19 = c19 ∧ ks = ks ∧ True) ∧ D.nlt (D.nat (D.sub c26 y))
  (D.nat (D.sub c26 x_3)))) ∧ (D.lt x_3 c30 = false → inR IntKind.i64 c56 ∧ ∃ y, noL c12 c26 c29 y ∧ (cs = cs ∧ ns = ns ∧ os = os ∧ fs = fs ∧ ls = ls ∧ ks = ks ∧
  a = a ∧ b = b ∧ e1 = e1 ∧ e2 = e2 ∧ e3 = e3 ∧ e4 = e4 ∧ e5 = e5 ∧ e6 = e6 ∧ which = which ∧ c2 = c2 ∧ c16 = c16 ∧ true = true ∧ c9 = c9 ∧ c12 = c12 ∧ 1 = 1 ∧ 0
  = 0 ∧ 0 = 0 ∧ c29 = c29 ∧ c56 = y ∧ c1 = c1 ∧ ls = ls ∧ c5 = c5 ∧ c28 = c28 ∧ which = which ∧ which = which ∧ c1 = c1 ∧ ls = ls ∧ c5 = c5 ∧ c29 = c29 ∧ cs = cs
  ∧ ns = ns ∧ os = os ∧ fs = fs ∧ c19 = c19 ∧ ks = ks ∧ True) ∧ D.nlt (D.nat (D.sub c26 y)) (D.nat (D.sub c26 x)))) ∧ (D.lt x c30 = false → 1 = 1 ∧ 0 = 0 ∧ D.ile
  (0 : Int) (0 : Int) ∧ D.ile (0 : Int) c29 ∧ D.ile c29 c5 ∧ D.len (D.nil (ByteArray × Int × Int × Int × Int × Int)) = 0 ∧ D.nle (D.nmul c32 (56))
  (140737488355328) ∧ D.nle c32 (9223372036854775807) ∧ inR IntKind.i64 c33 ∧ D.ile (0 : Int) c33 ∧ D.ile c33 c5 ∧ D.len c34 = c32 ∧ D.nle (D.nmul c36 (56))
  (140737488355328) ∧ D.nle c36 (9223372036854775807) ∧ 1 = 1 ∧ 1 = 1 ∧ 0 = 0 ∧ D.len c37 = c36 ∧ cs = cs ∧ ns = ns ∧ os = os ∧ fs = fs ∧ ls = ls ∧ ks = ks ∧ a =
  a ∧ b = b ∧ e1 = e1 ∧ e2 = e2 ∧ e3 = e3 ∧ e4 = e4 ∧ e5 = e5 ∧ e6 = e6 ∧ which = which ∧ c2 = c2 ∧ c16 = c16 ∧ true = true ∧ c9 = c9 ∧ c12 = c12 ∧ c29 = c29 ∧ 1
  = 1 ∧ 0 = 0 ∧ 0 = 0 ∧ cs = cs ∧ ns = ns ∧ os = os ∧ fs = fs ∧ c19 = c19 ∧ ks = ks ∧ cs = cs ∧ ns = ns ∧ os = os ∧ fs = fs ∧ D.len c37 = c36 ∧ c37 = c37 ∧ ks =
  ks ∧ (true = true → 1 = 1) ∧ (true = true → 0 = 0) ∧ (true = true → true = true → true = true) ∧ (true = true → true = true → true = true) ∧ (true = true →
  true = true → true = true) ∧ (true = true → fewC c38 = true) ∧ (true = true → true = true → true = true) ∧ (true = true → true = true → true = true) ∧ (D.and
  true (D.not c39) = true → 1 = 1) ∧ (D.and true (D.not c39) = true → 0 = 0) ∧ (D.and true (D.not c39) = true → D.and true (D.not c39) = true → D.and true (D.not
  c39) = true) ∧ (D.and true (D.not c39) = true → D.and true (D.not c39) = true → D.and true (D.not c39) = true) ∧ (D.and true (D.not c39) = true → D.and true
  (D.not c39) = true → D.and true (D.not c39) = true) ∧ (D.and true (D.not c39) = true → True) ∧ (D.and true (D.not c39) = true → D.and true (D.not c39) = true →
  D.and true (D.not c39) = true) ∧ (D.and true (D.not c39) = true → D.and true (D.not c39) = true → D.and true (D.not c39) = true) ∧ (D.and true (D.not c39) =
  true → mild c40) ∧ (true = true → true = true → true = true) ∧ (true = true → D.and true (D.not c39) = true → D.and true (D.not c39) = true) ∧ (D.and true true
  = true → true = true) ∧ D.cnd true (D.cnd c39 true (sameR c40 c9)) false = true ∧ True))))))) :
    evF (mkc KQ6) (lrlinesA (cs, ns, os, fs, ls, ks) a b) 9 [net cs ns os fs ls ks, .dat I a, .dat I b, .agg [.dat .str e1, .dat (.int .i64) e2, .dat (.int .i64) e3, .dat (.int .i64) e4, .dat (.int .i64) e5, .dat (.int .i64) e6], .dat U8 which] [] ⟨u8P which, .dat .bool true, []⟩ := of_eq (by kernel_rfl) hvc

theorem leave_congr {n n' : Net} {i j : Int} (hl : lineOf n' j = lineOf n i) (hc : calF n' j = calF n i) (d : Int) : leaveF n' j d = leaveF n i d := by unfold leaveF; rw [hl, hc]
theorem first_congr {n n' : Net} {i j : Int} (hl : lineOf n' j = lineOf n i) (hc : calF n' j = calF n i) (t : Int) : firstO n' j t = firstO n i t := by
  unfold firstO todayL
  rw [hc, show leaveF n' j = leaveF n i from funext (leave_congr hl hc)]
theorem waitGo_congr {n n' : Net} {i j b : Int} (hl : lineOf n' j = lineOf n i) (hc : calF n' j = calF n i) : ∀ (k : Nat) (t m : Int), waitGo n' j b k t m = waitGo n i b k t m
  | 0, _, _ => rfl
  | k + 1, t, m => by
    rw [waitGo, waitGo, first_congr hl hc]
    have : (fun u => waitGo n' j b k (u + 1) (maxF m (u - t))) = fun u => waitGo n i b k (u + 1) (maxF m (u - t)) := funext fun u => waitGo_congr hl hc k _ _
    rw [this]
/-- A line's cost depends on the line, its offices and its calendar alone. -/
theorem cost_congr (cs : List (Int × List Bool × List Int)) (ns os : List ByteArray) (fs : List Off) (ls : List Line) (ks : List Cla) (ls' : List Line) {a b i j : Int} (h : ruseF (cs, ns, os, fs, ls, ks) a b = true) (h' : ruseF (cs, ns, os, fs, ls', ks) a b = true) (i0 : 0 ≤ i) (i1 : i < ls.length) (j0 : 0 ≤ j) (j1 : j < ls'.length)
    (hl : lineOf (cs, ns, os, fs, ls', ks) j = lineOf (cs, ns, os, fs, ls, ks) i) : costF (cs, ns, os, fs, ls', ks) a b j = costF (cs, ns, os, fs, ls, ks) a b i := by
  have hc : calF (cs, ns, os, fs, ls', ks) j = calF (cs, ns, os, fs, ls, ks) i := by unfold calF; rw [hl]
  have hw : waitO (cs, ns, os, fs, ls', ks) j a b = waitO (cs, ns, os, fs, ls, ks) i a b := waitGo_congr hl hc _ _ _
  have ho : offOf (cs, ns, os, fs, ls', ks) (lineOf (cs, ns, os, fs, ls, ks) i).2.2.1 = offOf (cs, ns, os, fs, ls, ks) (lineOf (cs, ns, os, fs, ls, ks) i).2.2.1 := rfl
  unfold costF
  rw [hl, ho]
  rcases wait_le cs ns os fs ls ks h i0 i1 with ⟨e1, e2, _⟩ | ⟨e1, e2⟩ <;> rcases wait_le cs ns os fs ls' ks h' j0 j1 with ⟨f1, f2, _⟩ | ⟨f1, f2⟩
  · rw [e1, f1, if_pos rfl, if_pos rfl]
    rw [e2, f2] at hw
    rw [Option.some.inj hw]
  · rw [e2, f2] at hw; cases hw
  · rw [e2, f2] at hw; cases hw
  · rw [e1, f1, if_neg (by omega), if_neg (by omega)]
theorem line_get (cs : List (Int × List Bool × List Int)) (ns os : List ByteArray) (fs : List Off) (ls : List Line) (ks : List Cla) {k : Nat} {l : Line} (h : ls[k]? = some l) : lineOf (cs, ns, os, fs, ls, ks) k = l := by
  unfold lineOf
  show ls.getD (k : Int).toNat _ = l
  rw [Int.toNat_natCast, List.getD_eq_getElem?_getD, h]; rfl
theorem more_le (cs : List (Int × List Bool × List Int)) (ns os : List ByteArray) (fs : List Off) (ls : List Line) (ks : List Cla) (x : Line) {a b : Int} (h : ruseF (cs, ns, os, fs, ls, ks) a b = true) (h' : ruseF (cs, ns, os, fs, ls ++ [x], ks) a b = true) {i j : Int} (i0 : 0 ≤ i) (i1 : i < fs.length) (j0 : 0 ≤ j) (j1 : j < fs.length)
    (hB : 0 ≤ at2 (rboundsF (cs, ns, os, fs, ls, ks) a b) i j) : 0 ≤ at2 (rboundsF (cs, ns, os, fs, ls ++ [x], ks) a b) i j ∧ at2 (rboundsF (cs, ns, os, fs, ls ++ [x], ks) a b) i j ≤ at2 (rboundsF (cs, ns, os, fs, ls, ks) a b) i j := by
  rw [rbnds_eq cs ns os fs ls ks h] at hB ⊢
  rw [rbnds_eq cs ns os fs (ls ++ [x]) ks h']
  refine (bounds_ok cs ns os fs ls ks (costs_ok cs ns os fs ls ks h)).1.le (cost_pos cs ns os fs ls ks (costs_ok cs ns os fs ls ks h)) (bounds_ok cs ns os fs (ls ++ [x]) ks (costs_ok cs ns os fs (ls ++ [x]) ks h')).1 (fun k l hk hc => ?_) i0 i1 j0 j1 hB
  have hlt : k < ls.length := (List.getElem?_eq_some_iff.1 hk).1
  have hlt' : k < (ls ++ [x]).length := by rw [List.length_append]; omega
  have hk' : (ls ++ [x])[k]? = some l := by rw [List.getElem?_append_left hlt]; exact hk
  have e : (costsF (cs, ns, os, fs, ls ++ [x], ks) a b).getD k 0 = (costsF (cs, ns, os, fs, ls, ks) a b).getD k 0 := by
    have q1 := costsF_at cs ns os fs ls ks a b (i := k) (by omega) (by omega)
    have q2 := costsF_at cs ns os fs (ls ++ [x]) ks a b (i := k) (by omega) (by omega)
    rw [Int.toNat_natCast] at q1 q2
    rw [q1, q2]
    exact cost_congr cs ns os fs ls ks (ls ++ [x]) h h' (by omega) (by omega) (by omega) (by omega) (by rw [line_get cs ns os fs ls ks hk, line_get cs ns os fs (ls ++ [x]) ks hk'])
  exact ⟨k, l, hk', by rw [e]; exact hc, rfl, rfl, by rw [e]; exact Int.le_refl _⟩
theorem best_some2 (cs : List (Int × List Bool × List Int)) (ns os : List ByteArray) (fs : List Off) (ls : List Line) (ks : List Cla) {a b o d : Int} (h : ruseF (cs, ns, os, fs, ls, ks) a b = true) (o0 : 0 ≤ o) (o1 : o < fs.length) (d0 : 0 ≤ d) (d1 : d < fs.length) (hne : o ≠ d) (hB : 0 ≤ at2 (boundsF (cs, ns, os, fs, ls, ks) (costsF (cs, ns, os, fs, ls, ks) a b)) o d) :
    ∃ i : Int, at2 (nextF (cs, ns, os, fs, ls, ks) (costsF (cs, ns, os, fs, ls, ks) a b)) o d = i ∧ 0 ≤ i ∧ i < ls.length ∧ (lineOf (cs, ns, os, fs, ls, ks) i).2.1 = o ∧ (costsF (cs, ns, os, fs, ls, ks) a b).getD i.toNat 0 ≠ noneI ∧ 0 < (costsF (cs, ns, os, fs, ls, ks) a b).getD i.toNat 0 ∧ 0 ≤ at2 (boundsF (cs, ns, os, fs, ls, ks) (costsF (cs, ns, os, fs, ls, ks) a b)) (lineOf (cs, ns, os, fs, ls, ks) i).2.2.1 d ∧ at2 (boundsF (cs, ns, os, fs, ls, ks) (costsF (cs, ns, os, fs, ls, ks) a b)) o d = (costsF (cs, ns, os, fs, ls, ks) a b).getD i.toNat 0 + at2 (boundsF (cs, ns, os, fs, ls, ks) (costsF (cs, ns, os, fs, ls, ks) a b)) (lineOf (cs, ns, os, fs, ls, ks) i).2.2.1 d := by
  have hc := costs_ok cs ns os fs ls ks h
  have hat : at2 (nextF (cs, ns, os, fs, ls, ks) (costsF (cs, ns, os, fs, ls, ks) a b)) o d = next2 (cs, ns, os, fs, ls, ks) (costsF (cs, ns, os, fs, ls, ks) a b) (boundsF (cs, ns, os, fs, ls, ks) (costsF (cs, ns, os, fs, ls, ks) a b)) o d := Mp.buildF_at _ _ o d o0 o1 d0 d1
  have hn : next2 (cs, ns, os, fs, ls, ks) (costsF (cs, ns, os, fs, ls, ks) a b) (boundsF (cs, ns, os, fs, ls, ks) (costsF (cs, ns, os, fs, ls, ks) a b)) o d = bestF (cs, ns, os, fs, ls, ks) (costsF (cs, ns, os, fs, ls, ks) a b) (boundsF (cs, ns, os, fs, ls, ks) (costsF (cs, ns, os, fs, ls, ks) a b)) o d := by
    unfold next2; rw [if_neg (fun q => q.elim hne (fun g => by have g : at2 (boundsF (cs, ns, os, fs, ls, ks) (costsF (cs, ns, os, fs, ls, ks) a b)) o d < 0 := g; omega))]
  rw [hat, hn]
  obtain ⟨k, l, k1, k2, k3, k4, k5⟩ := (bounds_ok cs ns os fs ls ks hc).1.from_ o d o0 o1 d0 d1 hne hB
  have hlt : k < ls.length := (List.getElem?_eq_some_iff.1 k1).1
  have el : ∀ j : Nat, ∀ l, ls[j]? = some l → lineOf (cs, ns, os, fs, ls, ks) j = l := fun j l hj => by
    unfold lineOf
    show ls.getD (j : Int).toNat _ = l
    rw [Int.toNat_natCast, List.getD_eq_getElem?_getD, hj]; rfl
  have hb : isBest (cs, ns, os, fs, ls, ks) (costsF (cs, ns, os, fs, ls, ks) a b) (boundsF (cs, ns, os, fs, ls, ks) (costsF (cs, ns, os, fs, ls, ks) a b)) o d k = true := isBest_iff.2 ⟨by rw [el k l k1]; exact k3, by rw [Int.toNat_natCast]; exact k2, by rw [el k l k1]; exact k4, by rw [Int.toNat_natCast, el k l k1]; exact k5.symm⟩
  unfold bestF
  cases hf : (List.range ls.length).find? (fun i : Nat => isBest (cs, ns, os, fs, ls, ks) (costsF (cs, ns, os, fs, ls, ks) a b) (boundsF (cs, ns, os, fs, ls, ks) (costsF (cs, ns, os, fs, ls, ks) a b)) o d i) with
  | none => exact (List.find?_eq_none.1 hf k (List.mem_range.2 hlt) hb).elim
  | some i =>
    have hi := List.mem_range.1 (List.mem_of_find?_eq_some hf)
    have hp : isBest (cs, ns, os, fs, ls, ks) (costsF (cs, ns, os, fs, ls, ks) a b) (boundsF (cs, ns, os, fs, ls, ks) (costsF (cs, ns, os, fs, ls, ks) a b)) o d i = true := List.find?_some (p := fun i : Nat => isBest (cs, ns, os, fs, ls, ks) (costsF (cs, ns, os, fs, ls, ks) a b) (boundsF (cs, ns, os, fs, ls, ks) (costsF (cs, ns, os, fs, ls, ks) a b)) o d i) hf
    obtain ⟨p1, p2, p3, p4⟩ := isBest_iff.1 hp
    have hc2 := hc.2.2 i (by omega) (by rw [hc.2.1]; show (i : Int) < ls.length; omega)
    refine ⟨i, ?_, by omega, by omega, p1, p2, ?_, p3, p4.symm⟩
    · rfl
    · rcases hc2 with g | g
      · exact (p2 g).elim
      · exact g.1
theorem less_get (ls : List Line) (l j : Nat) : (ls.take l ++ ls.drop (l + 1))[j]? = if j < l then ls[j]? else ls[j + 1]? := by
  rw [← List.eraseIdx_eq_take_drop_succ, List.getElem?_eraseIdx]
theorem less_same (cs : List (Int × List Bool × List Int)) (ns os : List ByteArray) (fs : List Off) (ls : List Line) (ks : List Cla) {a b l : Int} (l0 : 0 ≤ l) (l1 : l < ls.length) (h : ruseF (cs, ns, os, fs, ls, ks) a b = true) (h' : ruseF (cs, ns, os, fs, ls.take l.toNat ++ ls.drop (l.toNat + 1), ks) a b = true)
    (hn : ∀ i j : Int, 0 ≤ i → i < fs.length → 0 ≤ j → j < fs.length → at2 (rnextF (cs, ns, os, fs, ls, ks) a b) i j ≠ l) : ∀ i j : Int, 0 ≤ i → i < fs.length → 0 ≤ j → j < fs.length → at2 (rboundsF (cs, ns, os, fs, ls.take l.toNat ++ ls.drop (l.toNat + 1), ks) a b) i j = at2 (rboundsF (cs, ns, os, fs, ls, ks) a b) i j := by
  have hg := less_get ls l.toNat
  have hlen : (ls.take l.toNat ++ ls.drop (l.toNat + 1)).length + 1 = ls.length := by
    rw [List.length_append, List.length_take, List.length_drop]; omega
  generalize ls.take l.toNat ++ ls.drop (l.toNat + 1) = ls' at *
  rw [rbnds_eq cs ns os fs ls ks h, rbnds_eq cs ns os fs ls' ks h']
  rw [rnext_eq cs ns os fs ls ks h] at hn
  have H := (bounds_ok cs ns os fs ls ks (costs_ok cs ns os fs ls ks h)).1
  have H' := (bounds_ok cs ns os fs ls' ks (costs_ok cs ns os fs ls' ks h')).1
  have P' := cost_pos cs ns os fs ls' ks (costs_ok cs ns os fs ls' ks h')
  have ce : ∀ j k : Nat, j < ls'.length → k < ls.length → ls'[j]? = ls[k]? → (costsF (cs, ns, os, fs, ls', ks) a b).getD j 0 = (costsF (cs, ns, os, fs, ls, ks) a b).getD k 0 := fun j k hj hk he => by
    have q1 := costsF_at cs ns os fs ls ks a b (i := k) (by omega) (by omega)
    have q2 := costsF_at cs ns os fs ls' ks a b (i := j) (by omega) (by omega)
    rw [Int.toNat_natCast] at q1 q2
    rw [q1, q2]
    have g := List.getElem?_eq_getElem hk
    exact cost_congr cs ns os fs ls ks ls' h h' (by omega) (by omega) (by omega) (by omega) (by rw [line_get cs ns os fs ls ks g, line_get cs ns os fs ls' ks (he.trans g)])
  have Hn : BndOk fs.length ls' (costsF (cs, ns, os, fs, ls', ks) a b) (fun o d => at2 (boundsF (cs, ns, os, fs, ls, ks) (costsF (cs, ns, os, fs, ls, ks) a b)) o d) := by
    refine ⟨H.lo, H.same, fun j m hj hc d d0 d1 hb => ?_, fun o d o0 o1 d0 d1 hne hb => ?_⟩
    · have hlt : j < ls'.length := (List.getElem?_eq_some_iff.1 hj).1
      have hg' := hg j
      by_cases e : j < l.toNat
      · rw [if_pos e] at hg'
        rw [ce j j hlt (by omega) hg'] at hc ⊢
        exact H.step j m (by rw [← hg', hj]) hc d d0 d1 hb
      · rw [if_neg e] at hg'
        rw [ce j (j + 1) hlt (by omega) hg'] at hc ⊢
        exact H.step (j + 1) m (by rw [← hg', hj]) hc d d0 d1 hb
    · obtain ⟨i, i1, i2, i3, i4, i5, i6, i7, i8⟩ := best_some2 cs ns os fs ls ks h o0 o1 d0 d1 hne hb
      have hne2 : i ≠ l := by rw [← i1]; exact hn o d o0 o1 d0 d1
      have hgi : ls[i.toNat]? = some (lineOf (cs, ns, os, fs, ls, ks) i) := by
        unfold lineOf
        show _ = some (ls.getD i.toNat _)
        rw [List.getD_eq_getElem?_getD, List.getElem?_eq_getElem (by omega), Option.getD_some]
      by_cases e : i < l
      · have hg' := hg i.toNat
        rw [if_pos (by omega)] at hg'
        have c1 := ce i.toNat i.toNat (by omega) (by omega) hg'
        refine ⟨i.toNat, lineOf (cs, ns, os, fs, ls, ks) i, by rw [hg', hgi], by rw [c1]; exact i5, i4, i7, ?_⟩
        rw [c1]; exact i8
      · have hg' := hg (i.toNat - 1)
        rw [if_neg (by omega), show i.toNat - 1 + 1 = i.toNat by omega] at hg'
        have c1 := ce (i.toNat - 1) i.toNat (by omega) (by omega) hg'
        refine ⟨i.toNat - 1, lineOf (cs, ns, os, fs, ls, ks) i, by rw [hg', hgi], by rw [c1]; exact i5, i4, i7, ?_⟩
        rw [c1]; exact i8
  intro i j i0 i1 j0 j1
  have a1 := Hn.le P' H' (fun k m hk hc => ⟨k, m, hk, hc, rfl, rfl, Int.le_refl _⟩) (o := i) (d := j) i0 i1 j0 j1
  have a2 := H'.le P' Hn (fun k m hk hc => ⟨k, m, hk, hc, rfl, rfl, Int.le_refl _⟩) (o := i) (d := j) i0 i1 j0 j1
  have b1 : -1 ≤ at2 (boundsF (cs, ns, os, fs, ls, ks) (costsF (cs, ns, os, fs, ls, ks) a b)) i j := H.lo i j i0 i1 j0 j1
  have b2 : -1 ≤ at2 (boundsF (cs, ns, os, fs, ls', ks) (costsF (cs, ns, os, fs, ls', ks) a b)) i j := H'.lo i j i0 i1 j0 j1
  by_cases g : 0 ≤ at2 (boundsF (cs, ns, os, fs, ls, ks) (costsF (cs, ns, os, fs, ls, ks) a b)) i j
  · obtain ⟨x1, x2⟩ := a1 g
    obtain ⟨_, y2⟩ := a2 x1
    exact Int.le_antisymm x2 y2
  · by_cases g2 : 0 ≤ at2 (boundsF (cs, ns, os, fs, ls', ks) (costsF (cs, ns, os, fs, ls', ks) a b)) i j
    · exact (g (a2 g2).1).elim
    · omega
theorem sq_ext2 {a b : List (List Int)} {q : Nat} (ha : Mp.Sq q a) (hb : Mp.Sq q b) (h : ∀ i j : Int, 0 ≤ i → i < q → 0 ≤ j → j < q → at2 a i j = at2 b i j) : a = b := by
  refine List.ext_getElem (by rw [ha.len, hb.len]) fun i h1 h2 => ?_
  have q1 : i < q := by rw [← ha.len]; exact h1
  have r1 := ha.row i (by omega) (by omega)
  have r2 := hb.row i (by omega) (by omega)
  have e1 : a.getD (i : Int).toNat [] = a[i] := by rw [Int.toNat_natCast, List.getD_eq_getElem?_getD, List.getElem?_eq_getElem h1, Option.getD_some]
  have e2 : b.getD (i : Int).toNat [] = b[i] := by rw [Int.toNat_natCast, List.getD_eq_getElem?_getD, List.getElem?_eq_getElem h2, Option.getD_some]
  rw [e1] at r1
  rw [e2] at r2
  refine List.ext_getElem (by omega) fun j h3 h4 => ?_
  have := h i j (by omega) (by omega) (by omega) (by omega)
  unfold at2 at this
  rw [e1, e2, Int.toNat_natCast, List.getD_eq_getElem?_getD, List.getD_eq_getElem?_getD, List.getElem?_eq_getElem h3, List.getElem?_eq_getElem h4] at this
  exact this
theorem t_lrlines (a b which : Int) (cs : List (Int × List Bool × List Int)) (ns os : List ByteArray) (fs : List Off) (ls : List Line) (ks : List Cla) (e1 : ByteArray) (e2 e3 e4 e5 e6 : Int) : SoundC Tryz.prog G0 9 [net cs ns os fs ls ks, .dat I a, .dat I b, .agg [.dat .str e1, .dat (.int .i64) e2, .dat (.int .i64) e3, .dat (.int .i64) e4, .dat (.int .i64) e5, .dat (.int .i64) e6], .dat U8 which] [] ⟨u8P which, .dat .bool true, []⟩ := by
  refine sound_of_ev (c := mkc KQ6) KSQ6 KI0s hm (vc_lrlines a b which cs ns os fs ls ks e1 e2 e3 e4 e5 e6 ⟨rfl, fun hp => ?_⟩)
  obtain ⟨w0, w1⟩ := hp
  simp only [cnd_or, cnd_and, D.and, D.or, D.not, Bool.true_and, Bool.and_true, Bool.false_or, Bool.or_false, eq_self, true_and, and_true, imp_self, implies_true, Bool.not_eq_true', Bool.or_eq_true, Bool.or_eq_false_iff, Bool.not_eq_false', Bool.and_eq_true, Bool.and_eq_false_imp, Bool.not_not, forall_const, exists_eq_right, exists_eq_right', exists_eq_left, exists_eq_left', Int.toNat_natCast, Nat.zero_add, Nat.mul_one, Int.ofNat_eq_natCast, D.nil, D.eq, D.ne, D.lt, D.gt, D.le, D.ge, D.beq, D.ilen, D.slen, D.ile, D.ilt, D.ine, D.nle, D.nlt, D.sub, D.add, D.mul, D.neg, D.nat, D.ofN, D.len, D.nadd, D.nmul, D.get, D.mn, D.mx, D.set, D.app, D.tail, D.part, D.seg, D.rep, D.at2, decide_eq_true_eq, decide_eq_false_iff_not, beq_iff_eq, bne_iff_ne, beq_eq_false_iff_ne, bne_eq_false_iff_eq, D.wrap, D.allNil, List.nil_append, Int.toNat_zero, List.drop_zero, List.length_nil]
  refine ⟨fun h => few_fewC (few16_iff.1 h.1).1, fun ⟨⟨hf, h11⟩, hr⟩ => ?_⟩
  obtain ⟨⟨g0, g1, g2, g3⟩, hs⟩ := ruse_iff.1 hr
  have f5 : fs.length ≤ 5 := (few16_iff.1 hf).2.1
  have l12 : ls.length ≤ 12 := (few16_iff.1 hf).2.2
  have hfc := few_fewC (few16_iff.1 hf).1
  have hfl : ∀ ls' : List Line, ls'.length ≤ 50 → fewC (cs, ns, os, fs, ls', ks) = true := fun ls' hl => by
    unfold fewC fewLen at hfc ⊢
    simp only [Bool.and_eq_true, decide_eq_true_eq] at hfc ⊢
    exact ⟨⟨hfc.1.1, hfc.1.2.1, hfc.1.2.2.1, hfc.1.2.2.2.1, hl, hfc.1.2.2.2.2.2⟩, hfc.2⟩
  have s1 : Mp.Sq fs.length (rboundsF (cs, ns, os, fs, ls, ks) a b) := by rw [rbnds_eq cs ns os fs ls ks hr]; exact bsq cs ns os fs ls ks _
  have s2 : Mp.Sq fs.length (rnextF (cs, ns, os, fs, ls, ks) a b) := by rw [rnext_eq cs ns os fs ls ks hr]; exact nsq cs ns os fs ls ks _
  have hsq1 := sq16_of cs ns os fs ls ks s1
  have hsq2 := sq16_of cs ns os fs ls ks s2
  have hP1 := sqP_of cs ns os fs ls ks hf s1
  have hP2 := sqP_of cs ns os fs ls ks hf s2
  have hS : ∀ ls' : List Line, ruseF (cs, ns, os, fs, ls', ks) a b = true → Mp.Sq fs.length (rboundsF (cs, ns, os, fs, ls', ks) a b) := fun ls' h => by
    rw [rbnds_eq cs ns os fs ls' ks h]; exact bsq cs ns os fs ls' ks _
  have hmild : ∀ m : List (List Int), Mp.Sq fs.length m → mild m := fun m sw => ⟨by rw [sw.len]; omega, fun r hr => by
    obtain ⟨i, hi, rfl⟩ := List.getElem_of_mem hr
    have := sw.row i (by omega) (by rw [← sw.len]; omega)
    rw [Int.toNat_natCast, List.getD_eq_getElem?_getD, List.getElem?_eq_getElem hi, Option.getD_some] at this
    omega⟩
  have qm := fun h' i j i0 i1 j0 j1 hB => more_le cs ns os fs ls ks (e1, e2, e3, e4, e5, e6) hr h' (i := i) (j := j) i0 i1 j0 j1 hB
  have hSm := hS (ls ++ [(e1, e2, e3, e4, e5, e6)])
  have hl : ls.length ≠ 0 → 0 ≤ D.rem which ls.length ∧ D.rem which ls.length < ls.length := fun h => ⟨Int.tmod_nonneg _ w0, Int.tmod_lt_of_pos _ (by omega)⟩
  have hless : ∀ l : Int, 0 ≤ l → l < ls.length → noL (rnextF (cs, ns, os, fs, ls, ks) a b) fs.length l fs.length → ruseF (cs, ns, os, fs, ls.take l.toNat ++ ls.drop (l.toNat + 1), ks) a b = true → rboundsF (cs, ns, os, fs, ls.take l.toNat ++ ls.drop (l.toNat + 1), ks) a b = rboundsF (cs, ns, os, fs, ls, ks) a b := fun l l0 l1 hn h' =>
    sq_ext2 (hS _ h') s1 fun i j i0 i1 j0 j1 => less_same cs ns os fs ls ks l0 l1 hr h' (fun i j i0 i1 j0 j1 => hn.2.2 i j i0 i1 j0 j1) i j i0 i1 j0 j1
  have hatm : ∀ i j : Int, at2 (rboundsF (cs, ns, os, fs, ls, ks) a b) i j = ((rboundsF (cs, ns, os, fs, ls, ks) a b).getD i.toNat []).getD j.toNat 0 := fun _ _ => rfl
  generalize D.rem which ls.length = l at *
  have n1 := s1.len
  have n2 := s2.len
  have row1 := s1.row
  have row2 := s2.row
  simp only [List.length_singleton, List.length_append]
  refine ⟨hP1, fun _ => hP2, fun h => ?_, fun _ => ⟨by omega, by omega, by omega, by omega, trivial, trivial, fun h => few_fewC (few16_iff.1 h).1, fun ⟨hf', hr'⟩ => ⟨sqP_of cs ns os fs ls ks hf (hSm hr'), fun h => ?_, fun _ => ⟨⟨Int.le_refl _, Int.natCast_nonneg _⟩, fun x hx => ⟨fun hxl => ⟨⟨Int.le_refl _, Int.natCast_nonneg _⟩, fun y hy => ⟨fun hyl => ?_, fun hyl => ?_⟩⟩, fun hxl => ?_⟩⟩⟩, fun _ => ?_⟩⟩
  · rw [hsq1, hsq2] at h
    rcases h with h | h <;> cases h
  · rw [sq16_of cs ns os fs ls ks (hSm hr')] at h; cases h
  · have s3 := hSm hr'
    have n3 := s3.len
    have r3 := s3.row x hx.1 (by omega)
    have r1 := row1 x hx.1 (by omega)
    have q := qm hr' x y hx.1 (by omega) hy.1 (by omega)
    unfold at2 at q
    have x0 := hx.1
    have y0 := hy.1
    refine ⟨x0, hxl, y0, by omega, fun _ => x0, fun _ => by omega, fun _ => y0, fun _ => by omega, fun _ => x0, fun _ => by omega, fun _ => y0, fun _ => by omega, fun _ => x0, fun _ => hxl, fun _ => y0, fun _ => by omega, fun h => ?_, fun _ => ⟨in_small (by omega), y + 1, ⟨by omega, by omega⟩, rfl, by omega⟩⟩
    obtain ⟨k1, k2⟩ := q h.1
    rcases h.2 with h | h <;> omega
  · have x0 := hx.1
    exact ⟨in_small (by omega), x + 1, ⟨by omega, by omega⟩, rfl, by omega⟩
  all_goals
    intro hz
    have hz' : ls.length ≠ 0 := by omega
    obtain ⟨l0, l1⟩ := hl hz'
    refine ⟨in_small (by omega), hz, ⟨Int.le_refl _, Int.natCast_nonneg _, fun j k j0 j1 => by omega⟩, fun x hx => ⟨fun hxl => ⟨⟨Int.le_refl _, Int.natCast_nonneg _, fun j j0 j1 => by omega⟩, fun y hy => ⟨fun hyl => ?_, fun hyl => ?_⟩⟩, fun hxl => ?_⟩⟩
    · have x0 := hx.1
      have y0 := hy.1
      have r2 := row2 x x0 (by omega)
      refine ⟨x0, hxl, y0, by omega, fun hne => ⟨in_small (by omega), y + 1, ⟨by omega, by omega, fun j j0 j1 => ?_⟩, rfl, by omega⟩⟩
      by_cases e : j = y
      · subst e; exact hne
      · exact hy.2.2 j j0 (by omega)
    · have x0 := hx.1
      have y0 := hy.1
      refine ⟨in_small (by omega), x + 1, ⟨by omega, by omega, fun j k j0 j1 k0 k1 => ?_⟩, rfl, by omega⟩
      by_cases e : j = x
      · subst e; exact hy.2.2 k k0 (by omega)
      · exact hx.2.2 j k j0 (by omega) k0 k1
    · have x0 := hx.1
      have hx1 := hx.2.1
      have ex : x = fs.length := by omega
      rw [ex] at hx
      have hL := hless l l0 l1 hx
      have e1' : (l + 1).toNat = l.toNat + 1 := by omega
      have et : (ls.take l.toNat).length = l.toNat := by rw [List.length_take]; omega
      have ed : (ls.drop (l.toNat + 1)).length = ls.length - (l.toNat + 1) := List.length_drop
      rw [e1']
      have hfc' := hfl (ls.take l.toNat ++ ls.drop (l.toNat + 1)) (by rw [List.length_append]; omega)
      have hS' := hS (ls.take l.toNat ++ ls.drop (l.toNat + 1))
      generalize ls.take l.toNat = p1 at *
      generalize ls.drop (l.toNat + 1) = p2 at *
      refine ⟨Int.le_refl _, l0, by omega, by omega, by omega, in_small (by omega), by omega, by omega, by omega, by omega, trivial, trivial, hfc', fun h => hmild _ (hS' h), ?_⟩
      cases hc : ruseF (cs, ns, os, fs, p1 ++ p2, ks) a b with
      | false => exact .inl rfl
      | true => right; rw [hL hc]; unfold sameR; simp
end Go.Eng.Sv
