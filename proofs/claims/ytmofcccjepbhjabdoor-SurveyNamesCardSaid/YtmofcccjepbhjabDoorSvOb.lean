/- PeSvOb -/
import Derived.Test.YtmofcccjepbhjabDoorW22
import Derived.Test.YtmofcccjepbhjabDoorSvKb
set_option linter.unusedSimpArgs false
set_option linter.unusedVariables false
set_option maxRecDepth 100000
namespace Go.Eng.Sv
open Go.Proofs
noncomputable def K18 : Kt := kOr 12 (dataK [] (fun _ => True) fun _ => .dat .bool true) K17
noncomputable def lownA (ls : List Line) : Ann := ⟨fun id s => match id with
  | 5 => some { α := Int, inv := fun k => upN k (D.ilen ls), st := fun k => put s [(6, .dat I k)], μ := fun k => D.nat (D.sub (D.ilen ls) k) }
  | _ => none, fun _ _ => none, fun _ _ => none⟩
set_option maxRecDepth 100000 in
theorem vc_lowners (so sl : Int) (cs : List (Int × List Bool × List Int)) (ns os : List ByteArray) (fs : List Off) (ls : List Line) (ks : List Cla) (hvc :
    let c1 := (cs, ns, os, fs, ls, ks);
    let c2 := consF c1;
    let c3 := D.not c2;
    let c4 := D.ilen ls;
    let c5 := (so, sl);
    let c6 := D.eq sl (-1 : Int);
    let c7 := D.cnd c6 (D.ge so (0 : Int)) false;
    let c8 := D.cnd c7 (D.lt so (D.ilen fs)) false;
    let c9 := D.not c8;
    let c10 := D.eq so (-1 : Int);
    let c11 := D.cnd c10 (D.ge sl (0 : Int)) false; true = true ∧ (True → True ∧ True ∧ (c3 = true → true = true ∧ True) ∧ (c3 = false → (∃ x, upN x c4 ∧ cs = cs ∧
     ns = ns ∧ os = os ∧ fs = fs ∧ ls = ls ∧ ks = ks ∧ so = so ∧ sl = sl ∧ c1 = c1 ∧ c5 = c5 ∧ true = true ∧ (0 : Int) = x ∧ true = true ∧ cs = cs ∧ ns = ns ∧ os =
     os ∧ fs = fs ∧ ls = ls ∧ ks = ks ∧ c2 = c2 ∧ c3 = c3 ∧ True) ∧ ∀ (x : Int),
    let c12 := ownerF c1 (-1 : Int) x;
    let c13 := D.lt c12 (0 : Int);
    let c14 := D.not c13;
    let c15 := D.cnd c13 true (D.ge c12 (D.ilen os));
    let c16 := D.not c15;
    let c17 := D.cnd c15 true (D.ne c12 (ownerF c1 (D.get ls (D.nat x) (ByteArray.mk (D.nil UInt8).toArray, (0 : Int), (0 : Int), (0 : Int), (0 : Int), (0 :
     Int))).snd.fst (-1 : Int)));
    let c18 := D.add x (1 : Int); upN x c4 → (D.lt x c4 = true → True ∧ (c14 = true → c14 = true → c14 = true) ∧ (c14 = true → c14 = true → c14 = true) ∧ (c14 =
     true → c14 = true → c14 = true) ∧ (c14 = true → c14 = true → c14 = true) ∧ (D.and true c14 = true → c14 = true) ∧ (c16 = true → c16 = true → c16 = true) ∧ (c16
     = true → c16 = true → c16 = true) ∧ (c16 = true → c16 = true → c16 = true) ∧ (c16 = true → D.ile (0 : Int) x) ∧ (c16 = true → D.ilt x c4) ∧ (c16 = true → c16 =
     true → c16 = true) ∧ (c16 = true → c16 = true → c16 = true) ∧ (c16 = true → c16 = true → c16 = true) ∧ (c16 = true → c16 = true → c16 = true) ∧ (c16 = true →
     c16 = true → c16 = true) ∧ (c16 = true → True) ∧ (c16 = true → c16 = true → c16 = true) ∧ (c16 = true → c16 = true → c16 = true) ∧ (D.and true c16 = true → c16
     = true) ∧ (c17 = true → false = true ∧ True) ∧ (c17 = false → inR IntKind.i64 c18 ∧ ∃ y, upN y c4 ∧ (cs = cs ∧ ns = ns ∧ os = os ∧ fs = fs ∧ ls = ls ∧ ks = ks
     ∧ so = so ∧ sl = sl ∧ c1 = c1 ∧ c5 = c5 ∧ true = true ∧ c18 = y ∧ true = true ∧ cs = cs ∧ ns = ns ∧ os = os ∧ fs = fs ∧ ls = ls ∧ ks = ks ∧ c2 = c2 ∧ c3 = c3 ∧
     True) ∧ D.nlt (D.nat (D.sub c4 y)) (D.nat (D.sub c4 x)))) ∧ (D.lt x c4 = false → (c6 = true → c6 = true → c6 = true) ∧ (c6 = true → c6 = true → c6 = true) ∧
     (D.and true c6 = true → c6 = true) ∧ (c7 = true → c7 = true → c7 = true) ∧ (c7 = true → c7 = true → c7 = true) ∧ (c7 = true → c7 = true → c7 = true) ∧ (c7 =
     true → c7 = true → c7 = true) ∧ (c7 = true → c7 = true → c7 = true) ∧ (D.and true c7 = true → c7 = true) ∧ (c9 = true → c9 = true → c9 = true) ∧ (c9 = true →
     c9 = true → c9 = true) ∧ (c9 = true → c9 = true → c9 = true) ∧ (D.and c9 c10 = true → D.and c9 c10 = true → D.and c9 c10 = true) ∧ (D.and c9 c10 = true → D.and
     c9 c10 = true → D.and c9 c10 = true) ∧ (c9 = true → c9 = true → c9 = true) ∧ (c9 = true → D.and c9 c10 = true → D.and c9 c10 = true) ∧ (c9 = true → c9 = true →
     c9 = true) ∧ (D.and c9 c11 = true → D.and c9 c11 = true → D.and c9 c11 = true) ∧ (D.and c9 c11 = true → D.and c9 c11 = true → D.and c9 c11 = true) ∧ (D.and c9
     c11 = true → D.and c9 c11 = true → D.and c9 c11 = true) ∧ (D.and c9 c11 = true → D.and c9 c11 = true → D.and c9 c11 = true) ∧ (D.and c9 c11 = true → D.and c9
     c11 = true → D.and c9 c11 = true) ∧ (c9 = true → c9 = true → c9 = true) ∧ (c9 = true → D.and c9 c11 = true → D.and c9 c11 = true) ∧ (D.and true c9 = true → c9
     = true) ∧ (true = true → true = true → true = true) ∧ (true = true → true = true → true = true) ∧ (true = true → True) ∧ (true = true → true = true → true =
     true) ∧ (true = true → true = true → true = true) ∧ (true = true → true = true → true = true) ∧ (D.and true true = true → true = true) ∧ D.cnd true (D.beq
     (D.ge (ownerF c1 so sl) (0 : Int)) (D.cnd c8 true (D.cnd c11 (D.lt sl c4) false))) false = true ∧ True)))) :
    evF (mkc K18) (lownA ls) 4 [net cs ns os fs ls ks, .agg [.dat I so, .dat I sl]] [] ⟨True, .dat .bool true, []⟩ := of_eq (by kernel_rfl) hvc

theorem KS18' : KSound Tryd.prog G0 K18 := KS18
theorem in_small {x : Int} (h : -1000000000 ≤ x ∧ x ≤ 1000000000) : inR .i64 x := by unfold inR; simp only; omega
theorem noF_offs (cs : List (Int × List Bool × List Int)) (ns os : List ByteArray) (fs : List Off) (ls : List Line) (ks : List Cla) (h : noF (cs, ns, os, fs, ls, ks) = true) : (fs.length : Int) ≤ 12 ∧ (∀ x ∈ fs, isNameF x.1 = true) ∧ fs.Pairwise (fun a b => a.1.toList ≠ b.1.toList) ∧ ∀ x ∈ fs, goodOff (cs, ns, os, fs, ls, ks) x = true :=
  (kindMap_iff (by decide) (fun l : Off => l.1) (goodOff (cs, ns, os, fs, ls, ks)) fs).1 (no_parts cs ns os fs ls ks h).2.2.2.1
theorem off_op (cs : List (Int × List Bool × List Int)) (ns os : List ByteArray) (fs : List Off) (ls : List Line) (ks : List Cla) (h : noF (cs, ns, os, fs, ls, ks) = true) {i : Int} (i0 : 0 ≤ i) (i1 : i < fs.length) (d : Off) : 0 ≤ (fs.getD i.toNat d).2.1 ∧ (fs.getD i.toNat d).2.1 < os.length := by
  have hm : fs.getD i.toNat d ∈ fs := by
    rw [List.getD_eq_getElem?_getD, List.getElem?_eq_getElem (by omega), Option.getD_some]
    exact List.getElem_mem _
  have := (noF_offs cs ns os fs ls ks h).2.2.2 _ hm
  unfold goodOff idxF at this
  simp only [Bool.and_eq_true, decide_eq_true_eq] at this
  exact this.1.1.1.1.1.1
theorem owner_line (cs : List (Int × List Bool × List Int)) (ns os : List ByteArray) (fs : List Off) (ls : List Line) (ks : List Cla) (h : noF (cs, ns, os, fs, ls, ks) = true) {k : Int} (k0 : 0 ≤ k) (k1 : k < ls.length) :
    ownerF (cs, ns, os, fs, ls, ks) (-1) k = ownerF (cs, ns, os, fs, ls, ks) (ls.getD k.toNat (⟨#[]⟩, 0, 0, 0, 0, 0)).2.1 (-1) ∧ 0 ≤ ownerF (cs, ns, os, fs, ls, ks) (-1) k ∧ ownerF (cs, ns, os, fs, ls, ks) (-1) k < os.length := by
  have hm : ls.getD k.toNat (⟨#[]⟩, 0, 0, 0, 0, 0) ∈ ls := by
    rw [List.getD_eq_getElem?_getD, List.getElem?_eq_getElem (by omega), Option.getD_some]
    exact List.getElem_mem _
  have ha := (lines_ok cs ns os fs ls ks h).1.at_ _ hm
  have hl : 0 ≤ (ls.getD k.toNat (⟨#[]⟩, 0, 0, 0, 0, 0)).2.1 ∧ (ls.getD k.toNat (⟨#[]⟩, 0, 0, 0, 0, 0)).2.1 < fs.length := ⟨ha.1, ha.2.1⟩
  have h1 : idxF (-1) (fs.length : Nat) = false := by unfold idxF; rw [decide_eq_false_iff_not]; omega
  have h2 : idxF k (ls.length : Nat) = true := by unfold idxF; exact decide_eq_true ⟨k0, k1⟩
  have h3 : idxF (ls.getD k.toNat (⟨#[]⟩, 0, 0, 0, 0, 0)).2.1 (fs.length : Nat) = true := by unfold idxF; exact decide_eq_true hl
  have e1 : ownerF (cs, ns, os, fs, ls, ks) (-1) k = (fs.getD (ls.getD k.toNat (⟨#[]⟩, 0, 0, 0, 0, 0)).2.1.toNat (⟨#[]⟩, 0, 0, 0, 0, 0, [])).2.1 := by
    unfold ownerF; rw [if_pos h, if_neg (fun g => by omega), if_pos ⟨rfl, h2⟩]
  have e2 : ownerF (cs, ns, os, fs, ls, ks) (ls.getD k.toNat (⟨#[]⟩, 0, 0, 0, 0, 0)).2.1 (-1) = (fs.getD (ls.getD k.toNat (⟨#[]⟩, 0, 0, 0, 0, 0)).2.1.toNat (⟨#[]⟩, 0, 0, 0, 0, 0, [])).2.1 := by
    unfold ownerF; rw [if_pos h, if_pos ⟨rfl, h3⟩]
  have := off_op cs ns os fs ls ks h hl.1 hl.2 (⟨#[]⟩, 0, 0, 0, 0, 0, [])
  rw [e1, e2]
  exact ⟨rfl, this.1, this.2⟩
theorem owner_is (cs : List (Int × List Bool × List Int)) (ns os : List ByteArray) (fs : List Off) (ls : List Line) (ks : List Cla) (h : noF (cs, ns, os, fs, ls, ks) = true) (so sl : Int) : 0 ≤ ownerF (cs, ns, os, fs, ls, ks) so sl ↔ (sl = -1 ∧ 0 ≤ so ∧ so < fs.length) ∨ (so = -1 ∧ 0 ≤ sl ∧ sl < ls.length) := by
  by_cases a : sl = -1 ∧ 0 ≤ so ∧ so < fs.length
  · have e : ownerF (cs, ns, os, fs, ls, ks) so sl = (fs.getD so.toNat (⟨#[]⟩, 0, 0, 0, 0, 0, [])).2.1 := by
      unfold ownerF; rw [if_pos h, if_pos ⟨a.1, by unfold idxF; exact decide_eq_true a.2⟩]
    rw [e]
    exact ⟨fun _ => .inl a, fun _ => (off_op cs ns os fs ls ks h a.2.1 a.2.2 _).1⟩
  · by_cases b : so = -1 ∧ 0 ≤ sl ∧ sl < ls.length
    · obtain ⟨rfl, b0, b1⟩ := b
      exact ⟨fun _ => .inr ⟨rfl, b0, b1⟩, fun _ => (owner_line cs ns os fs ls ks h b0 b1).2.1⟩
    · have e : ownerF (cs, ns, os, fs, ls, ks) so sl = -1 := by
        unfold ownerF
        rw [if_pos h, if_neg (fun g => a ⟨g.1, of_decide_eq_true g.2⟩), if_neg (fun g => b ⟨g.1, of_decide_eq_true g.2⟩)]
      rw [e]
      constructor
      · intro g; omega
      · rintro (g | g)
        · exact (a g).elim
        · exact (b g).elim
set_option maxHeartbeats 2000000 in
theorem t_lowners (so sl : Int) (cs : List (Int × List Bool × List Int)) (ns os : List ByteArray) (fs : List Off) (ls : List Line) (ks : List Cla) : SoundC Tryd.prog G0 4 [net cs ns os fs ls ks, .agg [.dat I so, .dat I sl]] [] ⟨True, .dat .bool true, []⟩ := by
  refine sound_of_ev (c := mkc K18) KS18' KI0s hm (vc_lowners so sl cs ns os fs ls ks ⟨rfl, fun hp => ?_⟩)
  simp only [cnd_or, cnd_and, D.and, D.or, D.not, Bool.true_and, Bool.and_true, Bool.false_or, Bool.or_false, eq_self, true_and, and_true, imp_self, implies_true, Bool.not_eq_true', Bool.or_eq_true, Bool.or_eq_false_iff, Bool.not_eq_false', Bool.and_eq_true, Bool.and_eq_false_imp, Bool.not_not, forall_const, exists_eq_right, exists_eq_right', exists_eq_left, exists_eq_left', Int.toNat_natCast, Nat.zero_add, Nat.mul_one, Int.ofNat_eq_natCast, D.nil, D.eq, D.ne, D.lt, D.gt, D.le, D.ge, D.beq, D.ilen, D.slen, D.ile, D.ilt, D.ine, D.nle, D.nlt, D.sub, D.add, D.mul, D.neg, D.nat, D.ofN, D.len, D.nadd, D.nmul, D.get, D.mn, D.mx, D.set, D.app, D.tail, D.part, D.seg, D.rep, D.at2, decide_eq_true_eq, decide_eq_false_iff_not, beq_iff_eq, bne_iff_ne, beq_eq_false_iff_ne, bne_eq_false_iff_eq]
  intro hc
  have hnf : noF (cs, ns, os, fs, ls, ks) = true := by
    unfold consF at hc
    rw [Bool.and_eq_true, Bool.and_eq_true] at hc
    exact hc.1.2
  have h40 := (lines_ok cs ns os fs ls ks hnf).2
  refine ⟨⟨Int.le_refl _, Int.natCast_nonneg _⟩, fun k ⟨k0, k1⟩ => ⟨fun hk => ?_, fun hk => ?_⟩⟩
  · obtain ⟨o1, o2, o3⟩ := owner_line cs ns os fs ls ks hnf k0 hk
    refine ⟨fun _ => k0, fun _ => hk, fun g => ?_, fun _ => ⟨in_small (by omega), k + 1, ⟨by omega, by omega⟩, rfl, by omega⟩⟩
    rcases g with (g | g) | g
    · omega
    · omega
    · exact (g o1).elim
  · have := owner_is cs ns os fs ls ks hnf so sl
    by_cases g : 0 ≤ ownerF (cs, ns, os, fs, ls, ks) so sl
    · rw [decide_eq_true (show ownerF (cs, ns, os, fs, ls, ks) so sl ≥ 0 from g)]
      rcases this.1 g with ⟨e, h1, h2⟩ | ⟨e, h1, h2⟩
      · subst e; rw [decide_eq_true (show so ≥ 0 from h1), decide_eq_true h2]; rfl
      · subst e; rw [decide_eq_true (show sl ≥ 0 from h1), decide_eq_true h2]; simp
    · rw [decide_eq_false (show ¬ ownerF (cs, ns, os, fs, ls, ks) so sl ≥ 0 from g)]
      symm
      rw [Bool.eq_false_iff]
      intro ht
      rw [Bool.or_eq_true] at ht
      simp only [Bool.and_eq_true, beq_iff_eq, decide_eq_true_eq] at ht
      refine g (this.2 ?_)
      rcases ht with ⟨⟨e, h1⟩, h2⟩ | ⟨⟨e, h1⟩, h2⟩
      · exact .inl ⟨e, h1, h2⟩
      · exact .inr ⟨e, h1, h2⟩
end Go.Eng.Sv
