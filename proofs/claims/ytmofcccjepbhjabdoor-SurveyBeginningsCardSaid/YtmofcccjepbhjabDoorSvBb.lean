/- PeSvBb -/
import Derived.Test.YtmofcccjepbhjabDoorW22
import Derived.Test.YtmofcccjepbhjabDoorSvOb
set_option linter.unusedSimpArgs false
set_option linter.unusedVariables false
set_option maxRecDepth 100000
namespace Go.Eng.Sv
open Go.Proofs
noncomputable def usedF (fs : List Off) (k i : Int) : Bool := (fs.take i.toNat).any fun o => decide (o.2.1 = k)
set_option maxRecDepth 100000 in
theorem vc_sound (cs : List (Int × List Bool × List Int)) (ns os : List ByteArray) (fs : List Off) (ls : List Line) (ks : List Cla) (hvc :
    let c1 := (cs, ns, os, fs, ls, ks); true = true ∧ (fewC c1 = true → fewC c1 = true ∧ D.eq (D.ilen (checkF c1)) (0 : Int) = soundF c1 ∧ True)) :
    evF (mkc K18) noAnn 14 [net cs ns os fs ls ks] [] ⟨fewC (cs, ns, os, fs, ls, ks) = true, .dat .bool (soundF (cs, ns, os, fs, ls, ks)), []⟩ := of_eq (by kernel_rfl) hvc

noncomputable def K19 : Kt := kOr 14 (dataK [.row N] (fun (n, _) => fewC n = true) fun (n, _) => .dat .bool (soundF n)) K18
noncomputable def lbegA (fs : List Off) : Ann := ⟨fun id s => match id with
  | 14 => match s.sig.T 5 with
    | .dat (.int .i64) k => some { α := Int, inv := fun i => upN i (D.ilen fs), st := fun i => put s [(7, .dat I i), (6, .dat .bool (usedF fs k i))], μ := fun i => D.nat (D.sub (D.ilen fs) i) }
    | _ => none
  | _ => none, fun _ _ => none, fun _ _ => none⟩
set_option maxRecDepth 100000 in
theorem vc_lbeg (cs : List (Int × List Bool × List Int)) (ns os : List ByteArray) (fs : List Off) (ls : List Line) (ks : List Cla) (hvc :
    let c1 := (fs, ls, ks);
    let c2 := (os, c1);
    let c3 := (cs, ns, c2);
    let c4 := fewF c3;
    let c5 := D.not c4;
    let c6 := D.not c5;
    let c7 := D.cnd c5 true (D.not (soundF c3));
    let c8 := D.ilen ks;
    let c9 := D.gt c8 (0 : Int);
    let c10 := D.sub c8 (1 : Int);
    let c11 := D.part ks (0 : Int) c10;
    let c12 := (fs, ls, c11);
    let c13 := checkF (cs, ns, os, c12);
    let c14 := D.ilen c13;
    let c15 := D.gt c14 (0 : Int);
    let c16 := D.eq (D.ilen os) (0 : Int);
    let c17 := D.sub (D.ilen os) (1 : Int);
    let c18 := D.ilen fs;
    let c19 := D.part os (0 : Int) c17; true = true ∧ (True → True ∧ True ∧ (c6 = true → c6 = true → c6 = true) ∧ (c6 = true → fewC c3 = true) ∧ (c6 = true → c6 =
     true → c6 = true) ∧ (D.and true c6 = true → c6 = true) ∧ (c7 = true → true = true ∧ True) ∧ (c7 = false → 1 = 1 ∧ 0 = 0 ∧ (c9 = true → inR IntKind.i64 c10 ∧
     D.ile (0 : Int) (0 : Int) ∧ D.ile (0 : Int) c10 ∧ D.ile c10 c8 ∧ 1 = 1 ∧ 1 = 1 ∧ 0 = 0 ∧ 1 = 1 ∧ 0 = 0 ∧ True ∧ (c15 = true → false = true ∧ True) ∧ (c15 =
     false → (c16 = true → true = true ∧ True) ∧ (c16 = false → inR IntKind.i64 c17 ∧ (∃ x, upN x c18 ∧ cs = cs ∧ ns = ns ∧ os = os ∧ fs = fs ∧ ls = ls ∧ ks = ks ∧
     c3 = c3 ∧ false = false ∧ true = true ∧ 1 = 1 ∧ 0 = 0 ∧ 0 = 0 ∧ c17 = c17 ∧ false = usedF fs c17 x ∧ (0 : Int) = x ∧ true = true ∧ cs = cs ∧ ns = ns ∧ os = os
     ∧ fs = fs ∧ ls = ls ∧ ks = ks ∧ c4 = c4 ∧ c5 = c5 ∧ c5 = c5 ∧ c7 = c7 ∧ cs = cs ∧ ns = ns ∧ os = os ∧ fs = fs ∧ ls = ls ∧ ks = ks ∧ ks = ks ∧ ks = ks ∧ c8 = c8
     ∧ c9 = c9 ∧ ks = ks ∧ ks = ks ∧ ks = ks ∧ ks = ks ∧ c8 = c8 ∧ c10 = c10 ∧ c11 = c11 ∧ 1 = 1 ∧ 0 = 0 ∧ 5 = 5 ∧ cs = cs ∧ ns = ns ∧ os = os ∧ fs = fs ∧ ls = ls ∧
     c11 = c11 ∧ c13 = c13 ∧ c14 = c14 ∧ c15 = c15 ∧ c2 = c2 ∧ os = os ∧ D.ilen os = D.ilen os ∧ c16 = c16 ∧ c2 = c2 ∧ os = os ∧ D.ilen os = D.ilen os ∧ c17 = c17 ∧
     cs = cs ∧ ns = ns ∧ os = os ∧ fs = fs ∧ ls = ls ∧ c11 = c11 ∧ True) ∧ ∀ (x : Int),
    let c20 := D.not (usedF fs c17 x);
    let c21 := D.add x (1 : Int); upN x c18 → (D.lt x c18 = true → (c20 = true → c20 = true → c20 = true) ∧ (c20 = true → c20 = true → c20 = true) ∧ (c20 = true →
     c20 = true → c20 = true) ∧ (c20 = true → D.ile (0 : Int) x) ∧ (c20 = true → D.ilt x c18) ∧ (c20 = true → c20 = true → c20 = true) ∧ (c20 = true → c20 = true →
     c20 = true) ∧ (c20 = true → c20 = true → c20 = true) ∧ (c20 = true → c20 = true → c20 = true) ∧ (D.and true c20 = true → c20 = true) ∧ inR IntKind.i64 c21 ∧ ∃
     y, upN y c18 ∧ (cs = cs ∧ ns = ns ∧ os = os ∧ fs = fs ∧ ls = ls ∧ ks = ks ∧ c3 = c3 ∧ false = false ∧ true = true ∧ 1 = 1 ∧ 0 = 0 ∧ 0 = 0 ∧ c17 = c17 ∧ D.cnd
     (usedF fs c17 x) true (D.eq (D.get fs (D.nat x) (ByteArray.mk (D.nil UInt8).toArray, (0 : Int), (0 : Int), (0 : Int), (0 : Int), (0 : Int), D.nil
     ByteArray)).snd.fst c17) = usedF fs c17 y ∧ c21 = y ∧ true = true ∧ cs = cs ∧ ns = ns ∧ os = os ∧ fs = fs ∧ ls = ls ∧ ks = ks ∧ c4 = c4 ∧ c5 = c5 ∧ c5 = c5 ∧
     c7 = c7 ∧ cs = cs ∧ ns = ns ∧ os = os ∧ fs = fs ∧ ls = ls ∧ ks = ks ∧ ks = ks ∧ ks = ks ∧ c8 = c8 ∧ c9 = c9 ∧ ks = ks ∧ ks = ks ∧ ks = ks ∧ ks = ks ∧ c8 = c8 ∧
     c10 = c10 ∧ c11 = c11 ∧ 1 = 1 ∧ 0 = 0 ∧ 5 = 5 ∧ cs = cs ∧ ns = ns ∧ os = os ∧ fs = fs ∧ ls = ls ∧ c11 = c11 ∧ c13 = c13 ∧ c14 = c14 ∧ c15 = c15 ∧ c2 = c2 ∧ os
     = os ∧ D.ilen os = D.ilen os ∧ c16 = c16 ∧ c2 = c2 ∧ os = os ∧ D.ilen os = D.ilen os ∧ c17 = c17 ∧ cs = cs ∧ ns = ns ∧ os = os ∧ fs = fs ∧ ls = ls ∧ c11 = c11
     ∧ True) ∧ D.nlt (D.nat (D.sub c18 y)) (D.nat (D.sub c18 x))) ∧ (D.lt x c18 = false → D.ile (0 : Int) (0 : Int) ∧ D.ile (0 : Int) c17 ∧ D.ile c17 (D.ilen os) ∧
     1 = 1 ∧ 1 = 1 ∧ 0 = 0 ∧ (true = true → 1 = 1) ∧ (true = true → 0 = 0) ∧ (true = true → true = true → true = true) ∧ (true = true → True) ∧ (true = true → true
     = true → true = true) ∧ (true = true → true = true → true = true) ∧ (true = true → true = true → true = true) ∧ (true = true → true = true → true = true) ∧
     (D.and true true = true → true = true) ∧ D.cnd true (D.beq (D.gt (D.ilen (checkF (cs, ns, c19, c12))) (0 : Int)) (usedF fs c17 x)) false = true ∧ True)))) ∧
     (c9 = false → (c16 = true → true = true ∧ True) ∧ (c16 = false → inR IntKind.i64 c17 ∧ (∃ x, upN x c18 ∧ cs = cs ∧ ns = ns ∧ os = os ∧ fs = fs ∧ ls = ls ∧ ks =
     ks ∧ c3 = c3 ∧ false = false ∧ true = true ∧ 1 = 1 ∧ 0 = 0 ∧ 0 = 0 ∧ c17 = c17 ∧ false = usedF fs c17 x ∧ (0 : Int) = x ∧ true = true ∧ cs = cs ∧ ns = ns ∧ os
     = os ∧ fs = fs ∧ ls = ls ∧ ks = ks ∧ c4 = c4 ∧ c5 = c5 ∧ c5 = c5 ∧ c7 = c7 ∧ cs = cs ∧ ns = ns ∧ os = os ∧ fs = fs ∧ ls = ls ∧ ks = ks ∧ ks = ks ∧ ks = ks ∧ c8
     = c8 ∧ c9 = c9 ∧ c2 = c2 ∧ os = os ∧ D.ilen os = D.ilen os ∧ c16 = c16 ∧ c2 = c2 ∧ os = os ∧ D.ilen os = D.ilen os ∧ c17 = c17 ∧ cs = cs ∧ ns = ns ∧ os = os ∧
     fs = fs ∧ ls = ls ∧ ks = ks ∧ True) ∧ ∀ (x : Int),
    let c22 := D.not (usedF fs c17 x);
    let c23 := D.add x (1 : Int); upN x c18 → (D.lt x c18 = true → (c22 = true → c22 = true → c22 = true) ∧ (c22 = true → c22 = true → c22 = true) ∧ (c22 = true →
     c22 = true → c22 = true) ∧ (c22 = true → D.ile (0 : Int) x) ∧ (c22 = true → D.ilt x c18) ∧ (c22 = true → c22 = true → c22 = true) ∧ (c22 = true → c22 = true →
     c22 = true) ∧ (c22 = true → c22 = true → c22 = true) ∧ (c22 = true → c22 = true → c22 = true) ∧ (D.and true c22 = true → c22 = true) ∧ inR IntKind.i64 c23 ∧ ∃
     y, upN y c18 ∧ (cs = cs ∧ ns = ns ∧ os = os ∧ fs = fs ∧ ls = ls ∧ ks = ks ∧ c3 = c3 ∧ false = false ∧ true = true ∧ 1 = 1 ∧ 0 = 0 ∧ 0 = 0 ∧ c17 = c17 ∧ D.cnd
     (usedF fs c17 x) true (D.eq (D.get fs (D.nat x) (ByteArray.mk (D.nil UInt8).toArray, (0 : Int), (0 : Int), (0 : Int), (0 : Int), (0 : Int), D.nil
     ByteArray)).snd.fst c17) = usedF fs c17 y ∧ c23 = y ∧ true = true ∧ cs = cs ∧ ns = ns ∧ os = os ∧ fs = fs ∧ ls = ls ∧ ks = ks ∧ c4 = c4 ∧ c5 = c5 ∧ c5 = c5 ∧
     c7 = c7 ∧ cs = cs ∧ ns = ns ∧ os = os ∧ fs = fs ∧ ls = ls ∧ ks = ks ∧ ks = ks ∧ ks = ks ∧ c8 = c8 ∧ c9 = c9 ∧ c2 = c2 ∧ os = os ∧ D.ilen os = D.ilen os ∧ c16 =
     c16 ∧ c2 = c2 ∧ os = os ∧ D.ilen os = D.ilen os ∧ c17 = c17 ∧ cs = cs ∧ ns = ns ∧ os = os ∧ fs = fs ∧ ls = ls ∧ ks = ks ∧ True) ∧ D.nlt (D.nat (D.sub c18 y))
     (D.nat (D.sub c18 x))) ∧ (D.lt x c18 = false → D.ile (0 : Int) (0 : Int) ∧ D.ile (0 : Int) c17 ∧ D.ile c17 (D.ilen os) ∧ 1 = 1 ∧ 1 = 1 ∧ 0 = 0 ∧ (true = true →
     1 = 1) ∧ (true = true → 0 = 0) ∧ (true = true → true = true → true = true) ∧ (true = true → True) ∧ (true = true → true = true → true = true) ∧ (true = true →
     true = true → true = true) ∧ (true = true → true = true → true = true) ∧ (true = true → true = true → true = true) ∧ (D.and true true = true → true = true) ∧
     D.cnd true (D.beq (D.gt (D.ilen (checkF (cs, ns, c19, c1))) (0 : Int)) (usedF fs c17 x)) false = true ∧ True)))))) :
    evF (mkc K19) (lbegA fs) 3 [net cs ns os fs ls ks] [] ⟨True, .dat .bool true, []⟩ := of_eq (by kernel_rfl) hvc

theorem t_sound (cs : List (Int × List Bool × List Int)) (ns os : List ByteArray) (fs : List Off) (ls : List Line) (ks : List Cla) : SoundC Tryd.prog G0 14 [net cs ns os fs ls ks] [] ⟨fewC (cs, ns, os, fs, ls, ks) = true, .dat .bool (soundF (cs, ns, os, fs, ls, ks)), []⟩ := by
  refine sound_of_ev (c := mkc K18) KS18' KI0s hm (vc_sound cs ns os fs ls ks ⟨rfl, fun hp => ?_⟩)
  simp only [cnd_or, cnd_and, D.and, D.or, D.not, Bool.true_and, Bool.and_true, Bool.false_or, Bool.or_false, eq_self, true_and, and_true, imp_self, implies_true, Bool.not_eq_true', Bool.or_eq_true, Bool.or_eq_false_iff, Bool.not_eq_false', Bool.and_eq_true, Bool.and_eq_false_imp, Bool.not_not, forall_const, exists_eq_right, exists_eq_right', exists_eq_left, exists_eq_left', Int.toNat_natCast, Nat.zero_add, Nat.mul_one, Int.ofNat_eq_natCast, D.nil, D.eq, D.ne, D.lt, D.gt, D.le, D.ge, D.beq, D.ilen, D.slen, D.ile, D.ilt, D.ine, D.nle, D.nlt, D.sub, D.add, D.mul, D.neg, D.nat, D.ofN, D.len, D.nadd, D.nmul, D.get, D.mn, D.mx, D.set, D.app, D.tail, D.part, D.seg, D.rep, D.at2, decide_eq_true_eq, decide_eq_false_iff_not, beq_iff_eq, bne_iff_ne, beq_eq_false_iff_ne, bne_eq_false_iff_eq]
  refine ⟨hp, ?_⟩
  unfold soundF
  cases checkF (cs, ns, os, fs, ls, ks) with
  | nil => rfl
  | cons a l =>
    show decide _ = false
    rw [decide_eq_false_iff_not]
    show ¬ ((((a :: l).length : Nat) : Int) = 0)
    rw [List.length_cons]; omega
theorem KS19 : KSound Tryd.prog G0 K19 := kOr_ok (dataK_ok fun ((cs, ns, os, fs, ls, ks), _) => t_sound cs ns os fs ls ks) KS18'
theorem checkF_nil (cs : List (Int × List Bool × List Int)) (ns os : List ByteArray) (fs : List Off) (ls : List Line) (ks : List Cla) : checkF (cs, ns, os, fs, ls, ks) = [] ↔ noF (cs, ns, os, fs, ls, ks) = true ∧ reachTo fs.length ls fs.length = [] := by
  unfold checkF
  cases h : noF (cs, ns, os, fs, ls, ks) with
  | true => exact ⟨fun g => ⟨rfl, g⟩, fun g => g.2⟩
  | false =>
    constructor
    · intro g
      have : noF (cs, ns, os, fs, ls, ks) = true := noF_iff.2 g
      rw [h] at this; cases this
    · intro g; cases g.1
theorem noF_cls (cs : List (Int × List Bool × List Int)) (ns os : List ByteArray) (fs : List Off) (ls : List Line) (ks : List Cla) (h : noF (cs, ns, os, fs, ls, ks) = true) (j : Nat) : noF (cs, ns, os, fs, ls, ks.take j) = true := by
  obtain ⟨p0, p1, p2, p3, p4, p5⟩ := no_parts cs ns os fs ls ks h
  refine noF_of cs ns os fs ls (ks.take j) p0 p1 p2 p3 p4 ?_
  obtain ⟨h1, h2, h3, h4⟩ := (kindMap_iff (by decide) (fun l : Cla => l.1) goodCla ks).1 p5
  have hs := List.take_sublist j ks
  have hl := hs.length_le
  exact (kindMap_iff (by decide) (fun l : Cla => l.1) goodCla (ks.take j)).2 ⟨by omega, fun x hx => h2 x (hs.subset hx), h3.sublist hs, fun x hx => h4 x (hs.subset hx)⟩
theorem noF_ops (cs : List (Int × List Bool × List Int)) (ns os : List ByteArray) (fs : List Off) (ls : List Line) (ks : List Cla) (h : noF (cs, ns, os, fs, ls, ks) = true) {k : Nat} (hk : k + 1 = os.length) (hu : ∀ o ∈ fs, o.2.1 ≠ (k : Int)) : noF (cs, ns, os.take k, fs, ls, ks) = true := by
  obtain ⟨p0, p1, p2, p3, p4, p5⟩ := no_parts cs ns os fs ls ks h
  have hs := List.take_sublist k os
  have hl := hs.length_le
  refine noF_of cs ns (os.take k) fs ls ks p0 p1 ?_ ?_ p4 p5
  · obtain ⟨h1, h2, h3, h4⟩ := (kind_iff (by decide)).1 p2
    refine (kind_iff (by decide)).2 ⟨by omega, fun x hx => h2 x (hs.subset hx), h3.sublist hs, fun i hi => ?_⟩
    unfold opGoods
    rw [List.getD_eq_getElem?_getD, List.getElem?_map, List.getElem?_eq_getElem hi]; rfl
  · obtain ⟨h1, h2, h3, h4⟩ := (kindMap_iff (by decide) (fun l : Off => l.1) (goodOff (cs, ns, os, fs, ls, ks)) fs).1 p3
    refine (kindMap_iff (by decide) (fun l : Off => l.1) (goodOff (cs, ns, os.take k, fs, ls, ks)) fs).2 ⟨h1, h2, h3, fun o ho => ?_⟩
    have := h4 o ho
    have hne := hu o ho
    unfold goodOff idxF at this ⊢
    simp only [Bool.and_eq_true, decide_eq_true_eq] at this ⊢
    refine ⟨⟨⟨⟨⟨⟨?_, this.1.1.1.1.1.2⟩, this.1.1.1.1.2⟩, this.1.1.1.2⟩, this.1.1.2⟩, this.1.2⟩, this.2⟩
    have g : 0 ≤ o.2.1 ∧ o.2.1 < (os.length : Int) := this.1.1.1.1.1.1
    show 0 ≤ o.2.1 ∧ o.2.1 < (((os.take k).length : Nat) : Int)
    rw [List.length_take]; omega
theorem noF_used (cs : List (Int × List Bool × List Int)) (ns os : List ByteArray) (fs : List Off) (ls : List Line) (ks : List Cla) {k : Nat} (hk : k + 1 = os.length) {o : Off} (ho : o ∈ fs) (hu : o.2.1 = (k : Int)) : noF (cs, ns, os.take k, fs, ls, ks) = false := by
  cases h : noF (cs, ns, os.take k, fs, ls, ks) with
  | false => rfl
  | true =>
    have := (noF_offs cs ns (os.take k) fs ls ks h).2.2.2 o ho
    unfold goodOff idxF at this
    simp only [Bool.and_eq_true, decide_eq_true_eq] at this
    have g : 0 ≤ o.2.1 ∧ o.2.1 < (((os.take k).length : Nat) : Int) := this.1.1.1.1.1.1
    rw [List.length_take] at g; omega
theorem beg_tail (cs : List (Int × List Bool × List Int)) (ns os : List ByteArray) (fs : List Off) (ls : List Line) (ks : List Cla) (h : noF (cs, ns, os, fs, ls, ks) = true) (hr : reachTo fs.length ls fs.length = []) {k : Int} (hk : k + 1 = os.length) (k0 : 0 ≤ k) :
    decide ((((checkF (cs, ns, os.take k.toNat, fs, ls, ks)).length : Nat) : Int) > 0) = usedF fs k fs.length := by
  have hk' : k.toNat + 1 = os.length := by omega
  cases hu : usedF fs k fs.length with
  | false =>
    have hno : ∀ o ∈ fs, o.2.1 ≠ (k.toNat : Int) := fun o ho e => by
      unfold usedF at hu
      rw [Int.toNat_natCast, List.take_length, List.any_eq_false] at hu
      exact hu o ho (decide_eq_true (by omega))
    rw [(checkF_nil cs ns (os.take k.toNat) fs ls ks).2 ⟨noF_ops cs ns os fs ls ks h hk' hno, hr⟩]
    rfl
  | true =>
    unfold usedF at hu
    rw [Int.toNat_natCast, List.take_length] at hu
    obtain ⟨o, ho, he⟩ := List.any_eq_true.1 hu
    have hf := noF_used cs ns os fs ls ks hk' ho (by have := of_decide_eq_true he; omega)
    have hne : checkF (cs, ns, os.take k.toNat, fs, ls, ks) ≠ [] := fun g => by
      have := ((checkF_nil cs ns (os.take k.toNat) fs ls ks).1 g).1
      rw [hf] at this; cases this
    have := List.length_pos_iff.2 hne
    exact decide_eq_true (by omega)
theorem usedF_next {fs : List Off} {k i : Int} (i0 : 0 ≤ i) (i1 : i < fs.length) : usedF fs k (i + 1) = (usedF fs k i || (fs.getD i.toNat (⟨#[]⟩, 0, 0, 0, 0, 0, [])).2.1 == k) := by
  unfold usedF
  rw [show (i + 1).toNat = i.toNat + 1 by omega, List.take_add_one, List.getElem?_eq_getElem (by omega), List.getD_eq_getElem?_getD, List.getElem?_eq_getElem (by omega), Option.toList_some, List.any_append, List.any_cons, List.any_nil, Bool.or_false]
  rfl
set_option maxHeartbeats 2000000 in
theorem t_lbeg (cs : List (Int × List Bool × List Int)) (ns os : List ByteArray) (fs : List Off) (ls : List Line) (ks : List Cla) : SoundC Tryd.prog G0 3 [net cs ns os fs ls ks] [] ⟨True, .dat .bool true, []⟩ := by
  refine sound_of_ev (c := mkc K19) KS19 KI0s hm (vc_lbeg cs ns os fs ls ks ⟨rfl, fun hp => ?_⟩)
  simp only [cnd_or, cnd_and, D.and, D.or, D.not, Bool.true_and, Bool.and_true, Bool.false_or, Bool.or_false, eq_self, true_and, and_true, imp_self, implies_true, Bool.not_eq_true', Bool.or_eq_true, Bool.or_eq_false_iff, Bool.not_eq_false', Bool.and_eq_true, Bool.and_eq_false_imp, Bool.not_not, forall_const, exists_eq_right, exists_eq_right', exists_eq_left, exists_eq_left', Int.toNat_natCast, Nat.zero_add, Nat.mul_one, Int.ofNat_eq_natCast, D.nil, D.eq, D.ne, D.lt, D.gt, D.le, D.ge, D.beq, D.ilen, D.slen, D.ile, D.ilt, D.ine, D.nle, D.nlt, D.sub, D.add, D.mul, D.neg, D.nat, D.ofN, D.len, D.nadd, D.nmul, D.get, D.mn, D.mx, D.set, D.app, D.tail, D.part, D.seg, D.rep, D.at2, decide_eq_true_eq, decide_eq_false_iff_not, beq_iff_eq, bne_iff_ne, beq_eq_false_iff_ne, bne_eq_false_iff_eq, Int.toNat_zero, List.drop_zero]
  refine ⟨few_fewC, fun ⟨hf, hs⟩ => ?_⟩
  have hnil : checkF (cs, ns, os, fs, ls, ks) = [] := List.isEmpty_iff.1 hs
  obtain ⟨hno, hr⟩ := (checkF_nil cs ns os fs ls ks).1 hnil
  obtain ⟨l1, l2, l3, l4, l5, l6⟩ := few_lens cs ns os fs ls ks (fewC_iff.1 (few_fewC hf)).1
  have hcls := fun j => noF_cls cs ns os fs ls ks hno j
  have core : ∀ rs : List Cla, noF (cs, ns, os, fs, ls, rs) = true → (os.length : Int) ≠ 0 →
      inR IntKind.i64 ((os.length : Int) - 1) ∧ (∃ x : Int, upN x (fs.length : Int) ∧ false = usedF fs ((os.length : Int) - 1) x ∧ 0 = x) ∧
      ∀ x : Int, upN x (fs.length : Int) → ((x < fs.length → (usedF fs ((os.length : Int) - 1) x = false → 0 ≤ x) ∧ (usedF fs ((os.length : Int) - 1) x = false → x < fs.length) ∧ inR IntKind.i64 (x + 1) ∧
        ∃ y : Int, upN y (fs.length : Int) ∧ ((usedF fs ((os.length : Int) - 1) x || (fs.getD x.toNat (⟨#[]⟩, 0, 0, 0, 0, 0, [])).2.1 == (os.length : Int) - 1) = usedF fs ((os.length : Int) - 1) y ∧ x + 1 = y) ∧ ((fs.length : Int) - y).toNat < ((fs.length : Int) - x).toNat) ∧
        (¬ x < fs.length → (0 : Int) ≤ 0 ∧ 0 ≤ (os.length : Int) - 1 ∧ (os.length : Int) - 1 ≤ os.length ∧
          decide ((((checkF (cs, ns, os.take ((os.length : Int) - 1).toNat, fs, ls, rs)).length : Nat) : Int) > 0) = usedF fs ((os.length : Int) - 1) x)) := by
    intro rs hrs h0
    refine ⟨in_small (by omega), ⟨0, ⟨Int.le_refl _, Int.natCast_nonneg _⟩, by unfold usedF; rfl, rfl⟩, fun x ⟨x0, x1⟩ => ⟨fun hx => ?_, fun hx => ?_⟩⟩
    · exact ⟨fun _ => x0, fun _ => hx, in_small (by omega), x + 1, ⟨by omega, by omega⟩, ⟨(usedF_next x0 hx).symm, rfl⟩, by omega⟩
    · have : x = fs.length := by omega
      subst this
      exact ⟨by omega, by omega, by omega, beg_tail cs ns os fs ls rs hrs hr (by omega) (by omega)⟩
  refine ⟨fun hk => ⟨in_small (by omega), by omega, by omega, by omega, fun g => ?_, fun _ h0 => core _ (hcls _) h0⟩, fun _ h0 => core ks hno h0⟩
  rw [(checkF_nil cs ns os fs ls _).2 ⟨hcls _, hr⟩] at g
  exact absurd g (by decide)
end Go.Eng.Sv
