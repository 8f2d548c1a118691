/- PeSvSt -/
import Derived.Test.YtgphkkpblecfgabGreatDoorY22
import Derived.Test.YtgphkkpblecfgabGreatDoorSvKt
set_option linter.unusedSimpArgs false
set_option linter.unusedVariables false
set_option maxRecDepth 100000
namespace Go.Eng.Sv
open Go.Proofs
noncomputable def K18 : Kt := K16
theorem vc_sound (cs : LC) (ns os : LB) (fs : List Off) (ls : List Line) (ks : List Cla) (hvc :
 let c1 := (cs, ns, os, fs, ls, ks); true = true ∧ (fewC c1 = true → fewC c1 = true ∧ D.eq (D.ilen (checkF c1)) (0 : Int) = soundF c1 ∧ True)) :
    evF (mkc K18) noAnn 51 [net cs ns os fs ls ks] [] ⟨fewC (cs, ns, os, fs, ls, ks) = true, .dat .bool (soundF (cs, ns, os, fs, ls, ks)), []⟩ := of_eq (by kernel_rfl) hvc
noncomputable def K19 : Kt := kOr 51 (dataK [.row N] (fun (n, _) => fewC n = true) fun (n, _) => .dat .bool (soundF n)) K18
theorem KS18' : KSound Tryz.prog G0 K18 := KS16
theorem noF_offs (cs : LC) (ns os : LB) (fs : List Off) (ls : List Line) (ks : List Cla) (h : noF (cs, ns, os, fs, ls, ks) = true) : (fs.length : Int) ≤ 12 ∧ (∀ x ∈ fs, isNameF x.1 = true) ∧ fs.Pairwise (fun a b => a.1.toList ≠ b.1.toList) ∧ ∀ x ∈ fs, goodOff (cs, ns, os, fs, ls, ks) x = true :=
  (kindMap_iff (by decide) (fun l : Off => l.1) (goodOff (cs, ns, os, fs, ls, ks)) fs).1 (no_parts cs ns os fs ls ks h).2.2.2.1
theorem t_sound (cs : LC) (ns os : LB) (fs : List Off) (ls : List Line) (ks : List Cla) : SoundC Tryz.prog G0 51 [net cs ns os fs ls ks] [] ⟨fewC (cs, ns, os, fs, ls, ks) = true, .dat .bool (soundF (cs, ns, os, fs, ls, ks)), []⟩ := by
  refine sound_of_ev (c := mkc K18) KS18' KI0s hm (vc_sound cs ns os fs ls ks ⟨rfl, fun hp => ?_⟩)
  simp only [cnd_or, cnd_and, D.and, D.or, D.not, Bool.true_and, Bool.and_true, Bool.false_or, Bool.or_false, eq_self, true_and, and_true, imp_self, implies_true, Bool.not_eq_true', Bool.or_eq_true, Bool.or_eq_false_iff, Bool.not_eq_false', Bool.and_eq_true, Bool.and_eq_false_imp, Bool.not_not, forall_const, exists_eq_right, exists_eq_right', exists_eq_left, exists_eq_left', Int.toNat_natCast, Nat.zero_add, Nat.mul_one, Int.ofNat_eq_natCast, D.nil, D.eq, D.ne, D.lt, D.gt, D.le, D.ge, D.beq, D.ilen, D.slen, D.ile, D.ilt, D.ine, D.nle, D.nlt, D.sub, D.add, D.mul, D.neg, D.nat, D.ofN, D.len, D.nadd, D.nmul, D.get, D.mn, D.mx, D.set, D.app, D.tail, D.part, D.seg, D.rep, D.at2, decide_eq_true_eq, decide_eq_false_iff_not, beq_iff_eq, bne_iff_ne, beq_eq_false_iff_ne, bne_eq_false_iff_eq, D.wrap, D.allNil]
  refine ⟨hp, ?_⟩
  unfold soundF
  cases checkF (cs, ns, os, fs, ls, ks) with
  | nil => rfl
  | cons a l =>
    show decide _ = false
    rw [decide_eq_false_iff_not]
    show ¬ ((((a :: l).length : Nat) : Int) = 0)
    rw [List.length_cons]; omega
theorem KS19 : KSound Tryz.prog G0 K19 := kOr_ok (dataK_ok fun ((cs, ns, os, fs, ls, ks), _) => t_sound cs ns os fs ls ks) KS18'
theorem checkF_nil (cs : LC) (ns os : LB) (fs : List Off) (ls : List Line) (ks : List Cla) : checkF (cs, ns, os, fs, ls, ks) = [] ↔ noF (cs, ns, os, fs, ls, ks) = true ∧ reachTo fs.length ls fs.length = [] := by
  unfold checkF
  cases h : noF (cs, ns, os, fs, ls, ks) with
  | true => exact ⟨fun g => ⟨rfl, g⟩, fun g => g.2⟩
  | false =>
    constructor
    · intro g
      have : noF (cs, ns, os, fs, ls, ks) = true := noF_iff.2 g
      rw [h] at this; cases this
    · intro g; cases g.1
end Go.Eng.Sv
