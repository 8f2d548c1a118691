/- PeTt5z -/
import Derived.Test.YtejeaokbkbfgjaaGreatDoorX22
import Derived.Test.YtejeaokbkbfgjaaGreatDoorTt4z
set_option linter.unusedSimpArgs false
set_option linter.unusedVariables false
set_option maxRecDepth 100000
namespace Go.Eng.Sv
open Go.Proofs

noncomputable def sameI (a b : List Int) : Bool := a == b
noncomputable def sameITo (a b : List Int) (k : Int) : Prop := 0 ≤ k ∧ k ≤ a.length ∧ a.length = b.length ∧ a.length ≤ 1000000 ∧ a.take k.toNat = b.take k.toNat
noncomputable def mildI (a : List Int) : Prop := a.length ≤ 1000000
noncomputable def intsA (a b : List Int) : Ann := ⟨fun id s => match id with
  | 4 => some { α := Int, inv := fun k => sameITo a b k, st := fun k => put s [(5, .dat I k)], μ := fun k => D.nat (D.sub (D.ilen a) k) }
  | _ => none, fun _ _ => none, fun _ _ => none⟩
set_option maxRecDepth 100000 in
theorem vc_ints (a b : List Int) (hvc :
    let c1 := D.ne (D.ilen a) (D.ilen b); true = true ∧ (mildI a → (c1 = true → false = sameI a b ∧ True) ∧ (c1 = false → (∃ x, sameITo a b x ∧ a = a ∧ b = b ∧ (0 :
     Int) = x ∧ a = a ∧ D.ilen a = D.ilen a ∧ b = b ∧ D.ilen b = D.ilen b ∧ c1 = c1 ∧ True) ∧ ∀ (x : Int),
    let c2 := D.lt x (D.ilen a);
    let c3 := D.ne (D.get a (D.nat x) (0 : Int)) (D.get b (D.nat x) (0 : Int));
    let c4 := D.add x (1 : Int); sameITo a b x → (c2 = true → D.ile (0 : Int) x ∧ D.ilt x (D.ilen a) ∧ D.ile (0 : Int) x ∧ D.ilt x (D.ilen b) ∧ (c3 = true → false =
     sameI a b ∧ True) ∧ (c3 = false → inR IntKind.i64 c4 ∧ ∃ y, sameITo a b y ∧ (a = a ∧ b = b ∧ c4 = y ∧ a = a ∧ D.ilen a = D.ilen a ∧ b = b ∧ D.ilen b = D.ilen b
     ∧ c1 = c1 ∧ True) ∧ D.nlt (D.nat (D.sub (D.ilen a) y)) (D.nat (D.sub (D.ilen a) x)))) ∧ (c2 = false → true = sameI a b ∧ True)))) :
    evF (mkc KT11) (intsA a b) 17 [.dat R a, .dat R b] [] ⟨mildI a, .dat .bool (sameI a b), []⟩ := of_eq (by kernel_rfl) hvc

noncomputable def KT12 : Kt := kOr 17 (dataK [.val R, .val R] (fun (a, _, _) => mildI a) fun (a, b, _) => .dat .bool (sameI a b)) KT11
theorem sameI_no {a b : List Int} (h : a = b → False) : false = sameI a b := by
  unfold sameI
  cases e : (a == b) with
  | false => rfl
  | true => exact (h (beq_iff_eq.1 e)).elim
theorem t_ints (a b : List Int) : SoundC Tryz.prog G0 17 [.dat R a, .dat R b] [] ⟨mildI a, .dat .bool (sameI a b), []⟩ := by
  refine sound_of_ev (c := mkc KT11) KST11 KI0s hm (vc_ints a b ⟨rfl, fun hp => ?_⟩)
  have hp : a.length ≤ 1000000 := hp
  simp only [cnd_or, cnd_and, D.and, D.or, D.not, Bool.true_and, Bool.and_true, Bool.false_or, Bool.or_false, eq_self, true_and, and_true, imp_self, implies_true, Bool.not_eq_true', Bool.or_eq_true, Bool.or_eq_false_iff, Bool.not_eq_false', Bool.and_eq_true, Bool.and_eq_false_imp, Bool.not_not, forall_const, exists_eq_right, exists_eq_right', exists_eq_left, exists_eq_left', Int.toNat_natCast, Nat.zero_add, Nat.mul_one, Int.ofNat_eq_natCast, D.nil, D.eq, D.ne, D.lt, D.gt, D.le, D.ge, D.beq, D.ilen, D.slen, D.ile, D.ilt, D.ine, D.nle, D.nlt, D.sub, D.add, D.mul, D.neg, D.nat, D.ofN, D.len, D.nadd, D.nmul, D.get, D.mn, D.mx, D.set, D.app, D.tail, D.part, D.seg, D.rep, D.at2, decide_eq_true_eq, decide_eq_false_iff_not, beq_iff_eq, bne_iff_ne, beq_eq_false_iff_ne, bne_eq_false_iff_eq, D.wrap, D.allNil]
  refine ⟨fun h => sameI_no fun e => h (by rw [e]), fun h => ⟨⟨Int.le_refl _, Int.natCast_nonneg _, by omega, hp, rfl⟩, fun x ⟨g0, g1, g2, g3, g4⟩ => ⟨fun hlt => ⟨g0, hlt, g0, by omega, fun hd => sameI_no fun e => hd (by rw [e]), fun he => ⟨in_small (by omega), x + 1, ⟨by omega, by omega, g2, g3, ?_⟩, rfl, by omega⟩⟩, fun hge => ?_⟩⟩⟩
  · rw [show (x + 1).toNat = x.toNat + 1 by omega]
    exact take_eq_next g4 (by omega) (by omega) he
  · rw [List.take_of_length_le (by omega), List.take_of_length_le (by omega)] at g4
    subst g4
    unfold sameI; simp
theorem KST12 : KSound Tryz.prog G0 KT12 := kOr_ok (dataK_ok fun (a, b, _) => t_ints a b) KST11
end Go.Eng.Sv
