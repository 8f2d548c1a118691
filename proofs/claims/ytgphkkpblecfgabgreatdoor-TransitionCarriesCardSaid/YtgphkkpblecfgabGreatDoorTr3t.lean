/- PeTr3t -/
import Derived.Test.YtgphkkpblecfgabGreatDoorY22
import Derived.Test.YtgphkkpblecfgabGreatDoorTr2t
set_option linter.unusedSimpArgs false
set_option linter.unusedVariables false
set_option maxRecDepth 100000
namespace Go.Eng.Sv
open Go.Proofs
theorem KSR3 : KSound Tryz.prog G0 KR3 := kOr_ok (dataK_ok fun (i, l, _) => t_pinside i l) <| kOr_ok (dataK_ok fun (t, _) => t_pinRange t) <| kOr_ok (dataK_ok fun ((cs, ns, os, fs, ls, ks), _) => t_psound cs ns os fs ls ks) <|
  kOr_ok (dataK_ok fun ((cs, ns, os, fs, ls, ks), o, _) => t_pcalOf o cs ns os fs ls ks) <| kOr_ok (dataK_ok fun (c, m, t, _) => t_pfirst m t c) <| kOr_ok (dataK_ok fun ((cs, ns, os, fs, ls, ks), o, t, _) => t_pready o t cs ns os fs ls ks) <|
  kOr_ok (dataK_ok fun (v, e, _) => (t_pmust v e).1) <| kOr_ok (dataK_ok fun (b, _) => (t_pdemand b).1) KSR2
theorem tab_row {n : Net} {nx : List (List Int)} (hl : (nx.length : Int) = n.2.2.2.1.length) : tabF n nx = true ↔ ∀ i : Nat, (i : Int) < nx.length → rowOk n i (nx.getD i []) = true := by
  unfold tabF
  simp only [Bool.and_eq_true, decide_eq_true_eq, List.all_eq_true, List.mem_range]
  exact ⟨fun h i hi => h.2 i (by omega), fun h => ⟨hl, fun i hi => h i (by omega)⟩⟩
theorem row_cell {n : Net} {o : Int} {row : List Int} (hl : (row.length : Int) = n.2.2.2.1.length) : rowOk n o row = true ↔ ∀ i : Nat, (i : Int) < row.length → cellOk n o (row.getD i 0) = true := by
  unfold rowOk
  simp only [Bool.and_eq_true, decide_eq_true_eq, List.all_eq_true]
  refine ⟨fun h i hi => h.2 _ ?_, fun h => ⟨hl, fun x hx => ?_⟩⟩
  · rw [List.getD_eq_getElem?_getD, List.getElem?_eq_getElem (by omega), Option.getD_some]; exact List.getElem_mem _
  · obtain ⟨i, hi, rfl⟩ := List.mem_iff_getElem.1 hx
    have := h i (by omega)
    rw [List.getD_eq_getElem?_getD, List.getElem?_eq_getElem hi, Option.getD_some] at this
    exact this
theorem cell_cnd (n : Net) (o l : Int) : D.cnd (D.ne l (-1)) (D.cnd (D.not (idxF l (D.ilen n.2.2.2.2.1))) true (D.ne (lnFrom n l) o)) false = !cellOk n o l := by
  unfold cellOk
  simp only [D.cnd, D.ne, D.not, D.ilen]
  by_cases h : l = -1
  · simp [h]
  · have hb : (l != -1) = true := by simpa using h
    rw [hb]
    cases hi : idxF l n.2.2.2.2.1.length
    · simp [h]
    · by_cases hf : lnFrom n l = o <;> simp [h, hf]
theorem t_pformed (nx : List (List Int)) (cs : LC) (ns os : LB) (fs : List Off) (ls : List Line) (ks : List Cla) : SoundC Tryz.prog G0 39 [.ip N (cs, ns, os, fs, ls, ks), .dat M nx] [] ⟨fitsM nx, .dat .bool (tabF (cs, ns, os, fs, ls, ks) nx), []⟩ := by
  refine sound_of_ev (c := mkc KR3) KSR3 KI0s hm (vc_pformed nx cs ns os fs ls ks ⟨rfl, fun hf => ?_⟩)
  have ec : ∀ l x : Int, D.cnd (D.ne l (-1)) (D.cnd (D.not (idxF l (D.ilen ls))) true (D.ne (D.get ls (D.nat l) (ByteArray.mk (D.nil UInt8).toArray, (0 : Int), (0 : Int), (0 : Int), (0 : Int), (0 : Int))).snd.fst x)) false = !cellOk (cs, ns, os, fs, ls, ks) x l := fun l x => cell_cnd (cs, ns, os, fs, ls, ks) x l
  simp only [ec]
  simp only [cnd_or, cnd_and, D.and, D.or, D.not, Bool.true_and, Bool.and_true, Bool.false_or, Bool.or_false, eq_self, true_and, and_true, imp_self, implies_true, Bool.not_eq_true', Bool.or_eq_true, Bool.or_eq_false_iff, Bool.not_eq_false', Bool.and_eq_true, Bool.and_eq_false_imp, Bool.not_not, forall_const, exists_eq_right, exists_eq_right', exists_eq_left, exists_eq_left', Int.toNat_natCast, Nat.zero_add, Nat.mul_one, Int.ofNat_eq_natCast, D.nil, D.eq, D.ne, D.lt, D.gt, D.le, D.ge, D.beq, D.ilen, D.slen, D.ile, D.ilt, D.ine, D.nle, D.nlt, D.sub, D.add, D.mul, D.neg, D.nat, D.ofN, D.len, D.nadd, D.nmul, D.get, D.mn, D.mx, D.set, D.app, D.tail, D.part, D.seg, D.rep, D.at2, decide_eq_true_eq, decide_eq_false_iff_not, beq_iff_eq, bne_iff_ne, beq_eq_false_iff_ne, bne_eq_false_iff_eq, D.wrap, D.allNil]
  obtain ⟨hf1, hf2⟩ := hf
  have hz : ∀ x l : Int, ¬ l = -1 ∧ idxF l ls.length = true → 0 ≤ l ∧ l < ls.length := fun x l h => by
    have := h.2; unfold idxF at this; simpa using this
  have hr : ∀ x : Int, 0 ≤ x → x < nx.length → (nx.getD x.toNat []).length ≤ 1000000 := fun x h0 h1 => hf2 _ (by
    rw [List.getD_eq_getElem?_getD, List.getElem?_eq_getElem (by omega), Option.getD_some]; exact List.getElem_mem _)
  have hct : ∀ x : Int, 0 ≤ x → ((x.toNat : Nat) : Int) = x := fun x h => by omega
  refine ⟨fun hne => ?_, fun he => ⟨⟨Int.le_refl _, by omega, he, fun i h => by omega⟩, fun x hx => ⟨fun hlt => ⟨hx.1, hlt, fun hr' => ?_, fun hr' => ⟨⟨Int.le_refl _, by omega, hr', fun i h => by omega⟩, fun y hy => ⟨fun hlty => ⟨hy.1, hlty, fun h => (hz x _ h).1, fun h => (hz x _ h).2, fun hc => ?_, fun hc => ?_⟩, fun hgey => ?_⟩⟩⟩, fun hge => ?_⟩⟩⟩
  · unfold tabF
    rw [decide_eq_false hne]; rfl
  · refine (Bool.eq_false_iff.2 fun ht => hr' ?_).symm
    have h := (tab_row he).1 ht x.toNat (by have := hx.1; omega)
    unfold rowOk at h
    simp only [Bool.and_eq_true, decide_eq_true_eq] at h
    exact h.1
  · refine (Bool.eq_false_iff.2 fun ht => ?_).symm
    have h := (tab_row he).1 ht x.toNat (by have := hx.1; omega)
    rw [hct x hx.1] at h
    have h2 := (row_cell (n := (cs, ns, os, fs, ls, ks)) hr').1 h y.toNat (by have := hy.1; omega)
    rw [h2] at hc; cases hc
  · have h1 := hr x hx.1 hlt
    refine ⟨by unfold inR; simp only; have := hy.1; omega, y + 1, ⟨by have := hy.1; omega, by omega, hr', fun i hi => ?_⟩, rfl, by have := hy.1; omega⟩
    by_cases h : (i : Int) < y
    · exact hy.2.2.2 i h
    · have : i = y.toNat := by omega
      rw [this]; exact hc
  · refine ⟨by unfold inR; simp only; have := hx.1; omega, x + 1, ⟨by have := hx.1; omega, by omega, he, fun i hi => ?_⟩, rfl, by have := hx.1; omega⟩
    by_cases h : (i : Int) < x
    · exact hx.2.2.2 i h
    · have : i = x.toNat := by have := hx.1; omega
      rw [this, hct x hx.1]
      exact (row_cell (n := (cs, ns, os, fs, ls, ks)) hr').2 fun j hj => hy.2.2.2 j (by omega)
  · exact ((tab_row he).2 fun i hi => hx.2.2.2 i (by omega)).symm
theorem t_pdepart (l t : Int) (cs : LC) (ns os : LB) (fs : List Off) (ls : List Line) (ks : List Cla) : SoundC Tryz.prog G0 59 [.ip N (cs, ns, os, fs, ls, ks), .dat I l, .dat I t] [] ⟨linP (cs, ns, os, fs, ls, ks) l, .tup [.dat I (depD (cs, ns, os, fs, ls, ks) l t), .dat I (depE (cs, ns, os, fs, ls, ks) l t)], []⟩ := by
  refine sound_of_ev (c := mkc KR3) KSR3 KI0s hm (vc_pdepart l t cs ns os fs ls ks ⟨rfl, fun hp => ?_⟩)
  simp only [cnd_or, cnd_and, D.and, D.or, D.not, Bool.true_and, Bool.and_true, Bool.false_or, Bool.or_false, eq_self, true_and, and_true, imp_self, implies_true, Bool.not_eq_true', Bool.or_eq_true, Bool.or_eq_false_iff, Bool.not_eq_false', Bool.and_eq_true, Bool.and_eq_false_imp, Bool.not_not, forall_const, exists_eq_right, exists_eq_right', exists_eq_left, exists_eq_left', Int.toNat_natCast, Nat.zero_add, Nat.mul_one, Int.ofNat_eq_natCast, D.nil, D.eq, D.ne, D.lt, D.gt, D.le, D.ge, D.beq, D.ilen, D.slen, D.ile, D.ilt, D.ine, D.nle, D.nlt, D.sub, D.add, D.mul, D.neg, D.nat, D.ofN, D.len, D.nadd, D.nmul, D.get, D.mn, D.mx, D.set, D.app, D.tail, D.part, D.seg, D.rep, D.at2, decide_eq_true_eq, decide_eq_false_iff_not, beq_iff_eq, bne_iff_ne, beq_eq_false_iff_ne, bne_eq_false_iff_eq, D.wrap, D.allNil]
  refine ⟨fun h => ?_, fun h => ?_⟩
  · unfold depD depE
    rw [h]; exact ⟨rfl, rfl⟩
  · obtain ⟨g1, g2, g3, g4, g5, g6, g7, g8⟩ := lin_ok cs ns os fs ls ks hp
    have ho : offP (cs, ns, os, fs, ls, ks) (lnFrom (cs, ns, os, fs, ls, ks) l) := ⟨hp.1, g1, g2⟩
    have hv := (off_ok cs ns os fs ls ks ho).2.2.1
    have ht : 0 ≤ t ∧ t ≤ 2000000 := of_decide_eq_true h
    have hf : fstP (calAt (cs, ns, os, fs, ls, ks) (lnFrom (cs, ns, os, fs, ls, ks) l)) (lnAt (cs, ns, os, fs, ls, ks) l) t := ⟨hv, g5, by omega, by omega, by omega⟩
    have e1 : depD (cs, ns, os, fs, ls, ks) l t = fstD (calAt (cs, ns, os, fs, ls, ks) (lnFrom (cs, ns, os, fs, ls, ks) l)) (lnAt (cs, ns, os, fs, ls, ks) l) t := if_pos h
    have e2 : depE (cs, ns, os, fs, ls, ks) l t = fstE (calAt (cs, ns, os, fs, ls, ks) (lnFrom (cs, ns, os, fs, ls, ks) l)) (lnAt (cs, ns, os, fs, ls, ks) l) t := if_pos h
    exact ⟨hp.2.1, hp.2.2, ho, hp.2.1, hp.2.2, hf, e1.symm, e2.symm⟩
end Go.Eng.Sv
