/- PeCal8: a further holiday. -/
import Derived.Test.YtmofcccjepbhjaaCal6
import Derived.Test.YtmofcccjepbhjaaCal7
set_option linter.unusedSimpArgs false
set_option linter.unusedVariables false
namespace Go.Eng.Cal
open Go.Proofs

theorem insF_any {d : Int} : ∀ {l : List Int} (k : List Int), (l.any fun x => decide (x > d)) = true → insF d (l ++ k) = insF d l ++ k
  | [], _, h => by simp at h
  | x :: l, k, h => by
    simp only [List.any_cons, Bool.or_eq_true, decide_eq_true_eq] at h
    simp only [List.cons_append, insF]
    by_cases hx : x > d
    · simp [hx]
    · simp only [if_neg hx, List.cons_append]
      rw [insF_any k (h.resolve_left hx)]
theorem insF_none {d : Int} : ∀ {l : List Int} (k : List Int), (l.any fun x => decide (x > d)) = false → insF d (l ++ k) = l ++ insF d k
  | [], _, _ => rfl
  | x :: l, k, h => by
    simp only [List.any_cons, Bool.or_eq_false_iff, decide_eq_false_iff_not] at h
    simp only [List.cons_append, insF]
    rw [if_neg h.1, insF_none k h.2]
theorem insF_mem {d x : Int} : ∀ {l : List Int}, x ∈ insF d l ↔ x = d ∨ x ∈ l
  | [] => by simp [insF]
  | y :: l => by
    simp only [insF]
    split
    · simp
    · simp only [List.mem_cons, insF_mem]
      constructor
      · rintro (h | h | h)
        · exact .inr (.inl h)
        · exact .inl h
        · exact .inr (.inr h)
      · rintro (h | h | h)
        · exact .inr (.inl h)
        · exact .inl h
        · exact .inr (.inr h)

theorem take_next {l : List Int} {x : Int} (h0 : 0 ≤ x) (h1 : x < l.length) : l.take (x + 1).toNat = l.take x.toNat ++ [l.getD x.toNat 0] := by
  have hlt : x.toNat < l.length := by omega
  rw [show (x + 1).toNat = x.toNat + 1 by omega, List.take_add_one, List.getElem?_eq_getElem hlt, List.getD_eq_getElem?_getD, List.getElem?_eq_getElem hlt]
  rfl
theorem gtTo_succ {l : List Int} {d x : Int} (h0 : 0 ≤ x) (h1 : x < l.length) : gtTo l d (x + 1) = (gtTo l d x || decide (l.getD x.toNat 0 > d)) := by
  unfold gtTo
  rw [take_next h0 h1, List.any_append]
  simp only [List.any_cons, List.any_nil, Bool.or_false]
theorem outTo_a {l : List Int} {d x : Int} (h0 : 0 ≤ x) (h1 : x < l.length) (hy : l.getD x.toNat 0 > d) (hg : gtTo l d x = false) : outTo l d (x + 1) = outTo l d x ++ [d] ++ [l.getD x.toNat 0] := by
  unfold outTo
  rw [gtTo_succ h0 h1, hg, decide_eq_true hy]
  simp only [Bool.or_true, if_true, Bool.false_eq_true, if_false]
  unfold gtTo at hg
  rw [take_next h0 h1, insF_none _ hg, show insF d [l.getD x.toNat 0] = [d, l.getD x.toNat 0] from by simp only [insF, if_pos hy], List.append_assoc]
  rfl
theorem outTo_b {l : List Int} {d x : Int} (h0 : 0 ≤ x) (h1 : x < l.length) (hb : (decide (l.getD x.toNat 0 > d) && !gtTo l d x) = false) : outTo l d (x + 1) = outTo l d x ++ [l.getD x.toNat 0] ∧ gtTo l d (x + 1) = gtTo l d x := by
  cases hg : gtTo l d x with
  | true =>
    unfold outTo
    rw [gtTo_succ h0 h1, hg]
    simp only [Bool.true_or, if_true, and_true]
    unfold gtTo at hg
    rw [take_next h0 h1, insF_any _ hg]
  | false =>
    rw [hg] at hb
    simp only [Bool.not_false, Bool.and_true] at hb
    unfold outTo
    rw [gtTo_succ h0 h1, hg, hb]
    simp only [Bool.or_self, Bool.false_eq_true, if_false, and_true]
    exact take_next h0 h1
theorem outTo_len (l : List Int) (d x : Int) : (outTo l d x).length ≤ l.length + 1 := by
  unfold outTo
  have hins : ∀ k : List Int, (insF d k).length = k.length + 1 := by
    intro k
    induction k with
    | nil => rfl
    | cons y k ih =>
      simp only [insF]
      split
      · rfl
      · simp [ih]
  split
  · rw [hins, List.length_take]; omega
  · rw [List.length_take]; omega
theorem not_mem_end {l : List Int} {d x : Int} (hx : addsTo l d x) (hge : ¬ x < l.length) : l.contains d = false := by
  obtain ⟨x0, x1, x2⟩ := hx
  rw [List.take_of_length_le (by omega)] at x2
  cases hc : l.contains d with
  | false => rfl
  | true => exact (x2 d (by simpa using hc) rfl).elim

theorem s_added (l : List Int) (d : Int) : SoundC Try.prog G0 18 [.dat R l, .dat I d] [] ⟨shortP l, .tup [.dat R (addedF l d), .dat .bool (addedB l d)], []⟩ := by
  refine sound_of_ev (c := mkc K0) KS0 KI0s hm (vc_added l d ⟨rfl, fun hl => ?_⟩)
  simp only [cnd_or, cnd_and, D.and, D.not, D.eq, D.ne, D.beq, D.rem, Bool.true_and, eq_self, true_and, and_true, imp_self, implies_true, Bool.not_true, Bool.not_false, Bool.false_or, Bool.true_or, Bool.or_true, Bool.or_false, Bool.or_self, Bool.and_self, Bool.and_true, Bool.false_and, Bool.and_false, Bool.not_eq_true', Bool.not_eq_false', Bool.false_eq_true, Bool.true_eq_false, reduceCtorEq, false_implies, forall_const, D.lt, D.gt, D.ge, D.le, D.sub, D.add, D.nlt, D.nat, D.len, D.ofN, D.nadd, D.ine, decide_eq_true_eq, decide_eq_false_iff_not, decide_false, decide_true, okLocal, okTime, argP, addP, countP, D.ilen, D.ile, D.ilt, D.get, D.app, D.nle, D.nmul]
  have hl : l.length ≤ 1048576 := hl
  refine ⟨⟨0, ⟨by omega, by omega, fun x hx => by simp at hx⟩, rfl, rfl, rfl, rfl, rfl⟩, fun x hx => ⟨fun hlt => ?_, fun hge => ?_⟩⟩
  · obtain ⟨x0, x1, x2⟩ := hx
    have hlen := outTo_len l d x
    have hxl : x.toNat < l.length := by omega
    have hmem : l.getD x.toNat 0 ∈ l := by
      rw [List.getD_eq_getElem?_getD, List.getElem?_eq_getElem hxl]
      exact List.getElem_mem _
    refine ⟨x0, hlt, fun he => ?_, fun hne => ⟨x0, hlt, fun hb => ?_, fun hb => ?_⟩⟩
    · have he : l.getD x.toNat 0 = d := by simpa using he
      rw [he] at hmem
      have hc : l.contains d = true := by simpa using hmem
      exact ⟨by simp [addedF, hmem], by simp [addedB, hmem]⟩
    · have hne : l.getD x.toNat 0 ≠ d := by simpa using hne
      simp only [Bool.and_eq_true, decide_eq_true_eq, Bool.not_eq_true'] at hb
      have e := outTo_a x0 hlt hb.1 hb.2
      have el := congrArg List.length e
      simp only [List.length_append, List.length_cons, List.length_nil] at el ⊢
      refine ⟨by omega, by omega, x0, hlt, ?_⟩
      try simp only [true_and]
      refine ⟨by omega, by omega, by simp only [inR]; omega, x + 1, ⟨by omega, by omega, fun y hy => ?_⟩, ⟨el.symm, ?_, rfl, e.symm⟩, by omega⟩
      · rw [take_next x0 hlt] at hy
        rcases List.mem_append.1 hy with g | g
        · exact x2 y g
        · rw [List.mem_singleton.1 g]; exact hne
      · rw [gtTo_succ x0 hlt, decide_eq_true hb.1, Bool.or_true]
    · have hne : l.getD x.toNat 0 ≠ d := by simpa using hne
      obtain ⟨e, eg⟩ := outTo_b x0 hlt hb
      have el := congrArg List.length e
      simp only [List.length_append, List.length_cons, List.length_nil] at el ⊢
      refine ⟨x0, hlt, by omega, by omega, by simp only [inR]; omega, x + 1, ⟨by omega, by omega, fun y hy => ?_⟩, ⟨el.symm, eg.symm, rfl, e.symm⟩, by omega⟩
      rw [take_next x0 hlt] at hy
      rcases List.mem_append.1 hy with g | g
      · exact x2 y g
      · rw [List.mem_singleton.1 g]; exact hne
  · have hc := not_mem_end hx hge
    obtain ⟨x0, x1, x2⟩ := hx
    have hlen := outTo_len l d x
    have ht : l.take x.toNat = l := List.take_of_length_le (by omega)
    have eb : addedB l d = true := by unfold addedB; rw [hc]; rfl
    have ea : addedF l d = insF d l := by unfold addedF; rw [hc]; rfl
    refine ⟨fun hg => ?_, fun hg => ?_⟩
    · have e1 : outTo l d x = l := by unfold outTo; rw [hg]; simp only [Bool.false_eq_true, if_false]; exact ht
      unfold gtTo at hg
      rw [ht] at hg
      rw [e1, ea, eb]
      simp only [List.length_append, List.length_cons, List.length_nil]
      refine ⟨by omega, by omega, trivial, ?_, trivial⟩
      have := insF_none (d := d) [] hg
      rw [List.append_nil] at this
      rw [this]; rfl
    · have e1 : outTo l d x = insF d l := by unfold outTo; rw [hg]; simp only [if_true]; rw [ht]
      rw [e1, ea, eb]
      exact ⟨rfl, rfl⟩

theorem KS8 : KSound Try.prog G0 K8 := by
  intro f args m c h
  unfold K8 at h
  split at h
  · cases h; exact s_added _ _
  · cases h; exact s_head
  · exact KS5 _ _ _ _ h

theorem work_ins {w : List Bool} {h : List Int} {d x : Int} : workF w (insF d h) x = (workF w h x && !decide (x = d)) := by
  unfold workF
  have : (insF d h).contains x = (decide (x = d) || h.contains x) := by
    rw [Bool.eq_iff_iff]
    simp only [List.contains_iff_mem, Bool.or_eq_true, decide_eq_true_eq]
    exact insF_mem
  rw [this]
  cases w.getD (x % 7).toNat false <;> cases h.contains x <;> cases decide (x = d) <;> rfl
theorem cnt_ins {w : List Bool} {h : List Int} {d a : Int} : ∀ k : Nat, cntTo w h a (a + k) = cntTo w (insF d h) a (a + k) + (if a ≤ d ∧ d < a + k ∧ workF w h d = true then 1 else 0)
  | 0 => by
    rw [show a + ((0 : Nat) : Int) = a by omega, cnt_zero, cnt_zero, if_neg (by omega)]
  | k + 1 => by
    have e : a + ((k + 1 : Nat) : Int) = a + (k : Int) + 1 := by omega
    rw [e, cnt_succ (by omega), cnt_succ (by omega), cnt_ins (d := d) k, work_ins]
    by_cases hx : a + (k : Int) = d
    · subst hx
      rw [if_neg (show ¬ (a ≤ a + (k : Int) ∧ a + (k : Int) < a + (k : Int) ∧ workF w h (a + (k : Int)) = true) by omega)]
      have e3 : (workF w h (a + (k : Int)) && !decide (a + (k : Int) = a + (k : Int))) = false := by simp
      rw [e3]
      by_cases hw : workF w h (a + (k : Int)) = true
      · have c : a ≤ a + (k : Int) ∧ a + (k : Int) < a + (k : Int) + 1 ∧ workF w h (a + (k : Int)) = true := ⟨by omega, by omega, hw⟩
        rw [if_pos hw, if_pos c]; simp
      · have c : ¬ (a ≤ a + (k : Int) ∧ a + (k : Int) < a + (k : Int) + 1 ∧ workF w h (a + (k : Int)) = true) := fun g => hw g.2.2
        rw [if_neg hw, if_neg c]; simp
    · have e2 : (workF w h (a + (k : Int)) && !decide (a + (k : Int) = d)) = workF w h (a + (k : Int)) := by rw [decide_eq_false hx]; simp
      rw [e2]
      by_cases hq : a ≤ d ∧ d < a + (k : Int) ∧ workF w h d = true
      · have c : a ≤ d ∧ d < a + (k : Int) + 1 ∧ workF w h d = true := ⟨hq.1, by omega, hq.2.2⟩
        rw [if_pos hq, if_pos c]; omega
      · have c : ¬ (a ≤ d ∧ d < a + (k : Int) + 1 ∧ workF w h d = true) := fun g => hq ⟨g.1, by omega, g.2.2⟩
        rw [if_neg hq, if_neg c]; omega
theorem cnt_le (w : List Bool) (h : List Int) (a b : Int) : cntTo w h a b ≤ (b - a).toNat := by
  unfold cntTo
  exact Nat.le_trans (List.length_filter_le _ _) (by simp)

theorem s_lholi (z : Int) (w : List Bool) (h : List Int) (r p q o : Int) : SoundC Try.prog G0 8 [cal z w h, .dat S32 r, .dat U8 p, .dat U8 q, .dat U8 o] [] ⟨r32 r ∧ r8 p ∧ r8 q ∧ r8 o ∧ shortP h, .dat .bool true, []⟩ := by
  refine sound_of_ev (c := mkc K8) KS8 KI0s hm (vc_lholi z w h r p q o ⟨rfl, fun ⟨⟨r1, r2⟩, ⟨p1, p2⟩, ⟨q1, q2⟩, ⟨o1, o2⟩, hs⟩ => ?_⟩)
  obtain ⟨t1, t2⟩ := tm r (show (0 : Int) < 900001 by omega)
  generalize hd : D.rem r 900001 = d
  have hd : r.tmod 900001 = d := hd
  rw [hd] at t1 t2
  have hr : inR IntKind.i64 r := by simp only [inR]; omega
  cases hf : fineF z w h with
  | false => simp only [cnd_or, cnd_and, D.and, D.not, D.eq, D.ne, D.beq, D.rem, Bool.true_and, eq_self, true_and, and_true, imp_self, implies_true, Bool.not_true, Bool.not_false, Bool.false_or, Bool.true_or, Bool.or_true, Bool.or_false, Bool.or_self, Bool.and_self, Bool.and_true, Bool.false_and, Bool.and_false, Bool.not_eq_true', Bool.not_eq_false', Bool.false_eq_true, Bool.true_eq_false, reduceCtorEq, false_implies, forall_const, D.lt, D.gt, D.ge, D.le, D.sub, D.add, D.nlt, D.nat, D.len, D.ofN, D.nadd, D.ine, decide_eq_true_eq, decide_eq_false_iff_not, decide_false, decide_true, okLocal, okTime, argP, addP, countP, hf]; exact ⟨hr, by omega, hs⟩
  | true =>
    have hv := fine_valid hf
    cases ha : addedB h d with
    | false => simp only [cnd_or, cnd_and, D.and, D.not, D.eq, D.ne, D.beq, D.rem, Bool.true_and, eq_self, true_and, and_true, imp_self, implies_true, Bool.not_true, Bool.not_false, Bool.false_or, Bool.true_or, Bool.or_true, Bool.or_false, Bool.or_self, Bool.and_self, Bool.and_true, Bool.false_and, Bool.and_false, Bool.not_eq_true', Bool.not_eq_false', Bool.false_eq_true, Bool.true_eq_false, reduceCtorEq, false_implies, forall_const, D.lt, D.gt, D.ge, D.le, D.sub, D.add, D.nlt, D.nat, D.len, D.ofN, D.nadd, D.ine, decide_eq_true_eq, decide_eq_false_iff_not, decide_false, decide_true, okLocal, okTime, argP, addP, countP, hf, hv, ha]; exact ⟨hr, by omega, hs⟩
    | true =>
      cases hf2 : fineF z w (addedF h d) with
      | false => simp only [cnd_or, cnd_and, D.and, D.not, D.eq, D.ne, D.beq, D.rem, Bool.true_and, eq_self, true_and, and_true, imp_self, implies_true, Bool.not_true, Bool.not_false, Bool.false_or, Bool.true_or, Bool.or_true, Bool.or_false, Bool.or_self, Bool.and_self, Bool.and_true, Bool.false_and, Bool.and_false, Bool.not_eq_true', Bool.not_eq_false', Bool.false_eq_true, Bool.true_eq_false, reduceCtorEq, false_implies, forall_const, D.lt, D.gt, D.ge, D.le, D.sub, D.add, D.nlt, D.nat, D.len, D.ofN, D.nadd, D.ine, decide_eq_true_eq, decide_eq_false_iff_not, decide_false, decide_true, okLocal, okTime, argP, addP, countP, hf, hv, ha, hf2]; exact ⟨hr, by omega, hs⟩
      | true =>
        have hv2 := fine_valid hf2
        simp only [cnd_or, cnd_and, D.and, D.not, D.eq, D.ne, D.beq, D.rem, Bool.true_and, eq_self, true_and, and_true, imp_self, implies_true, Bool.not_true, Bool.not_false, Bool.false_or, Bool.true_or, Bool.or_true, Bool.or_false, Bool.or_self, Bool.and_self, Bool.and_true, Bool.false_and, Bool.and_false, Bool.not_eq_true', Bool.not_eq_false', Bool.false_eq_true, Bool.true_eq_false, reduceCtorEq, false_implies, forall_const, D.lt, D.gt, D.ge, D.le, D.sub, D.add, D.nlt, D.nat, D.len, D.ofN, D.nadd, D.ine, decide_eq_true_eq, decide_eq_false_iff_not, decide_false, decide_true, okLocal, okTime, argP, addP, countP, hf, hv, ha, hf2, hv2]
        have hc : h.contains d = false := by
          unfold addedB at ha
          cases hq : h.contains d with
          | false => rfl
          | true => rw [hq] at ha; cases ha
        have ea : addedF h d = insF d h := by unfold addedF; rw [hc]; rfl
        rw [ea]
        have hdd : inDays d = true := inDays_of (by omega) (by omega)
        have hw1 : workF w (insF d h) d = false := by rw [work_ins]; simp
        have i1 : inDays (d - p + o) = true := inDays_of (by omega) (by omega)
        have i2 : inDays (d - p) = true := inDays_of (by omega) (by omega)
        have i3 : inDays (d - p + q) = true := inDays_of (by omega) (by omega)
        have k1 := count_eq (w := w) (h := h) (a := d - p) (b := d - p + q) (by omega) (by omega)
        have k2 := count_eq (w := w) (h := insF d h) (a := d - p) (b := d - p + q) (by omega) (by omega)
        have k3 := cnt_ins (w := w) (h := h) (d := d) (a := d - p + 1) q.toNat
        rw [show d - p + 1 + (q.toNat : Int) = d - p + q + 1 by omega] at k3
        have k4 := cnt_le w h (d - p + 1) (d - p + q + 1)
        rw [k1, k2]
        refine ⟨hr, by omega, hs, by simp only [inR]; omega, by simp only [inR]; omega, by simp only [inR]; omega, by simp only [inR]; omega, hdd, fun _ => i1, fun _ => i1, fun hb => ?_, fun _ => ⟨by simp only [inR]; omega, by simp only [inR]; omega, by simp only [inR]; omega, by simp only [inR]; omega, hdd, fun hb => ?_, fun hb => ?_⟩⟩
        · rw [hw1, Bool.false_or, work_ins] at hb
          simp only [Bool.and_eq_true, bne_iff_ne, ne_eq] at hb
          obtain ⟨b1, b2⟩ := hb
          simp [b1] at b2
        · simp only [Bool.and_eq_true, decide_eq_true_eq] at hb
          obtain ⟨⟨b1, b2⟩, b3⟩ := hb
          rw [if_pos ⟨by omega, by omega, b1⟩] at k3
          refine ⟨⟨i2, i3⟩, ⟨i2, i3⟩, by simp only [inR]; omega, ?_⟩
          simp only [beq_iff_eq]
          omega
        · have hn : ¬ (d - p + 1 ≤ d ∧ d < d - p + q + 1 ∧ workF w h d = true) := fun ⟨g1, g2, g3⟩ => by
            rw [g3, decide_eq_true (show d > d - p by omega), decide_eq_true (show d ≤ d - p + q by omega)] at hb
            cases hb
          rw [if_neg hn] at k3
          refine ⟨⟨i2, i3⟩, ⟨i2, i3⟩, by simp only [inR]; omega, ?_⟩
          simp only [beq_iff_eq]
          omega
end Go.Eng.Cal
