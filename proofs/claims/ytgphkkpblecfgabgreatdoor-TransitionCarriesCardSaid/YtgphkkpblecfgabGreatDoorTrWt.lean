/- PeTrWt -/
import Derived.Test.YtgphkkpblecfgabGreatDoorY22
import Derived.Test.YtgphkkpblecfgabGreatDoorTr8t
set_option linter.unusedSimpArgs false
set_option linter.unusedVariables false
set_option maxRecDepth 100000
namespace Go.Eng.Sv
open Go.Proofs
noncomputable def isWay (n : Net) (nx : List (List Int)) (to : Int) : Int → Int → List Stop → Prop
  | _, _, [] => False
  | o, t, s :: r => (o = to ∧ s = (o, t, -1, -1) ∧ r = []) ∨
      (o ≠ to ∧ nxt nx o to ≠ -1 ∧ depE n (nxt nx o to) (readyF n o t) = 0 ∧ s = (o, t, depD n (nxt nx o to) (readyF n o t), nxt nx o to) ∧ isWay n nx to (lnTo n (nxt nx o to)) (depD n (nxt nx o to) (readyF n o t) + lnTrav n (nxt nx o to)) r)
section
variable {n : Net} {nx : List (List Int)} {to : Int}
theorem way_is : ∀ (k : Nat) (o t : Int), (wayN n nx to k o t).2 = 0 → isWay n nx to o t (wayN n nx to k o t).1 ∧ (wayN n nx to k o t).1.length ≤ k + 1
  | k, o, t, h => by
    by_cases h0 : o = to
    · rw [way_to k h0]; exact ⟨.inl ⟨h0, rfl, rfl⟩, by simp⟩
    · by_cases h1 : nxt nx o to = -1
      · rw [way_route k h0 h1] at h; cases h
      · by_cases h2 : depE n (nxt nx o to) (readyF n o t) = 0
        · cases k with
          | zero => rw [way_full h0 h1 h2] at h; cases h
          | succ k =>
            rw [way_next k h0 h1 h2] at h ⊢
            have h3 : (wayN n nx to k (lnTo n (nxt nx o to)) (depD n (nxt nx o to) (readyF n o t) + lnTrav n (nxt nx o to))).2 = 0 := by
              unfold preW at h
              split at h
              · assumption
              · exact h
            rw [preW_ok h3]
            obtain ⟨q1, q2⟩ := way_is k _ _ h3
            exact ⟨.inr ⟨h0, h1, h2, rfl, q1⟩, by simp; omega⟩
        · rw [way_err k h0 h1 h2] at h; exact absurd h h2
theorem is_way : ∀ (k : Nat) (o t : Int) (l : List Stop), isWay n nx to o t l → l.length ≤ k + 1 → wayN n nx to k o t = (l, 0)
  | k, o, t, [], h, _ => h.elim
  | k, o, t, s :: r, h, hl => by
    rcases h with ⟨h0, rfl, rfl⟩ | ⟨h0, h1, h2, rfl, h3⟩
    · rw [way_to k h0]
    · cases k with
      | zero =>
        cases r with
        | nil => exact h3.elim
        | cons _ _ => simp at hl
      | succ k =>
        rw [way_next k h0 h1 h2, is_way k _ _ r h3 (by simp at hl; omega)]; rfl
theorem isWay.pos {o t : Int} {l : List Stop} (h : isWay n nx to o t l) : 0 < l.length := by
  cases l with
  | nil => exact h.elim
  | cons s r => simp
theorem isWay.uniq : ∀ {o t : Int} {l l' : List Stop}, isWay n nx to o t l → isWay n nx to o t l' → l = l'
  | o, t, [], _, h, _ => h.elim
  | o, t, _, [], _, h => h.elim
  | o, t, s :: r, s' :: r', h, h' => by
    rcases h with ⟨h0, rfl, rfl⟩ | ⟨h0, h1, h2, rfl, h3⟩ <;> rcases h' with ⟨g0, rfl, rfl⟩ | ⟨g0, g1, g2, rfl, g3⟩
    · rfl
    · exact absurd h0 g0
    · exact absurd g0 h0
    · rw [isWay.uniq h3 g3]
theorem isWay.drop : ∀ {i : Nat} {o t : Int} {l : List Stop}, isWay n nx to o t l → i < l.length → isWay n nx to (l.getD i (0, 0, 0, 0)).1 (l.getD i (0, 0, 0, 0)).2.1 (l.drop i)
  | 0, o, t, [], h, _ => h.elim
  | 0, o, t, s :: r, h, _ => by
    have hs : s.1 = o ∧ s.2.1 = t := by
      rcases h with ⟨_, rfl, _⟩ | ⟨_, _, _, rfl, _⟩ <;> exact ⟨rfl, rfl⟩
    show isWay n nx to s.1 s.2.1 (s :: r)
    rw [hs.1, hs.2]; exact h
  | i + 1, o, t, [], h, _ => h.elim
  | i + 1, o, t, s :: r, h, hi => by
    rcases h with ⟨_, _, rfl⟩ | ⟨_, _, _, _, h3⟩
    · simp at hi
    · exact isWay.drop (i := i) h3 (by simpa using hi)
theorem getD_drop {α : Type} (l : List α) (i j : Nat) (d : α) : (l.drop i).getD j d = l.getD (i + j) d := by
  rw [List.getD_eq_getElem?_getD, List.getElem?_drop, List.getD_eq_getElem?_getD]
theorem isWay.head {o t : Int} {l : List Stop} (h : isWay n nx to o t l) : (l.getD 0 (0, 0, 0, 0)).1 = o ∧ (l.getD 0 (0, 0, 0, 0)).2.1 = t := by
  cases l with
  | nil => exact h.elim
  | cons s r => rcases h with ⟨_, rfl, _⟩ | ⟨_, _, _, rfl, _⟩ <;> exact ⟨rfl, rfl⟩
theorem isWay.at {o t : Int} {l : List Stop} (h : isWay n nx to o t l) {i : Nat} (hi : i < l.length) :
    (i + 1 = l.length ∧ (l.getD i (0, 0, 0, 0)).1 = to ∧ (l.getD i (0, 0, 0, 0)).2.2 = (-1, -1)) ∨
    (i + 1 < l.length ∧ (l.getD i (0, 0, 0, 0)).1 ≠ to ∧ (l.getD i (0, 0, 0, 0)).2.2.2 = nxt nx (l.getD i (0, 0, 0, 0)).1 to ∧ (l.getD i (0, 0, 0, 0)).2.2.2 ≠ -1 ∧
      depE n (l.getD i (0, 0, 0, 0)).2.2.2 (readyF n (l.getD i (0, 0, 0, 0)).1 (l.getD i (0, 0, 0, 0)).2.1) = 0 ∧ (l.getD i (0, 0, 0, 0)).2.2.1 = depD n (l.getD i (0, 0, 0, 0)).2.2.2 (readyF n (l.getD i (0, 0, 0, 0)).1 (l.getD i (0, 0, 0, 0)).2.1) ∧
      (l.getD (i + 1) (0, 0, 0, 0)).1 = lnTo n (l.getD i (0, 0, 0, 0)).2.2.2 ∧ (l.getD (i + 1) (0, 0, 0, 0)).2.1 = (l.getD i (0, 0, 0, 0)).2.2.1 + lnTrav n (l.getD i (0, 0, 0, 0)).2.2.2) := by
  have hd := h.drop hi
  have e0 := getD_drop l i 0 (0, 0, 0, 0)
  have e1 := getD_drop l i 1 (0, 0, 0, 0)
  have el : (l.drop i).length = l.length - i := List.length_drop
  rw [Nat.add_zero] at e0
  rw [← e0, ← e1]
  rw [← e0] at hd
  generalize l.drop i = r at *
  cases r with
  | nil => exact hd.elim
  | cons s r =>
    have es : (s :: r).getD 0 (0, 0, 0, 0) = s := rfl
    have er : (s :: r).getD 1 (0, 0, 0, 0) = r.getD 0 (0, 0, 0, 0) := rfl
    rw [es] at hd ⊢
    rw [er]
    rcases hd with ⟨h0, h1, rfl⟩ | ⟨h0, h1, h2, h3, h4⟩
    · left
      refine ⟨by simp at el; omega, h0, ?_⟩
      rw [h1]
    · right
      have hp := h4.pos
      obtain ⟨q1, q2⟩ := h4.head
      have e4 : s.2.2.2 = nxt nx s.1 to := by rw [h3]
      have e3 : s.2.2.1 = depD n (nxt nx s.1 to) (readyF n s.1 s.2.1) := by rw [h3]
      rw [e4, e3]
      exact ⟨by simp at el; omega, h0, rfl, h1, h2, rfl, q1, q2⟩
theorem isWay.idx {o t : Int} {l : List Stop} (h : isWay n nx to o t l) (u : Int) : ∃ i : Nat, sIdx u l = i ∧ i < l.length ∧ (∀ j, j < i → (l.getD j (0, 0, 0, 0)).2.2.1 < u) ∧ (i + 1 = l.length ∨ u ≤ (l.getD i (0, 0, 0, 0)).2.2.1) := by
  unfold sIdx
  have hp := h.pos
  cases hf : l.findIdx? (stopAt u) with
  | none =>
    exfalso
    rw [List.findIdx?_eq_none_iff] at hf
    have hl := h.at (i := l.length - 1) (by omega)
    rcases hl with ⟨_, _, h3⟩ | ⟨h1, _⟩
    · have hm : l.getD (l.length - 1) (0, 0, 0, 0) ∈ l := by
        rw [List.getD_eq_getElem?_getD, List.getElem?_eq_getElem (by omega), Option.getD_some]; exact List.getElem_mem _
      have := hf _ hm
      unfold stopAt at this
      rw [h3] at this
      simp at this
    · omega
  | some i =>
    rw [List.findIdx?_eq_some_iff_getElem] at hf
    obtain ⟨hi, h1, h2⟩ := hf
    have g : ∀ j (hj : j < l.length), l.getD j (0, 0, 0, 0) = l[j] := fun j hj => by rw [List.getD_eq_getElem?_getD, List.getElem?_eq_getElem hj, Option.getD_some]
    refine ⟨i, rfl, hi, fun j hj => ?_, ?_⟩
    · have := h2 j hj
      rw [← g j (by omega)] at this
      unfold stopAt at this
      simp only [Bool.or_eq_true, decide_eq_true_eq, not_or] at this
      omega
    · rcases h.at hi with ⟨h3, _⟩ | ⟨_, _, _, h4, _⟩
      · exact .inl h3
      · right
        rw [← g i hi] at h1
        unfold stopAt at h1
        simp only [Bool.or_eq_true, decide_eq_true_eq] at h1
        rcases h1 with h1 | h1
        · exact absurd h1 h4
        · exact h1
end
theorem Way_is {n : Net} {nx : List (List Int)} {o to t : Int} (h : WayE n nx o to t = 0) : wayOk n nx o to t = true ∧ isWay n nx to o t (WayL n nx o to t) ∧ (WayL n nx o to t).length ≤ 20 := by
  have hk : wayOk n nx o to t = true := by
    cases hk : wayOk n nx o to t with
    | true => rfl
    | false => unfold WayE at h; rw [hk] at h; cases h
  have e1 : WayE n nx o to t = wayE n nx o to t := if_pos hk
  have e2 : WayL n nx o to t = wayL n nx o to t := if_pos hk
  rw [e1] at h
  rw [e2]
  exact ⟨hk, way_is 19 o t h⟩
theorem is_Way {n : Net} {nx : List (List Int)} {o to t : Int} {l : List Stop} (hk : wayOk n nx o to t = true) (h : isWay n nx to o t l) (hl : l.length ≤ 20) : WayE n nx o to t = 0 ∧ WayL n nx o to t = l := by
  have e1 : WayE n nx o to t = wayE n nx o to t := if_pos hk
  have e2 : WayL n nx o to t = wayL n nx o to t := if_pos hk
  rw [e1, e2]
  unfold wayE wayL
  rw [is_way 19 o t l h hl]
  exact ⟨rfl, rfl⟩
theorem Way_nil {n : Net} {nx : List (List Int)} {o to t : Int} (h : WayE n nx o to t ≠ 0) : WayL n nx o to t = [] := by
  cases hk : wayOk n nx o to t with
  | true =>
    have e1 : WayE n nx o to t = wayE n nx o to t := if_pos hk
    have e2 : WayL n nx o to t = wayL n nx o to t := if_pos hk
    rw [e1] at h
    rw [e2]
    exact way_nil 19 o t h
  | false => unfold WayL; rw [if_neg (by rw [hk]; exact Bool.false_ne_true)]
end Go.Eng.Sv
