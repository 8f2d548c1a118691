/- PeTt8z -/
import Derived.Test.YtejeaokbkbfgjaaGreatDoorX22
import Derived.Test.YtejeaokbkbfgjaaGreatDoorTt7z
set_option linter.unusedSimpArgs false
set_option linter.unusedVariables false
set_option maxRecDepth 100000
namespace Go.Eng.Sv
open Go.Proofs
noncomputable def isDep (n : Net) (l v : Int) : Prop := workF (calF n l).2.1 (calF n l).2.2 (dayF (calF n l).1 v) = true ∧ minF (calF n l).1 v = (lineOf n l).2.2.2.1
noncomputable def atOk (n : Net) (l : Int) : Prop := 0 ≤ (lineOf n l).2.2.2.1 ∧ (lineOf n l).2.2.2.1 ≤ 1439
theorem line_at (cs : LC) (ns os : LB) (fs : List Off) (ls : List Line) (ks : List Cla) {line : Int} (h : lineP (cs, ns, os, fs, ls, ks) line) : atOk (cs, ns, os, fs, ls, ks) line := by
  obtain ⟨_, _, _, _, _, m0, m1⟩ := cal_ok cs ns os fs ls ks h
  exact ⟨m0, m1⟩
theorem leave_day {n : Net} {l : Int} (h : atOk n l) (d : Int) : dayF (calF n l).1 (leaveF n l d) = d ∧ minF (calF n l).1 (leaveF n l d) = (lineOf n l).2.2.2.1 := by
  unfold atOk at h
  unfold dayF minF leaveF timeF; omega
theorem dep_leave {n : Net} {l v : Int} (h : isDep n l v) : leaveF n l (dayF (calF n l).1 v) = v := by
  unfold isDep dayF minF at h
  unfold leaveF timeF dayF; omega
theorem leave_dep {n : Net} {l d : Int} (h : atOk n l) (hw : workF (calF n l).2.1 (calF n l).2.2 d = true) : isDep n l (leaveF n l d) := by
  have := leave_day h d
  unfold isDep
  rw [this.1, this.2]; exact ⟨hw, rfl⟩
theorem mem_wdaysL {w : List Bool} {h : List Int} {a b y : Int} (h1 : a ≤ y) (h2 : y ≤ b) (hw : workF w h y = true) : y ∈ wdaysL w h a b := by
  unfold wdaysL listF
  rw [List.mem_filter]
  exact ⟨List.mem_map.2 ⟨(y - a).toNat, List.mem_range.2 (by omega), by omega⟩, hw⟩
theorem wdaysL_sorted (w : List Bool) (h : List Int) (a b : Int) : (wdaysL w h a b).Pairwise (· < ·) := by
  unfold wdaysL listF
  refine List.Pairwise.filter _ ?_
  rw [List.pairwise_map]
  exact List.pairwise_lt_range.imp fun h => by omega
theorem leave_sorted {n : Net} {l : Int} {L : List Int} (h : L.Pairwise (· < ·)) : (L.map (leaveF n l)).Pairwise (· < ·) := by
  rw [List.pairwise_map]
  exact h.imp fun h => by unfold leaveF timeF; omega
theorem find_least {t u : Int} : ∀ {L : List Int}, L.Pairwise (· < ·) → L.find? (fun v => decide (t ≤ v)) = some u → u ∈ L ∧ t ≤ u ∧ ∀ v ∈ L, t ≤ v → u ≤ v
  | [], _, e => by cases e
  | a :: L, hs, e => by
    rw [List.find?_cons] at e
    obtain ⟨h1, h2⟩ := List.pairwise_cons.1 hs
    by_cases g : t ≤ a
    · rw [decide_eq_true g] at e
      have e : a = u := Option.some.inj e
      subst e
      refine ⟨List.mem_cons_self, g, fun v hv _ => ?_⟩
      rcases List.mem_cons.1 hv with rfl | hv
      · exact Int.le_refl _
      · have := h1 v hv; omega
    · rw [decide_eq_false g] at e
      obtain ⟨i1, i2, i3⟩ := find_least h2 e
      refine ⟨List.mem_cons_of_mem _ i1, i2, fun v hv hl => ?_⟩
      rcases List.mem_cons.1 hv with rfl | hv
      · omega
      · exact i3 v hv hl
theorem dep_today {n : Net} {l t v : Int} (h : isDep n l v) (h1 : t ≤ v) (h2 : v < t + 86400) : v ∈ (todayL n l t).map (leaveF n l) := by
  refine List.mem_map.2 ⟨dayF (calF n l).1 v, mem_wdaysL ?_ ?_ h.1, dep_leave h⟩
  · unfold dayF; omega
  · unfold dayF; omega
theorem today_sorted (n : Net) (l t : Int) : ((todayL n l t).map (leaveF n l)).Pairwise (· < ·) := leave_sorted (wdaysL_sorted _ _ _ _)
theorem first_some {n : Net} {l t u : Int} (ha : atOk n l) (h : firstO n l t = some u) : t ≤ u ∧ u < t + 86400 ∧ isDep n l u ∧ ∀ v, t ≤ v → v < u → ¬ isDep n l v := by
  obtain ⟨h1, h2⟩ := firstO_range h
  unfold firstO at h
  cases e : ((todayL n l t).map (leaveF n l)).find? (fun v => decide (t ≤ v)) with
  | none => rw [e] at h; cases h
  | some x =>
    rw [e] at h
    have h : (if x < t + 86400 then some x else none) = some u := h
    split at h
    · cases h
      obtain ⟨i1, i2, i3⟩ := find_least (today_sorted n l t) e
      obtain ⟨d, hd, rfl⟩ := List.mem_map.1 i1
      refine ⟨h1, h2, leave_dep ha (wdaysL_mem hd).2.2, fun v v1 v2 hv => ?_⟩
      have := i3 v (dep_today hv v1 (by omega)) v1
      omega
    · cases h
theorem first_none {n : Net} {l t : Int} (h : firstO n l t = none) (v : Int) (v1 : t ≤ v) (v2 : v < t + 86400) : ¬ isDep n l v := by
  intro hv
  have hm := dep_today hv v1 v2
  unfold firstO at h
  cases e : ((todayL n l t).map (leaveF n l)).find? (fun v => decide (t ≤ v)) with
  | none =>
    rw [List.find?_eq_none] at e
    exact e v hm (decide_eq_true v1)
  | some x =>
    rw [e] at h
    have h : (if x < t + 86400 then some x else none) = none := h
    split at h
    · cases h
    · have := (find_least (today_sorted n l t) e).2.2 v hm v1
      omega
theorem first_is {n : Net} {l t u : Int} (ha : atOk n l) (h1 : t ≤ u) (h2 : u < t + 86400) (h3 : isDep n l u) (h4 : ∀ v, t ≤ v → v < u → ¬ isDep n l v) : firstO n l t = some u := by
  cases e : firstO n l t with
  | none => exact (first_none e u h1 h2 h3).elim
  | some x =>
    obtain ⟨g1, g2, g3, g4⟩ := first_some ha e
    rcases Int.lt_trichotomy x u with g | g | g
    · exact (h4 x g1 g g3).elim
    · rw [g]
    · exact (g4 u h1 g h3).elim
theorem first_no {n : Net} {l t : Int} (ha : atOk n l) (h : ∀ v, t ≤ v → v < t + 86400 → ¬ isDep n l v) : firstO n l t = none := by
  cases e : firstO n l t with
  | none => rfl
  | some x =>
    obtain ⟨g1, g2, g3, g4⟩ := first_some ha e
    exact (h x g1 g2 g3).elim
theorem sorted_ext : ∀ {a b : List Int}, a.Pairwise (· < ·) → b.Pairwise (· < ·) → (∀ x, x ∈ a ↔ x ∈ b) → a = b
  | [], [], _, _, _ => rfl
  | [], y :: b, _, _, h => by have := (h y).2 List.mem_cons_self; cases this
  | x :: a, [], _, _, h => by have := (h x).1 List.mem_cons_self; cases this
  | x :: a, y :: b, ha, hb, h => by
    obtain ⟨a1, a2⟩ := List.pairwise_cons.1 ha
    obtain ⟨b1, b2⟩ := List.pairwise_cons.1 hb
    have e : x = y := by
      rcases List.mem_cons.1 ((h x).1 List.mem_cons_self) with g | g
      · exact g
      · rcases List.mem_cons.1 ((h y).2 List.mem_cons_self) with k | k
        · exact k.symm
        · have := a1 y k; have := b1 x g; omega
    subst e
    rw [sorted_ext a2 b2 fun z => ⟨fun hz => ?_, fun hz => ?_⟩]
    · rcases List.mem_cons.1 ((h z).1 (List.mem_cons_of_mem _ hz)) with g | g
      · have := a1 z hz; omega
      · exact g
    · rcases List.mem_cons.1 ((h z).2 (List.mem_cons_of_mem _ hz)) with g | g
      · have := b1 z hz; omega
      · exact g
noncomputable def depsOk (n : Net) (l a b : Int) : Prop := usableF n l [a, b] = true ∧ b ≤ a + 86400
theorem depsF_eq {n : Net} {l a b : Int} (h : depsOk n l a b) : depsF n l a b = ((spanL n l a b).map (leaveF n l)).filter fun t => decide (a ≤ t) && decide (t < b) := by
  unfold depsF depsTo
  rw [h.1, decide_eq_true h.2, List.take_length]; rfl
theorem deps_sorted (n : Net) (l a b : Int) : (depsF n l a b).Pairwise (· < ·) := by
  unfold depsF
  split
  · unfold depsTo
    refine List.Pairwise.filter _ (leave_sorted ?_)
    exact (wdaysL_sorted _ _ _ _).sublist (List.take_sublist _ _)
  · exact List.Pairwise.nil
theorem mem_deps {n : Net} {l a b v : Int} (ha : atOk n l) (h : depsOk n l a b) : v ∈ depsF n l a b ↔ a ≤ v ∧ v < b ∧ isDep n l v := by
  rw [depsF_eq h, List.mem_filter, Bool.and_eq_true, decide_eq_true_eq, decide_eq_true_eq]
  constructor
  · rintro ⟨h1, h2, h3⟩
    obtain ⟨d, hd, rfl⟩ := List.mem_map.1 h1
    exact ⟨h2, h3, leave_dep ha (wdaysL_mem hd).2.2⟩
  · rintro ⟨h1, h2, h3⟩
    refine ⟨List.mem_map.2 ⟨dayF (calF n l).1 v, mem_wdaysL ?_ ?_ h3.1, dep_leave h3⟩, h1, h2⟩
    · unfold dayF; omega
    · unfold dayF; omega
theorem waitGo_some {n : Net} {l b w : Int} (ha : atOk n l) : ∀ (k : Nat) (t m : Int), (b - t).toNat ≤ k → waitGo n l b k t m = some w →
    m ≤ w ∧ (∀ s, t ≤ s → s < b → ∃ u, firstO n l s = some u ∧ u - s ≤ w) ∧ (w = m ∨ ∃ s u, t ≤ s ∧ s < b ∧ (s = t ∨ t ≤ s - 1 ∧ isDep n l (s - 1)) ∧ firstO n l s = some u ∧ u - s = w)
  | 0, t, m, hk, h => by
    rw [waitGo] at h
    cases h
    exact ⟨Int.le_refl _, fun s s1 s2 => by omega, .inl rfl⟩
  | k + 1, t, m, hk, h => by
    rw [waitGo] at h
    by_cases ht : t < b
    · rw [if_pos ht] at h
      cases e : firstO n l t with
      | none => rw [e] at h; cases h
      | some u =>
        rw [e] at h
        have h : waitGo n l b k (u + 1) (maxF m (u - t)) = some w := h
        obtain ⟨g1, g2, g3, g4⟩ := first_some ha e
        obtain ⟨i1, i2, i3⟩ := waitGo_some ha k (u + 1) _ (by omega) h
        have hm : m ≤ maxF m (u - t) ∧ u - t ≤ maxF m (u - t) ∧ (maxF m (u - t) = m ∨ maxF m (u - t) = u - t) := by
          unfold maxF; split <;> omega
        refine ⟨by omega, fun s s1 s2 => ?_, ?_⟩
        · by_cases hs : u + 1 ≤ s
          · exact i2 s hs s2
          · exact ⟨u, first_is ha (by omega) (by omega) g3 fun v v1 v2 => g4 v (by omega) v2, by omega⟩
        · rcases i3 with i3 | ⟨s, u', s1, s2, s3, s4, s5⟩
          · rcases hm.2.2 with q | q
            · exact .inl (by omega)
            · exact .inr ⟨t, u, Int.le_refl _, ht, .inl rfl, e, by omega⟩
          · refine .inr ⟨s, u', by omega, s2, .inr ?_, s4, s5⟩
            rcases s3 with rfl | s3
            · exact ⟨by omega, by rw [show u + 1 - 1 = u by omega]; exact g3⟩
            · exact ⟨by omega, s3.2⟩
    · rw [if_neg ht] at h
      cases h
      exact ⟨Int.le_refl _, fun s s1 s2 => by omega, .inl rfl⟩
theorem waitGo_none {n : Net} {l b : Int} (ha : atOk n l) : ∀ (k : Nat) (t m : Int), waitGo n l b k t m = none → ∃ s, t ≤ s ∧ s < b ∧ firstO n l s = none ∧ (s = t ∨ t ≤ s - 1 ∧ isDep n l (s - 1))
  | 0, t, m, h => by rw [waitGo] at h; cases h
  | k + 1, t, m, h => by
    rw [waitGo] at h
    by_cases ht : t < b
    · rw [if_pos ht] at h
      cases e : firstO n l t with
      | none => exact ⟨t, Int.le_refl _, ht, e, .inl rfl⟩
      | some u =>
        rw [e] at h
        obtain ⟨g1, g2, g3, g4⟩ := first_some ha e
        obtain ⟨s, s1, s2, s3, s4⟩ := waitGo_none ha k (u + 1) _ h
        refine ⟨s, by omega, s2, s3, .inr ?_⟩
        rcases s4 with rfl | s4
        · exact ⟨by omega, by rw [show u + 1 - 1 = u by omega]; exact g3⟩
        · exact ⟨by omega, s4.2⟩
    · rw [if_neg ht] at h; cases h
theorem wait_some {n : Net} {l a b w : Int} (ha : atOk n l) (hab : a < b) (h : waitO n l a b = some w) :
    (∀ s, a ≤ s → s < b → ∃ u, firstO n l s = some u ∧ u - s ≤ w) ∧ ∃ s u, a ≤ s ∧ s < b ∧ (s = a ∨ a ≤ s - 1 ∧ isDep n l (s - 1)) ∧ firstO n l s = some u ∧ u - s = w := by
  obtain ⟨h1, h2, h3⟩ := waitGo_some ha _ a 0 (Nat.le_refl _) h
  refine ⟨h2, ?_⟩
  rcases h3 with h3 | h3
  · obtain ⟨u, u1, u2⟩ := h2 a (Int.le_refl _) hab
    have := firstO_range u1
    exact ⟨a, u, Int.le_refl _, hab, .inl rfl, u1, by omega⟩
  · exact h3
end Go.Eng.Sv
