/- PeTrVt, PeTr13t -/
import Derived.Test.YtgphkkpblecfgabGreatDoorY22
import Derived.Test.YtgphkkpblecfgabGreatDoorTr11t
set_option linter.unusedSimpArgs false
set_option linter.unusedVariables false
set_option maxRecDepth 100000
namespace Go.Eng.Sv
open Go.Proofs
noncomputable def u2P (a b : Int) : Prop := 0 ≤ a ∧ a ≤ 255 ∧ 0 ≤ b ∧ b ≤ 255
noncomputable def w1P (c : Int) : Prop := 0 ≤ c ∧ c ≤ 4294967295
noncomputable def KR19 : Kt := kOr 10 (dataK [] (fun _ => True) fun _ => .dat .bool true) KR18
theorem KSR19 : KSound Tryz.prog G0 KR19 := kOr_ok (dataK_ok fun _ => t_thead) KSR18
theorem rng8 {a : Int} (h : inR .u8 a) : 0 ≤ a ∧ a ≤ 255 := by unfold inR at h; simp only at h; omega
theorem rng32 {a : Int} (h : inR .u32 a) : 0 ≤ a ∧ a ≤ 4294967295 := by unfold inR at h; simp only at h; omega
theorem usF_iff {n : Net} {nx : List (List Int)} : usF n nx = true ↔ soundF n = true ∧ tabF n nx = true := by unfold usF; simp
theorem alike_len {fs gs : List Off} (h : alikeO fs gs = true) : fs.length = gs.length := by
  unfold alikeO at h
  simp only [Bool.and_eq_true, decide_eq_true_eq] at h
  omega
theorem sm_fits {n : Net} {nx : List (List Int)} (h : smF n nx = true) : netFits n nx ∧ n.2.2.2.1.length ≤ 6 := by
  unfold smF at h
  simp only [Bool.and_eq_true, decide_eq_true_eq, List.all_eq_true] at h
  obtain ⟨⟨h1, h2⟩, h3, h4⟩ := h
  exact ⟨⟨by show _ ≤ 1000000; omega, ⟨by omega, fun r hr => by have := h4 r hr; omega⟩⟩, by omega⟩
structure LU (n m : Net) (nx mx : List (List Int)) : Prop where
  fn : netFits n nx
  fm : netFits m mx
  un : usF n nx = true
  um : usF m mx = true
  al : alikeO n.2.2.2.1 m.2.2.2.1 = true
  pos : 0 < n.2.2.2.1.length
  six : n.2.2.2.1.length ≤ 6
theorem lu_of {n m : Net} {nx mx : List (List Int)} (h : luF n m nx mx = true) : LU n m nx mx := by
  unfold luF at h
  simp only [Bool.and_eq_true, decide_eq_true_eq] at h
  obtain ⟨⟨⟨⟨⟨h1, h2⟩, h3⟩, h4⟩, h5⟩, h6⟩ := h
  exact ⟨(sm_fits h1).1, (sm_fits h2).1, h3, h4, h5, by omega, (sm_fits h1).2⟩
theorem LU.len {n m : Net} {nx mx : List (List Int)} (h : LU n m nx mx) : n.2.2.2.1.length = m.2.2.2.1.length := alike_len h.al
theorem LU.pass {n m : Net} {nx mx : List (List Int)} (h : LU n m nx mx) {o d : Int} (o0 : 0 ≤ o) (o1 : o < n.2.2.2.1.length) (d0 : 0 ≤ d) (d1 : d < n.2.2.2.1.length) : passP n nx o d ∧ passP m mx o d := by
  obtain ⟨a1, a2⟩ := usF_iff.1 h.un
  obtain ⟨b1, b2⟩ := usF_iff.1 h.um
  have := h.len
  exact ⟨⟨a1, a2, o0, o1, d0, d1⟩, ⟨b1, b2, o0, by omega, d0, by omega⟩⟩
theorem tmod_bnd {a k : Int} (h : 0 < k) (a0 : 0 ≤ a) : 0 ≤ a.tmod k ∧ a.tmod k < k := by
  rw [Int.tmod_eq_emod_of_nonneg a0]
  exact ⟨Int.emod_nonneg _ (by omega), Int.emod_lt_of_pos _ (by omega)⟩
theorem post_bnd {n : Net} {a b c : Int} (h : postP n a b c) : (0 ≤ (postF n a b c).2.1 ∧ (postF n a b c).2.1 < n.2.2.2.1.length) ∧ (0 ≤ (postF n a b c).2.2.1 ∧ (postF n a b c).2.2.1 < n.2.2.2.1.length) ∧ 0 ≤ (postF n a b c).2.2.2.2 ∧ (postF n a b c).2.2.2.2 ≤ 100000 := by
  obtain ⟨h0, a0, a1, b0, b1, c0, c1⟩ := h
  have := tmod_bnd (k := 100001) (by omega) c0
  exact ⟨tmod_bnd (by omega) a0, tmod_bnd (by omega) b0, this.1, by have := this.2; show c.tmod 100001 ≤ 100000; omega⟩
theorem LU.ok {n m : Net} {nx mx : List (List Int)} (h : LU n m nx mx) {t : Int} (t0 : 0 ≤ t) (t1 : t ≤ 1000000) : safeOk n m nx mx t = true := by
  unfold safeOk tim20
  rw [h.un, h.um, h.al, decide_eq_true ⟨t0, t1⟩]; rfl
section
variable {n m : Net} {nx mx : List (List Int)} {to : Int}
theorem pass_head (k : Nat) (x : Int) : x ∈ passN n nx to k x := by
  cases k with
  | zero => rw [passN]; simp
  | succ k => rw [passN]; split <;> simp
theorem pass_mono : ∀ (j k : Nat) (x : Int), j ≤ k → to ∈ passN n nx to j x → to ∈ passN n nx to k x
  | 0, k, x, _, h => by
    rw [passN, List.mem_singleton] at h
    subst h; exact pass_head k _
  | j + 1, 0, x, h, _ => by omega
  | j + 1, k + 1, x, hk, h => by
    rw [passN] at h ⊢
    split
    · rename_i hs; rw [if_pos hs] at h; exact h
    · rename_i hs
      rw [if_neg hs] at h
      rcases List.mem_cons.1 h with h | h
      · rw [h]; exact List.mem_cons_self
      · exact List.mem_cons_of_mem _ (pass_mono j k _ (by omega) h)
theorem pass_lead : ∀ (k : Nat) (x0 : Int), to ∈ passN n nx to k x0 → ∀ x ∈ passN n nx to k x0, ∃ j, j ≤ k ∧ to ∈ passN n nx to j x
  | 0, x0, h, x, hx => by
    rw [passN, List.mem_singleton] at hx
    subst hx; exact ⟨0, Nat.le_refl _, h⟩
  | k + 1, x0, h, x, hx => by
    by_cases hs : x0 = to ∨ nxt nx x0 to = -1
    · have hx' := hx
      rw [passN, if_pos hs, List.mem_singleton] at hx'
      subst hx'; exact ⟨k + 1, Nat.le_refl _, h⟩
    · have h' := h
      have hx' := hx
      rw [passN, if_neg hs] at h' hx'
      rcases List.mem_cons.1 hx' with rfl | hx'
      · exact ⟨k + 1, Nat.le_refl _, h⟩
      · rcases List.mem_cons.1 h' with e | h'
        · exact absurd (.inl e.symm) hs
        · obtain ⟨j, h1, h2⟩ := pass_lead k _ h' x hx'
          exact ⟨j, by omega, h2⟩
theorem way_no_route : ∀ (k : Nat) (x t : Int), to ∈ passN n nx to k x → (wayN n nx to k x t).2 ≠ 170
  | k, x, t, h => by
    by_cases h0 : x = to
    · rw [way_to k h0]; show (0 : Int) ≠ 170; decide
    · by_cases h1 : nxt nx x to = -1
      · exfalso
        have : passN n nx to k x = [x] := by
          cases k with
          | zero => rfl
          | succ k => rw [passN, if_pos (.inr h1)]
        rw [this, List.mem_singleton] at h
        exact h0 h.symm
      · have hd : depE n (nxt nx x to) (readyF n x t) ≠ 170 := by
          unfold depE fstE nextE
          split
          · split <;> decide
          · decide
        by_cases h2 : depE n (nxt nx x to) (readyF n x t) = 0
        · cases k with
          | zero =>
            rw [passN, List.mem_singleton] at h
            exact absurd h.symm h0
          | succ k =>
            rw [passN, if_neg (fun g => g.elim h0 h1)] at h
            rcases List.mem_cons.1 h with e | h
            · exact absurd e.symm h0
            · have ih := way_no_route k (lnTo n (nxt nx x to)) (depD n (nxt nx x to) (readyF n x t) + lnTrav n (nxt nx x to)) h
              rw [way_next k h0 h1 h2]
              unfold preW
              split
              · simp
              · exact ih
        · rw [way_err k h0 h1 h2]; exact hd
theorem isWay.office : ∀ (k : Nat) {o t : Int} {l : List Stop}, isWay n nx to o t l → l.length ≤ k + 1 → ∀ s ∈ l, s.1 ∈ passN n nx to k o
  | k, o, t, [], h, _, _, _ => h.elim
  | k, o, t, s0 :: r, h, hl, s, hs => by
    rcases h with ⟨h0, h1, rfl⟩ | ⟨h0, h1, h2, h3, h4⟩
    · rw [List.mem_singleton] at hs
      subst hs; rw [h1]; exact pass_head k o
    · rcases List.mem_cons.1 hs with rfl | hs
      · rw [h3]; exact pass_head k o
      · cases k with
        | zero =>
          cases r with
          | nil => exact h4.elim
          | cons _ _ => simp at hl
        | succ k =>
          rw [passN, if_neg (fun g => g.elim h0 h1)]
          exact List.mem_cons_of_mem _ (isWay.office k h4 (by simp at hl; omega) s hs)
theorem isWay.last {o t : Int} {l : List Stop} (h : isWay n nx to o t l) : ∃ s ∈ l, s.1 = to := by
  have hp := h.pos
  refine ⟨l.getD (l.length - 1) (0, 0, 0, 0), ?_, ?_⟩
  · rw [List.getD_eq_getElem?_getD, List.getElem?_eq_getElem (by omega), Option.getD_some]; exact List.getElem_mem _
  · rcases h.at (i := l.length - 1) (by omega) with ⟨_, g, _⟩ | ⟨g, _⟩
    · exact g
    · omega
end
end Go.Eng.Sv

set_option maxRecDepth 100000
namespace Go.Eng.Sv
open Go.Proofs
theorem next_least {w : List Bool} {h : List Int} {d x : Int} (he : nextE w h d = 0) (h1 : d ≤ x) (h2 : workF w h x = true) : nextD w h d ≤ x := by
  by_cases hx : d + 60 ≤ x
  · have := (next_spec he).2.1; omega
  · have hm : x ∈ listF w h d 60 := by
      unfold listF
      exact List.mem_filter.2 ⟨List.mem_map.2 ⟨(x - d).toNat, List.mem_range.2 (by omega), by omega⟩, h2⟩
    have hp : (listF w h d 60).Pairwise (· < ·) := by
      unfold listF
      exact List.Pairwise.filter _ (List.pairwise_map.2 (List.pairwise_lt_range.imp fun h => by omega))
    unfold nextD nextO
    cases hl : listF w h d 60 with
    | nil => rw [hl] at hm; cases hm
    | cons y tl =>
      rw [hl] at hm hp
      show y ≤ x
      rcases List.mem_cons.1 hm with rfl | hm
      · exact Int.le_refl _
      · exact Int.le_of_lt ((List.pairwise_cons.1 hp).1 x hm)
theorem fst_mono {c : Int × List Bool × List Int} {m t u : Int} (h : t ≤ u) (he : fstE c m t = 0) (hu : fstE c m u = 0) : fstD c m t ≤ fstD c m u := by
  have e1 : fstD c m t = timeF c.1 (nextD c.2.1 c.2.2 (d0F c m t)) m := if_pos he
  have e2 : fstD c m u = timeF c.1 (nextD c.2.1 c.2.2 (d0F c m u)) m := if_pos hu
  have hd : d0F c m t ≤ d0F c m u := by unfold d0F dayF minF; split <;> split <;> omega
  obtain ⟨q1, _, q3⟩ := next_spec hu
  have := next_least he (Int.le_trans hd q1) q3
  rw [e1, e2]; unfold timeF; omega
theorem dep_mono {n : Net} {l t u : Int} (h : t ≤ u) (he : depE n l t = 0) (hu : depE n l u = 0) : depD n l t ≤ depD n l u := by
  have k : ∀ v, depE n l v = 0 → timeOk v = true := fun v hv => by
    cases h : timeOk v with
    | true => rfl
    | false => unfold depE at hv; rw [h] at hv; cases hv
  have f : ∀ v, depE n l v = 0 → depD n l v = fstD (calAt n (lnFrom n l)) (lnAt n l) v ∧ fstE (calAt n (lnFrom n l)) (lnAt n l) v = 0 := fun v hv => ⟨if_pos (k v hv), by
    have e : depE n l v = fstE (calAt n (lnFrom n l)) (lnAt n l) v := if_pos (k v hv)
    rw [← e]; exact hv⟩
  rw [(f t he).1, (f u hu).1]
  exact fst_mono h (f t he).2 (f u hu).2
section
variable {n : Net} {nx : List (List Int)} {to : Int}
theorem step_ok (hs : soundF n = true) (ht : tabF n nx = true) (d0 : 0 ≤ to) (d1 : to < n.2.2.2.1.length) {o t : Int} (o0 : 0 ≤ o) (o1 : o < n.2.2.2.1.length) (h1 : nxt nx o to ≠ -1) (h2 : depE n (nxt nx o to) (readyF n o t) = 0) :
    linP n (nxt nx o to) ∧ (0 ≤ lnTo n (nxt nx o to) ∧ lnTo n (nxt nx o to) < n.2.2.2.1.length) ∧ (t + 1 ≤ depD n (nxt nx o to) (readyF n o t) ∧ depD n (nxt nx o to) (readyF n o t) ≤ 2090000) ∧ 1 ≤ lnTrav n (nxt nx o to) ∧ lnTrav n (nxt nx o to) ≤ 5000 := by
  obtain ⟨cs, ns, os, fs, ls, ks⟩ := n
  have hno := sound_noF cs ns os fs ls ks hs
  obtain ⟨⟨l0, l1⟩, _⟩ := (tab_cell cs ns os fs ls ks ht o0 o1 d0 d1).2.2 h1
  have hl : linP (cs, ns, os, fs, ls, ks) (nxt nx o to) := ⟨hno, l0, l1⟩
  obtain ⟨_, _, g3, g4, _, _, g7, g8⟩ := lin_ok cs ns os fs ls ks hl
  obtain ⟨_, _, _, f1, _, f3, _⟩ := off_ok cs ns os fs ls ks (o := o) ⟨hno, o0, o1⟩
  obtain ⟨b1, b2, b3, b4⟩ := depart_bnd cs ns os fs ls ks hl h2
  have hp : 0 < (offAt (cs, ns, os, fs, ls, ks) o).2.2.2.2.1 * (offAt (cs, ns, os, fs, ls, ks) o).2.2.2.2.2.1 := Int.mul_pos (by omega) (by omega)
  have hr : readyF (cs, ns, os, fs, ls, ks) o t = t + (offAt (cs, ns, os, fs, ls, ks) o).2.2.2.2.1 * (offAt (cs, ns, os, fs, ls, ks) o).2.2.2.2.2.1 := rfl
  exact ⟨hl, ⟨g3, g4⟩, ⟨by omega, by omega⟩, g7, g8⟩
abbrev sG (l : List Stop) (i : Nat) : Stop := l.getD i (0, 0, 0, 0)
theorem isWay.off (hs : soundF n = true) (ht : tabF n nx = true) (d0 : 0 ≤ to) (d1 : to < n.2.2.2.1.length) {o t : Int} {l : List Stop} (h : isWay n nx to o t l) (o0 : 0 ≤ o) (o1 : o < n.2.2.2.1.length) : ∀ {i : Nat}, i < l.length → 0 ≤ (sG l i).1 ∧ (sG l i).1 < n.2.2.2.1.length
  | 0, _ => by rw [show (sG l 0).1 = o from h.head.1]; exact ⟨o0, o1⟩
  | i + 1, hi => by
    obtain ⟨p0, p1⟩ := isWay.off hs ht d0 d1 h o0 o1 (i := i) (by omega)
    rcases h.at (i := i) (by omega) with ⟨g, _⟩ | ⟨_, _, g3, g4, g5, g6, g7, g8⟩
    · omega
    · rw [show (sG l (i + 1)).1 = _ from g7]
      rw [g3] at g4 g5 ⊢
      exact (step_ok hs ht d0 d1 p0 p1 g4 g5).2.1
theorem isWay.gap (hs : soundF n = true) (ht : tabF n nx = true) (d0 : 0 ≤ to) (d1 : to < n.2.2.2.1.length) {o t : Int} {l : List Stop} (h : isWay n nx to o t l) (o0 : 0 ≤ o) (o1 : o < n.2.2.2.1.length) {i : Nat} (hi : i + 1 < l.length) :
    (sG l i).2.1 + 1 ≤ (sG l i).2.2.1 ∧ (sG l i).2.2.1 + 1 ≤ (sG l (i + 1)).2.1 ∧ (sG l i).2.2.1 ≤ 2090000 ∧ (sG l (i + 1)).2.1 ≤ (sG l i).2.2.1 + 5000 ∧ linP n (sG l i).2.2.2 := by
  obtain ⟨p0, p1⟩ := h.off hs ht d0 d1 o0 o1 (i := i) (by omega)
  rcases h.at (i := i) (by omega) with ⟨g, _⟩ | ⟨_, _, g3, g4, g5, g6, g7, g8⟩
  · omega
  · have e3 : (sG l i).2.2.2 = nxt nx (sG l i).1 to := g3
    have e6 : (sG l i).2.2.1 = depD n (sG l i).2.2.2 (readyF n (sG l i).1 (sG l i).2.1) := g6
    have e8 : (sG l (i + 1)).2.1 = (sG l i).2.2.1 + lnTrav n (sG l i).2.2.2 := g8
    obtain ⟨q1, _, ⟨q3, q4⟩, q5, q6⟩ := step_ok hs ht d0 d1 p0 p1 (t := (sG l i).2.1) (e3 ▸ g4) (e3 ▸ g5)
    rw [← e3] at q1 q3 q4 q5 q6
    rw [← e6] at q3 q4
    exact ⟨q3, by omega, q4, by omega, q1⟩
theorem isWay.ord (hs : soundF n = true) (ht : tabF n nx = true) (d0 : 0 ≤ to) (d1 : to < n.2.2.2.1.length) {o t : Int} {l : List Stop} (h : isWay n nx to o t l) (o0 : 0 ≤ o) (o1 : o < n.2.2.2.1.length) {i : Nat} : ∀ {j : Nat}, i < j → j < l.length → (sG l i).2.1 + 1 ≤ (sG l i).2.2.1 ∧ (sG l i).2.2.1 + 1 ≤ (sG l j).2.1
  | 0, h1, _ => by omega
  | j + 1, h1, hj => by
    by_cases e : i = j
    · subst e
      have := h.gap hs ht d0 d1 o0 o1 hj
      omega
    · have g := isWay.ord hs ht d0 d1 h o0 o1 (i := i) (j := j) (by omega) (by omega)
      have := h.gap hs ht d0 d1 o0 o1 hj
      omega
theorem isWay.later : ∀ {o t u : Int} {l r : List Stop}, t ≤ u → isWay n nx to o t l → isWay n nx to o u r → l.length = r.length ∧ ∀ j, j < l.length → (sG r j).1 = (sG l j).1 ∧ (sG l j).2.1 ≤ (sG r j).2.1 ∧ (sG l j).2.2.1 ≤ (sG r j).2.2.1 ∧ (sG r j).2.2.2 = (sG l j).2.2.2
  | _, _, _, [], _, _, h, _ => h.elim
  | _, _, _, _ :: _, [], _, _, h => h.elim
  | o, t, u, s :: l, s' :: r, hu, h, h' => by
    rcases h with ⟨h0, rfl, rfl⟩ | ⟨h0, h1, h2, rfl, h3⟩ <;> rcases h' with ⟨g0, rfl, rfl⟩ | ⟨g0, g1, g2, rfl, g3⟩
    · refine ⟨rfl, fun j hj => ?_⟩
      cases j with
      | zero => exact ⟨rfl, hu, Int.le_refl _, rfl⟩
      | succ j => simp at hj
    · exact absurd h0 g0
    · exact absurd g0 h0
    · have hr : readyF n o t ≤ readyF n o u := by unfold readyF; omega
      have hd := dep_mono hr h2 g2
      obtain ⟨q1, q2⟩ := isWay.later (by omega) h3 g3
      refine ⟨by simp only [List.length_cons]; omega, fun j hj => ?_⟩
      cases j with
      | zero => exact ⟨rfl, hu, hd, rfl⟩
      | succ j => exact q2 j (by simpa using hj)
end
theorem WayL_len {n : Net} {nx : List (List Int)} {o to t : Int} : (WayL n nx o to t).length ≤ 20 := by
  by_cases h : WayE n nx o to t = 0
  · exact (Way_is h).2.2
  · rw [Way_nil h]; exact Nat.zero_le _
theorem setArr_len (l : List Stop) (i v : Int) : (setArr l i v).length = l.length := by unfold setArr; exact List.length_set
theorem carryL_len {n m : Net} {nx mx : List (List Int)} {t : Int} {x : ByteArray × Int × Int × Int × Int} : (carryL n m nx mx t x).length ≤ 40 := by
  unfold carryL
  split
  · rw [setArr_len, List.length_append, List.length_take]
    have h1 : (oldW n nx x).length ≤ 20 := WayL_len
    have h2 : (newW n m nx mx t x).length ≤ 20 := WayL_len
    omega
  · exact Nat.zero_le _
theorem carOk_lu {n m : Net} {nx mx : List (List Int)} (L : LU n m nx mx) {x : ByteArray × Int × Int × Int × Int} {t : Int} (t0 : 0 ≤ t) (t1 : t ≤ 1000000) (o0 : 0 ≤ x.2.1) (o1 : x.2.1 < n.2.2.2.1.length) (e0 : 0 ≤ x.2.2.1) (e1 : x.2.2.1 < n.2.2.2.1.length) (a0 : 0 ≤ x.2.2.2.2) (a1 : x.2.2.2.2 ≤ 1000000) : carOk n m nx mx t x = true := by
  unfold carOk postOk tim20
  rw [L.al, L.un, L.um, decide_eq_true ⟨t0, t1⟩, decide_eq_true ⟨a0, a1⟩, idxF_iff.2 ⟨o0, o1⟩, idxF_iff.2 ⟨e0, e1⟩]; rfl
theorem carry_ok {n m : Net} {nx mx : List (List Int)} {x : ByteArray × Int × Int × Int × Int} {t : Int} (h : carOk n m nx mx t x = true) (hw : WayE n nx x.2.1 x.2.2.1 x.2.2.2.2 = 0) : carryE n m nx mx t x = newE n m nx mx t x := by
  unfold carryE; rw [if_pos h, if_pos hw]
theorem carry_bad {n m : Net} {nx mx : List (List Int)} {x : ByteArray × Int × Int × Int × Int} {t : Int} (h : carOk n m nx mx t x = true) (hw : WayE n nx x.2.1 x.2.2.1 x.2.2.2.2 ≠ 0) : carryE n m nx mx t x = WayE n nx x.2.1 x.2.2.1 x.2.2.2.2 := by
  unfold carryE; rw [if_pos h, if_neg hw]
theorem set_self (l : List Stop) (i : Nat) (hi : i < l.length) (v : Int) (hv : (sG l i).2.1 = v) : setArr l i v = l := by
  unfold setArr
  rw [Int.toNat_natCast, ← hv]
  have e : l.getD i (0, 0, 0, 0) = l[i] := by rw [List.getD_eq_getElem?_getD, List.getElem?_eq_getElem hi, Option.getD_some]
  show l.set i (l.getD i (0, 0, 0, 0)) = l
  rw [e, List.set_getElem_self]
section
variable {n m : Net} {nx mx : List (List Int)} {x : ByteArray × Int × Int × Int × Int}
theorem early (L : LU n m nx mx) (o0 : 0 ≤ x.2.1) (o1 : x.2.1 < n.2.2.2.1.length) (e0 : 0 ≤ x.2.2.1) (e1 : x.2.2.1 < n.2.2.2.1.length) (a0 : 0 ≤ x.2.2.2.2) (a1 : x.2.2.2.2 ≤ 100000) (hw : WayE n nx x.2.1 x.2.2.1 x.2.2.2.2 = 0) {t : Int} (t0 : 0 ≤ t) (t1 : t ≤ x.2.2.2.2) :
    carryE n m nx mx t x = WayE m mx x.2.1 x.2.2.1 x.2.2.2.2 ∧ carryL n m nx mx t x = WayL m mx x.2.1 x.2.2.1 x.2.2.2.2 := by
  have hk := carOk_lu L t0 (by omega) o0 o1 e0 e1 a0 (by omega)
  obtain ⟨hs, ht⟩ := usF_iff.1 L.un
  obtain ⟨_, hway, _⟩ := Way_is hw
  obtain ⟨i, q1, q2, q3, _⟩ := hway.idx t
  have hi : i = 0 := by
    rcases Nat.eq_zero_or_pos i with h | h
    · exact h
    · have g := hway.gap hs ht e0 e1 o0 o1 (i := 0) (by omega)
      have e := hway.head.2
      have := q3 0 h
      simp only [sG] at g
      omega
  subst hi
  have eI : oldI n nx t x = 0 := q1
  have eS : oldS n nx t x = sG (oldW n nx x) 0 := by unfold oldS; rw [eI]; rfl
  have s1 : (oldS n nx t x).1 = x.2.1 := by rw [eS]; exact hway.head.1
  have s2 : (oldS n nx t x).2.1 = x.2.2.2.2 := by rw [eS]; exact hway.head.2
  have eT : newT n nx t x = x.2.2.2.2 := by unfold newT; rw [s2]; omega
  have eE : newE n m nx mx t x = WayE m mx x.2.1 x.2.2.1 x.2.2.2.2 := by unfold newE; rw [s1, eT]
  have eL : newW n m nx mx t x = WayL m mx x.2.1 x.2.2.1 x.2.2.2.2 := by unfold newW; rw [s1, eT]
  have hE := carry_ok hk hw
  rw [eE] at hE
  refine ⟨hE, ?_⟩
  unfold carryL
  rw [hE, eI, eL, s2]
  by_cases h : WayE m mx x.2.1 x.2.2.1 x.2.2.2.2 = 0
  · rw [if_pos h]
    obtain ⟨_, hn, _⟩ := Way_is h
    show setArr ([] ++ _) ((0 : Nat) : Int) _ = _
    rw [List.nil_append]
    exact set_self _ 0 hn.pos _ hn.head.2
  · rw [if_neg h, Way_nil h]
theorem late (L : LU n m nx mx) (o0 : 0 ≤ x.2.1) (o1 : x.2.1 < n.2.2.2.1.length) (e0 : 0 ≤ x.2.2.1) (e1 : x.2.2.1 < n.2.2.2.1.length) (a0 : 0 ≤ x.2.2.2.2) (a1 : x.2.2.2.2 ≤ 100000) (hw : WayE n nx x.2.1 x.2.2.1 x.2.2.2.2 = 0) {k : Nat} (hk2 : k + 2 = (WayL n nx x.2.1 x.2.2.1 x.2.2.2.2).length) {t : Int} (ht1 : t = (sG (WayL n nx x.2.1 x.2.2.1 x.2.2.2.2) k).2.2.1 + 1) (t1 : t ≤ 1000000) :
    carryE n m nx mx t x = 0 ∧ carryL n m nx mx t x = WayL n nx x.2.1 x.2.2.1 x.2.2.2.2 := by
  obtain ⟨hs, ht⟩ := usF_iff.1 L.un
  obtain ⟨ms, mt⟩ := usF_iff.1 L.um
  obtain ⟨_, hway, hlen⟩ := Way_is hw
  have g := hway.gap hs ht e0 e1 o0 o1 (i := k) (by omega)
  have ha : x.2.2.2.2 ≤ (sG (WayL n nx x.2.1 x.2.2.1 x.2.2.2.2) k).2.1 := by
    rcases Nat.eq_zero_or_pos k with h | h
    · subst h; exact Int.le_of_eq hway.head.2.symm
    · have := hway.ord hs ht e0 e1 o0 o1 h (by omega)
      have e : (sG (WayL n nx x.2.1 x.2.2.1 x.2.2.2.2) 0).2.1 = _ := hway.head.2
      omega
  have hk := carOk_lu L (t := t) (by omega) t1 o0 o1 e0 e1 a0 (by omega)
  obtain ⟨i, q1, q2, q3, q4⟩ := hway.idx t
  have hi : i = k + 1 := by
    rcases q4 with h | h
    · omega
    · by_cases hlt : i + 1 < (WayL n nx x.2.1 x.2.2.1 x.2.2.2.2).length
      · exfalso
        by_cases hik : i = k
        · subst hik; simp only [sG] at ht1; omega
        · have o1 := hway.ord hs ht e0 e1 o0 o1 (i := i) (j := k) (by omega) (by omega)
          simp only [sG] at ht1 o1 g; omega
      · omega
  subst hi
  have eW : oldW n nx x = WayL n nx x.2.1 x.2.2.1 x.2.2.2.2 := rfl
  have eI : oldI n nx t x = ((k + 1 : Nat) : Int) := q1
  have eS : oldS n nx t x = sG (oldW n nx x) (k + 1) := by unfold oldS; rw [eI]; rfl
  rw [← eW] at ha hk2 g ht1 hway hlen ⊢
  have hlt : k + 1 < (oldW n nx x).length := by omega
  have hl := hway.at (i := k + 1) (by omega)
  rcases hl with ⟨_, l1, l2⟩ | ⟨l1, _⟩
  · have l1 : (sG (oldW n nx x) (k + 1)).1 = x.2.2.1 := l1
    have l2 : (sG (oldW n nx x) (k + 1)).2.2 = (-1, -1) := l2
    have eT : newT n nx t x = (sG (oldW n nx x) (k + 1)).2.1 := by unfold newT; rw [eS]; omega
    have hway2 : isWay m mx x.2.2.1 (oldS n nx t x).1 (newT n nx t x) [sG (oldW n nx x) (k + 1)] := by
      refine .inl ⟨by rw [eS, l1], ?_, rfl⟩
      rw [eT, eS, ← l2]
    have hn := is_Way (n := m) (nx := mx) (wayOk_iff.2 ⟨⟨⟨⟨by rw [eS, l1]; exact e0, by rw [eS, l1, ← L.len]; exact e1⟩, ⟨e0, by rw [← L.len]; exact e1⟩⟩, ⟨by rw [eT]; omega, by rw [eT]; omega⟩⟩, ms, mt⟩) hway2 (Nat.le_add_left 1 19)
    have hE := carry_ok hk hw
    have hE0 : carryE n m nx mx t x = 0 := hE.trans hn.1
    refine ⟨hE0, ?_⟩
    have eN : newW n m nx mx t x = [sG (oldW n nx x) (k + 1)] := hn.2
    unfold carryL
    rw [if_pos hE0, eN, eI, Int.toNat_natCast]
    have e : (oldW n nx x).take (k + 1) ++ [sG (oldW n nx x) (k + 1)] = oldW n nx x := by
      have hg : sG (oldW n nx x) (k + 1) = (oldW n nx x)[k + 1] := by
        show (oldW n nx x).getD (k + 1) _ = _
        rw [List.getD_eq_getElem?_getD, List.getElem?_eq_getElem hlt, Option.getD_some]
      rw [hg, List.take_append_getElem hlt]
      exact List.take_of_length_le (by omega)
    rw [e, eS]
    exact set_self _ (k + 1) (by omega) _ rfl
  · omega
end
theorem set_get {a r : List Stop} {i j : Nat} {v : Int} (ha : a.length = i) (hj : j < i + r.length) : sG (setArr (a ++ r) i v) j = if j < i then sG a j else if j = i then ((sG r 0).1, v, (sG r 0).2.2) else sG r (j - i) := by
  have e : ∀ k, (a ++ r).getD k (0, 0, 0, 0) = if k < i then a.getD k (0, 0, 0, 0) else r.getD (k - i) (0, 0, 0, 0) := fun k => by
    subst ha
    simp only [List.getD_eq_getElem?_getD]
    split <;> rename_i h
    · rw [List.getElem?_append_left h]
    · rw [List.getElem?_append_right (by omega)]
  unfold setArr
  rw [Int.toNat_natCast]
  show ((a ++ r).set i _).getD j _ = _
  by_cases h : j = i
  · subst h
    rw [List.getD_eq_getElem?_getD, List.getElem?_set_self (by rw [List.length_append]; omega), Option.getD_some, if_neg (by omega), if_pos rfl, e, if_neg (by omega), Nat.sub_self]
  · rw [List.getD_eq_getElem?_getD, List.getElem?_set_ne (Ne.symm h), ← List.getD_eq_getElem?_getD, e, if_neg h]
theorem carry_parts {n m : Net} {nx mx : List (List Int)} {x : ByteArray × Int × Int × Int × Int} {t : Int} (hE : carryE n m nx mx t x = 0) : carOk n m nx mx t x = true ∧ WayE n nx x.2.1 x.2.2.1 x.2.2.2.2 = 0 ∧ newE n m nx mx t x = 0 := by
  unfold carryE at hE
  by_cases h1 : carOk n m nx mx t x = true
  · rw [if_pos h1] at hE
    by_cases h2 : WayE n nx x.2.1 x.2.2.1 x.2.2.2.2 = 0
    · rw [if_pos h2] at hE; exact ⟨h1, h2, hE⟩
    · rw [if_neg h2] at hE; exact absurd hE h2
  · rw [if_neg h1] at hE; exact absurd hE (by decide)
structure CarryIs (n m : Net) (nx mx : List (List Int)) (t : Int) (x : ByteArray × Int × Int × Int × Int) (i : Nat) : Prop where
  idx : oldI n nx t x = i
  lt : i < (oldW n nx x).length
  bef : ∀ j, j < i → (sG (oldW n nx x) j).2.2.1 < t
  aft : i + 1 = (oldW n nx x).length ∨ t ≤ (sG (oldW n nx x) i).2.2.1
  old : isWay n nx x.2.2.1 x.2.1 x.2.2.2.2 (oldW n nx x)
  new : isWay m mx x.2.2.1 (sG (oldW n nx x) i).1 (max (sG (oldW n nx x) i).2.1 t) (newW n m nx mx t x)
  len : (carryL n m nx mx t x).length = i + (newW n m nx mx t x).length
  get : ∀ j, j < i + (newW n m nx mx t x).length → sG (carryL n m nx mx t x) j = if j < i then sG (oldW n nx x) j else if j = i then ((sG (newW n m nx mx t x) 0).1, (sG (oldW n nx x) i).2.1, (sG (newW n m nx mx t x) 0).2.2) else sG (newW n m nx mx t x) (j - i)
theorem carry_is {n m : Net} {nx mx : List (List Int)} {x : ByteArray × Int × Int × Int × Int} {t : Int} (hE : carryE n m nx mx t x = 0) : ∃ i, CarryIs n m nx mx t x i := by
  obtain ⟨_, h2, h3⟩ := carry_parts hE
  obtain ⟨_, hway, _⟩ := Way_is h2
  obtain ⟨_, hnew, _⟩ := Way_is (n := m) (nx := mx) h3
  obtain ⟨i, q1, q2, q3, q4⟩ := hway.idx t
  have eI : oldI n nx t x = i := q1
  have eS : oldS n nx t x = sG (oldW n nx x) i := by unfold oldS; rw [eI]; rfl
  have q2 : i < (oldW n nx x).length := q2
  have eL : carryL n m nx mx t x = setArr ((oldW n nx x).take i ++ newW n m nx mx t x) i (sG (oldW n nx x) i).2.1 := by
    unfold carryL; rw [if_pos hE, eI, eS, Int.toNat_natCast]
  have el : ((oldW n nx x).take i).length = i := by rw [List.length_take]; omega
  refine ⟨i, eI, q2, q3, q4, hway, ?_, ?_, fun j hj => ?_⟩
  · have e : newT n nx t x = max (sG (oldW n nx x) i).2.1 t := by unfold newT; rw [eS]
    rw [← e, ← eS]; exact hnew
  · rw [eL, setArr_len, List.length_append, el]
  · rw [eL, set_get el hj]
    by_cases h : j < i
    · rw [if_pos h, if_pos h]
      show ((oldW n nx x).take i).getD j _ = (oldW n nx x).getD j _
      rw [List.getD_eq_getElem?_getD, List.getElem?_take_of_lt h, List.getD_eq_getElem?_getD]
    · rw [if_neg h, if_neg h]
theorem again {n : Net} {nx : List (List Int)} {x : ByteArray × Int × Int × Int × Int} {t : Int} (hE : carryE n n nx nx t x = 0) : (carryL n n nx nx t x).length = (oldW n nx x).length ∧ ∀ j, j < (oldW n nx x).length → (sG (carryL n n nx nx t x) j).1 = (sG (oldW n nx x) j).1 ∧ (sG (oldW n nx x) j).2.1 ≤ (sG (carryL n n nx nx t x) j).2.1 ∧ (sG (oldW n nx x) j).2.2.1 ≤ (sG (carryL n n nx nx t x) j).2.2.1 ∧ (sG (carryL n n nx nx t x) j).2.2.2 = (sG (oldW n nx x) j).2.2.2 := by
  obtain ⟨i, C⟩ := carry_is hE
  obtain ⟨l1, l2⟩ := isWay.later (Int.le_max_left _ _) (C.old.drop C.lt) C.new
  rw [List.length_drop] at l1 l2
  have hlt := C.lt
  refine ⟨by rw [C.len]; omega, fun j hj => ?_⟩
  rw [C.get j (by omega)]
  by_cases h : j < i
  · rw [if_pos h]; exact ⟨rfl, Int.le_refl _, Int.le_refl _, rfl⟩
  · rw [if_neg h]
    have g := l2 (j - i) (by omega)
    have e : sG ((oldW n nx x).drop i) (j - i) = sG (oldW n nx x) j := by
      show ((oldW n nx x).drop i).getD (j - i) _ = _
      rw [getD_drop, show i + (j - i) = j by omega]
    rw [e] at g
    by_cases h2 : j = i
    · rw [if_pos h2]
      subst h2
      rw [Nat.sub_self] at g
      exact ⟨g.1, Int.le_refl _, g.2.2.1, g.2.2.2⟩
    · rw [if_neg h2]; exact g
end Go.Eng.Sv

set_option maxRecDepth 100000
noncomputable section
namespace Go.Eng.Sv
open Go.Proofs
def agIn (l w : List Stop) (k : Int) : Prop := 0 ≤ k ∧ k ≤ l.length ∧ w.length = l.length
theorem vc_learly (a b c d : Int) (p1 p2 : Int) (nx : List (List Int)) (dy : List (List (List Int))) (cs : LC) (ns os : LB) (fs : List Off) (ls : List Line) (ks : List Cla) (q1 q2 : Int) (mx : List (List Int)) (dz : List (List (List Int))) (cs2 : List (Int × List Bool × List Int)) (ns2 os2 : List ByteArray) (gs : List Off) (hs : List Line) (ks2 : List Cla) (hvc :
 let c1 := (cs, ns, os, fs, ls, ks);
 let c2 := (cs2, ns2, os2, gs, hs, ks2);
 let c3 := D.not (luF c1 c2 nx mx);
 let c4 := postF c1 a b c;
 let c5 := c4.snd;
 let c6 := c5.fst;
 let c7 := c5.snd;
 let c8 := c7.fst;
 let c9 := c7.snd;
 let c10 := c9.snd;
 let c11 := D.ne (WayE c1 nx c6 c8 c10) (0 : Int);
 let c12 := D.not c11;
 let c13 := WayL c1 nx c6 c8 c10;
 let c14 := D.ilen c13;
 let c15 := D.cnd c11 true (D.eq c14 (0 : Int));
 let c16 := D.add c10 (1 : Int);
 let c17 := D.sub c10 (D.rem d c16);
 let c18 := (c4.fst, c6, c8, c9.fst, c10);
 let c19 := D.ne (carryE c1 c2 nx mx c17 c18) (WayE c2 mx c6 c8 c10);
 let c20 := D.not c19;
 let c21 := carryL c1 c2 nx mx c17 c18;
 let c22 := D.cnd c19 true (D.not (sameSt c21 (WayL c2 mx c6 c8 c10)));
 let c23 := D.eq c14 (1 : Int);
 let c24 := D.sub c14 (2 : Int);
 let c25 := D.add (D.get c13 (D.nat c24) ((0 : Int), (0 : Int), (0 : Int), (0 : Int))).snd.snd.fst (1 : Int);
 let c26 := D.gt c25 (1000000 : Int);
 let c27 := D.and true (D.not c26);
 let c28 := D.eq (carryE c1 c2 nx mx c25 c18) (0 : Int);
 let c29 := carryL c1 c2 nx mx c25 c18; true = true ∧ (u2P a b ∧ w1P c ∧ w1P d → True ∧ True ∧ (c3 = true → true = true ∧ True) ∧ (c3 = false → postP c1 a b c ∧
  1 = 1 ∧ 0 = 0 ∧ 1 = 1 ∧ 1 = 1 ∧ 0 = 0 ∧ 1 = 1 ∧ 1 = 1 ∧ 0 = 0 ∧ 1 = 1 ∧ 1 = 1 ∧ 0 = 0 ∧ fitsM nx ∧ (c12 = true → c12 = true → c12 = true) ∧ (c12 = true → c12 =
  true → c12 = true) ∧ (D.and true c12 = true → c12 = true) ∧ (c15 = true → (true = true → true = true → true = true) ∧ (D.and true true = true → true = true) ∧
  D.cnd true c11 false = true ∧ True) ∧ (c15 = false → 1 = 1 ∧ 1 = 1 ∧ 0 = 0 ∧ inR IntKind.i64 d ∧ 1 = 1 ∧ 1 = 1 ∧ 0 = 0 ∧ inR IntKind.i64 c16 ∧ D.ine c16 (0 :
  Int) ∧ inR IntKind.i64 c17 ∧ 1 = 1 ∧ 0 = 0 ∧ (netFits c1 nx ∧ netFits c2 mx) ∧ 1 = 1 ∧ 1 = 1 ∧ 0 = 0 ∧ 1 = 1 ∧ 1 = 1 ∧ 0 = 0 ∧ 1 = 1 ∧ 1 = 1 ∧ 0 = 0 ∧ fitsM mx
  ∧ (c20 = true → c20 = true → c20 = true) ∧ (c20 = true → c20 = true → c20 = true) ∧ (c20 = true → sFits c21) ∧ (c20 = true → c20 = true → c20 = true) ∧ (D.and
  true c20 = true → c20 = true) ∧ (c22 = true → false = true ∧ True) ∧ (c22 = false → (c23 = true → true = true ∧ True) ∧ (c23 = false → inR IntKind.i64 c24 ∧
  D.ile (0 : Int) c24 ∧ D.ilt c24 c14 ∧ inR IntKind.i64 c25 ∧ 1 = 1 ∧ 0 = 0 ∧ (netFits c1 nx ∧ netFits c2 mx) ∧ (true = true → true = true → true = true) ∧ (true
  = true → true = true → true = true) ∧ (c27 = true → c27 = true → c27 = true) ∧ (c27 = true → c27 = true → c27 = true) ∧ (D.and c27 c28 = true → D.and c27 c28 =
  true → D.and c27 c28 = true) ∧ (D.and c27 c28 = true → D.and c27 c28 = true → D.and c27 c28 = true) ∧ (D.and c27 c28 = true → sFits c29) ∧ (c27 = true → c27 =
  true → c27 = true) ∧ (c27 = true → D.and c27 c28 = true → D.and c27 c28 = true) ∧ (true = true → true = true → true = true) ∧ (true = true → c27 = true → c27 =
  true) ∧ (D.and true true = true → true = true) ∧ D.cnd true (D.cnd c26 true (D.cnd c28 (sameSt c29 c13) false)) false = true ∧ True)))))) :
    evF (mkc KR19) noAnn 5 [net cs ns os fs ls ks, .agg [.dat I p1, .dat I p2, .dat M nx, .dat (.sl M) dy], net cs2 ns2 os2 gs hs ks2, .agg [.dat I q1, .dat I q2, .dat M mx, .dat (.sl M) dz], .dat B8 a, .dat B8 b, .dat U32 c, .dat U32 d] [] ⟨u2P a b ∧ w1P c ∧ w1P d, .dat .bool true, []⟩ := @of_eq _ _ (by kernel_rfl) hvc
def agA (l w : List Stop) : Ann := ⟨fun id s => match id with
  | 12 => some { α := Int, inv := fun k => agIn l w k, st := fun k => put (flat s) [(19, .dat I k)], μ := fun k => D.nat (D.sub (D.ilen l) k) }
  | _ => none, fun _ _ => none, fun _ _ => none⟩
def agT (n : Net) (nx : List (List Int)) (a b c d : Int) : List Stop := carryL n n nx nx (D.rem d 100001) ((postF n a b c).1, (postF n a b c).2.1, (postF n a b c).2.2.1, (postF n a b c).2.2.2.1, (postF n a b c).2.2.2.2)
def agW (n : Net) (nx : List (List Int)) (a b c : Int) : List Stop := WayL n nx (postF n a b c).2.1 (postF n a b c).2.2.1 (postF n a b c).2.2.2.2
theorem vc_lagain (a b c d : Int) (p1 p2 : Int) (nx : List (List Int)) (dy : List (List (List Int))) (cs : LC) (ns os : LB) (fs : List Off) (ls : List Line) (ks : List Cla) (hvc :
 let c1 := (cs, ns, os, fs, ls, ks);
 let c2 := luF c1 c1 nx nx;
 let c3 := D.not c2;
 let c4 := postF c1 a b c;
 let c5 := c4.snd;
 let c6 := c5.fst;
 let c7 := c5.snd;
 let c8 := c7.fst;
 let c9 := c7.snd;
 let c10 := c9.snd;
 let c11 := WayE c1 nx c6 c8 c10;
 let c12 := D.ne c11 (0 : Int);
 let c13 := D.not c12;
 let c14 := D.rem d (100001 : Int);
 let c15 := c4.fst;
 let c16 := c9.fst;
 let c17 := (c15, c6, c8, c16, c10);
 let c18 := carryE c1 c1 nx nx c14 c17;
 let c19 := D.cnd c12 true (D.ne c18 (0 : Int));
 let c20 := D.eq c11 (0 : Int);
 let c21 := WayL c1 nx c6 c8 c10;
 let c22 := D.ilen c21;
 let c23 := carryL c1 c1 nx nx c14 c17;
 let c24 := D.ilen c23;
 let c25 := D.ne c22 c24;
 let c26 := (nx, dy);
 let c27 := (p1, p2, c26);
 let c28 := ((0 : Int), (0 : Int), (0 : Int), (0 : Int)); true = true ∧ (u2P a b ∧ w1P c ∧ w1P d → True ∧ True ∧ (c3 = true → true = true ∧ True) ∧ (c3 = false →
  postP c1 a b c ∧ 1 = 1 ∧ 0 = 0 ∧ 1 = 1 ∧ 1 = 1 ∧ 0 = 0 ∧ 1 = 1 ∧ 1 = 1 ∧ 0 = 0 ∧ 1 = 1 ∧ 1 = 1 ∧ 0 = 0 ∧ fitsM nx ∧ inR IntKind.i64 d ∧ D.ine (100001 : Int) (0
  : Int) ∧ 1 = 1 ∧ 0 = 0 ∧ (netFits c1 nx ∧ netFits c1 nx) ∧ (c13 = true → c13 = true → c13 = true) ∧ (D.and true c13 = true → c13 = true) ∧ (c19 = true → (true
  = true → true = true → true = true) ∧ (true = true → true = true → true = true) ∧ (D.and true (D.not c20) = true → D.and true (D.not c20) = true → D.and true
  (D.not c20) = true) ∧ (D.and true (D.not c20) = true → D.and true (D.not c20) = true → D.and true (D.not c20) = true) ∧ (true = true → true = true → true =
  true) ∧ (true = true → D.and true (D.not c20) = true → D.and true (D.not c20) = true) ∧ (D.and true true = true → true = true) ∧ D.cnd true (D.cnd c20 true
  (D.eq c11 c18)) false = true ∧ True) ∧ (c19 = false → (c25 = true → false = true ∧ True) ∧ (c25 = false → (∃ x, agIn c23 c21 x ∧ cs = cs ∧ ns = ns ∧ os = os ∧
  fs = fs ∧ ls = ls ∧ ks = ks ∧ p1 = p1 ∧ p2 = p2 ∧ nx = nx ∧ dy = dy ∧ a = a ∧ b = b ∧ c = c ∧ d = d ∧ c1 = c1 ∧ c27 = c27 ∧ true = true ∧ 1 = 1 ∧ 0 = 0 ∧ 0 = 0
  ∧ c21 = c21 ∧ c11 = c11 ∧ c23 = c23 ∧ c18 = c18 ∧ (0 : Int) = x ∧ true = true ∧ cs = cs ∧ ns = ns ∧ os = os ∧ fs = fs ∧ ls = ls ∧ ks = ks ∧ p1 = p1 ∧ p2 = p2 ∧
  nx = nx ∧ dy = dy ∧ cs = cs ∧ ns = ns ∧ os = os ∧ fs = fs ∧ ls = ls ∧ ks = ks ∧ p1 = p1 ∧ p2 = p2 ∧ nx = nx ∧ dy = dy ∧ c2 = c2 ∧ c3 = c3 ∧ cs = cs ∧ ns = ns ∧
  os = os ∧ fs = fs ∧ ls = ls ∧ ks = ks ∧ a = a ∧ b = b ∧ c = c ∧ c15 = c15 ∧ c6 = c6 ∧ c8 = c8 ∧ c16 = c16 ∧ c10 = c10 ∧ c21 = c21 ∧ c11 = c11 ∧ cs = cs ∧ ns =
  ns ∧ os = os ∧ fs = fs ∧ ls = ls ∧ ks = ks ∧ c26 = c26 ∧ nx = nx ∧ 1 = 1 ∧ 0 = 0 ∧ 1 = 1 ∧ c6 = c6 ∧ 1 = 1 ∧ 0 = 0 ∧ 2 = 2 ∧ c8 = c8 ∧ 1 = 1 ∧ 0 = 0 ∧ 4 = 4 ∧
  c10 = c10 ∧ c21 = c21 ∧ c11 = c11 ∧ c21 = c21 ∧ c11 = c11 ∧ c23 = c23 ∧ c18 = c18 ∧ cs = cs ∧ ns = ns ∧ os = os ∧ fs = fs ∧ ls = ls ∧ ks = ks ∧ p1 = p1 ∧ p2 =
  p2 ∧ nx = nx ∧ dy = dy ∧ cs = cs ∧ ns = ns ∧ os = os ∧ fs = fs ∧ ls = ls ∧ ks = ks ∧ p1 = p1 ∧ p2 = p2 ∧ nx = nx ∧ dy = dy ∧ d = d ∧ d = d ∧ c14 = c14 ∧ c15 =
  c15 ∧ c6 = c6 ∧ c8 = c8 ∧ c16 = c16 ∧ c10 = c10 ∧ c23 = c23 ∧ c18 = c18 ∧ c23 = c23 ∧ c18 = c18 ∧ c11 = c11 ∧ c12 = c12 ∧ c12 = c12 ∧ c19 = c19 ∧ c21 = c21 ∧
  c22 = c22 ∧ c23 = c23 ∧ c24 = c24 ∧ c25 = c25 ∧ c15 = c15 ∧ c6 = c6 ∧ c8 = c8 ∧ c16 = c16 ∧ c10 = c10 ∧ True) ∧ ∀ (x : Int),
 let c29 := D.get c23 (D.nat x) c28;
 let c30 := D.get c21 (D.nat x) c28;
 let c31 := D.ne c29.fst c30.fst;
 let c32 := D.not c31;
 let c33 := c29.snd;
 let c34 := c30.snd;
 let c35 := D.cnd c31 true (D.lt c33.fst c34.fst);
 let c36 := D.not c35;
 let c37 := c33.snd;
 let c38 := c34.snd;
 let c39 := D.cnd c35 true (D.lt c37.fst c38.fst);
 let c40 := D.not c39;
 let c41 := D.cnd c39 true (D.ne c37.snd c38.snd);
 let c42 := D.add x (1 : Int); agIn c23 c21 x → (D.lt x c24 = true → D.ile (0 : Int) x ∧ D.ilt x c24 ∧ D.ile (0 : Int) x ∧ D.ilt x c22 ∧ (c32 = true → c32 = true
  → c32 = true) ∧ (c32 = true → c32 = true → c32 = true) ∧ (c32 = true → D.ile (0 : Int) x) ∧ (c32 = true → D.ilt x c24) ∧ (c32 = true → c32 = true → c32 = true)
  ∧ (c32 = true → c32 = true → c32 = true) ∧ (c32 = true → c32 = true → c32 = true) ∧ (c32 = true → c32 = true → c32 = true) ∧ (c32 = true → D.ile (0 : Int) x) ∧
  (c32 = true → D.ilt x c22) ∧ (c32 = true → c32 = true → c32 = true) ∧ (c32 = true → c32 = true → c32 = true) ∧ (c32 = true → c32 = true → c32 = true) ∧ (c32 =
  true → c32 = true → c32 = true) ∧ (D.and true c32 = true → c32 = true) ∧ (c36 = true → c36 = true → c36 = true) ∧ (c36 = true → c36 = true → c36 = true) ∧ (c36
  = true → D.ile (0 : Int) x) ∧ (c36 = true → D.ilt x c24) ∧ (c36 = true → c36 = true → c36 = true) ∧ (c36 = true → c36 = true → c36 = true) ∧ (c36 = true → c36
  = true → c36 = true) ∧ (c36 = true → c36 = true → c36 = true) ∧ (c36 = true → D.ile (0 : Int) x) ∧ (c36 = true → D.ilt x c22) ∧ (c36 = true → c36 = true → c36
  = true) ∧ (c36 = true → c36 = true → c36 = true) ∧ (c36 = true → c36 = true → c36 = true) ∧ (c36 = true → c36 = true → c36 = true) ∧ (D.and true c36 = true →
  c36 = true) ∧ (c40 = true → c40 = true → c40 = true) ∧ (c40 = true → c40 = true → c40 = true) ∧ (c40 = true → D.ile (0 : Int) x) ∧ (c40 = true → D.ilt x c24) ∧
  (c40 = true → c40 = true → c40 = true) ∧ (c40 = true → c40 = true → c40 = true) ∧ (c40 = true → c40 = true → c40 = true) ∧ (c40 = true → c40 = true → c40 =
  true) ∧ (c40 = true → D.ile (0 : Int) x) ∧ (c40 = true → D.ilt x c22) ∧ (c40 = true → c40 = true → c40 = true) ∧ (c40 = true → c40 = true → c40 = true) ∧ (c40
  = true → c40 = true → c40 = true) ∧ (c40 = true → c40 = true → c40 = true) ∧ (D.and true c40 = true → c40 = true) ∧ (c41 = true → false = true ∧ True) ∧ (c41 =
  false → inR IntKind.i64 c42 ∧ ∃ y, agIn c23 c21 y ∧ (cs = cs ∧ ns = ns ∧ os = os ∧ fs = fs ∧ ls = ls ∧ ks = ks ∧ p1 = p1 ∧ p2 = p2 ∧ nx = nx ∧ dy = dy ∧ a = a
  ∧ b = b ∧ c = c ∧ d = d ∧ c1 = c1 ∧ c27 = c27 ∧ true = true ∧ 1 = 1 ∧ 0 = 0 ∧ 0 = 0 ∧ c21 = c21 ∧ c11 = c11 ∧ c23 = c23 ∧ c18 = c18 ∧ c42 = y ∧ true = true ∧
  cs = cs ∧ ns = ns ∧ os = os ∧ fs = fs ∧ ls = ls ∧ ks = ks ∧ p1 = p1 ∧ p2 = p2 ∧ nx = nx ∧ dy = dy ∧ cs = cs ∧ ns = ns ∧ os = os ∧ fs = fs ∧ ls = ls ∧ ks = ks ∧
  p1 = p1 ∧ p2 = p2 ∧ nx = nx ∧ dy = dy ∧ c2 = c2 ∧ c3 = c3 ∧ cs = cs ∧ ns = ns ∧ os = os ∧ fs = fs ∧ ls = ls ∧ ks = ks ∧ a = a ∧ b = b ∧ c = c ∧ c15 = c15 ∧ c6
  = c6 ∧ c8 = c8 ∧ c16 = c16 ∧ c10 = c10 ∧ c21 = c21 ∧ c11 = c11 ∧ cs = cs ∧ ns = ns ∧ os = os ∧ fs = fs ∧ ls = ls ∧ ks = ks ∧ c26 = c26 ∧ nx = nx ∧ 1 = 1 ∧ 0 =
  0 ∧ 1 = 1 ∧ c6 = c6 ∧ 1 = 1 ∧ 0 = 0 ∧ 2 = 2 ∧ c8 = c8 ∧ 1 = 1 ∧ 0 = 0 ∧ 4 = 4 ∧ c10 = c10 ∧ c21 = c21 ∧ c11 = c11 ∧ c21 = c21 ∧ c11 = c11 ∧ c23 = c23 ∧ c18 =
  c18 ∧ cs = cs ∧ ns = ns ∧ os = os ∧ fs = fs ∧ ls = ls ∧ ks = ks ∧ p1 = p1 ∧ p2 = p2 ∧ nx = nx ∧ dy = dy ∧ cs = cs ∧ ns = ns ∧ os = os ∧ fs = fs ∧ ls = ls ∧ ks
  = ks ∧ p1 = p1 ∧ p2 = p2 ∧ nx = nx ∧ dy = dy ∧ d = d ∧ d = d ∧ c14 = c14 ∧ c15 = c15 ∧ c6 = c6 ∧ c8 = c8 ∧ c16 = c16 ∧ c10 = c10 ∧ c23 = c23 ∧ c18 = c18 ∧ c23
  = c23 ∧ c18 = c18 ∧ c11 = c11 ∧ c12 = c12 ∧ c12 = c12 ∧ c19 = c19 ∧ c21 = c21 ∧ c22 = c22 ∧ c23 = c23 ∧ c24 = c24 ∧ c25 = c25 ∧ c15 = c15 ∧ c6 = c6 ∧ c8 = c8 ∧
  c16 = c16 ∧ c10 = c10 ∧ True) ∧ D.nlt (D.nat (D.sub c24 y)) (D.nat (D.sub c24 x)))) ∧ (D.lt x c24 = false → true = true ∧ True)))))) :
    evF (mkc KR19) (agA (agT (cs, ns, os, fs, ls, ks) nx a b c d) (agW (cs, ns, os, fs, ls, ks) nx a b c)) 9 [net cs ns os fs ls ks, .agg [.dat I p1, .dat I p2, .dat M nx, .dat (.sl M) dy], .dat B8 a, .dat B8 b, .dat U32 c, .dat U32 d] [] ⟨u2P a b ∧ w1P c ∧ w1P d, .dat .bool true, []⟩ := @of_eq _ _ (by kernel_rfl) hvc
theorem t_learly (a b c d : Int) (p1 p2 : Int) (nx : List (List Int)) (dy : List (List (List Int))) (cs : LC) (ns os : LB) (fs : List Off) (ls : List Line) (ks : List Cla) (q1 q2 : Int) (mx : List (List Int)) (dz : List (List (List Int))) (cs2 : List (Int × List Bool × List Int)) (ns2 os2 : List ByteArray) (gs : List Off) (hs : List Line) (ks2 : List Cla) : SoundC Tryz.prog G0 5 [net cs ns os fs ls ks, .agg [.dat I p1, .dat I p2, .dat M nx, .dat (.sl M) dy], net cs2 ns2 os2 gs hs ks2, .agg [.dat I q1, .dat I q2, .dat M mx, .dat (.sl M) dz], .dat B8 a, .dat B8 b, .dat U32 c, .dat U32 d] [] ⟨u2P a b ∧ w1P c ∧ w1P d, .dat .bool true, []⟩ := by
  refine sound_of_ev (c := mkc KR19) KSR19 KI0s hm (vc_learly a b c d p1 p2 nx dy cs ns os fs ls ks q1 q2 mx dz cs2 ns2 os2 gs hs ks2 ⟨rfl, fun hp => ?_⟩)
  simp only [cnd_or, cnd_and, D.and, D.or, D.not, Bool.true_and, Bool.and_true, Bool.false_or, Bool.or_false, eq_self, true_and, and_true, imp_self, implies_true, Bool.not_eq_true', Bool.or_eq_true, Bool.or_eq_false_iff, Bool.not_eq_false', Bool.and_eq_true, Bool.and_eq_false_imp, Bool.not_not, forall_const, exists_eq_right, exists_eq_right', exists_eq_left, exists_eq_left', Int.toNat_natCast, Nat.zero_add, Nat.mul_one, Int.ofNat_eq_natCast, D.nil, D.eq, D.ne, D.lt, D.gt, D.le, D.ge, D.beq, D.ilen, D.slen, D.ile, D.ilt, D.ine, D.nle, D.nlt, D.sub, D.add, D.mul, D.neg, D.nat, D.ofN, D.len, D.nadd, D.nmul, D.get, D.mn, D.mx, D.set, D.app, D.tail, D.part, D.seg, D.rep, D.at2, decide_eq_true_eq, decide_eq_false_iff_not, beq_iff_eq, bne_iff_ne, beq_eq_false_iff_ne, bne_eq_false_iff_eq, D.wrap, D.allNil]
  intro hu
  obtain ⟨⟨a0, a1, b0, b1⟩, ⟨c0, c1⟩, ⟨d0, d1⟩⟩ := hp
  have L := lu_of hu
  have hpo : postP (cs, ns, os, fs, ls, ks) a b c := ⟨L.pos, a0, a1, b0, b1, c0, c1⟩
  refine ⟨hpo, L.fn.2, ?_⟩
  obtain ⟨⟨o0, o1⟩, ⟨e0, e1⟩, t0, t1⟩ := post_bnd hpo
  generalize postF (cs, ns, os, fs, ls, ks) a b c = x at *
  obtain ⟨x1, x2, x3, x4, x5⟩ := x
  simp only at o0 o1 e0 e1 t0 t1 ⊢
  have hrm := tmod_bnd (a := d) (k := x5 + 1) (by omega) d0
  have hr : 0 ≤ D.rem d (x5 + 1) ∧ D.rem d (x5 + 1) ≤ x5 := ⟨hrm.1, by have := hrm.2; show d.tmod (x5 + 1) ≤ x5; omega⟩
  generalize hwl : WayL (cs, ns, os, fs, ls, ks) nx x2 x3 x5 = w
  generalize D.rem d (x5 + 1) = r at *
  refine ⟨fun h => h.elim id fun h hw => by have := (Way_is hw).2.1.pos; rw [hwl] at this; omega, fun ⟨hw, hne⟩ => ?_⟩
  have E := early (x := (x1, x2, x3, x4, x5)) L o0 o1 e0 e1 t0 t1 hw (t := x5 - r) (by omega) (by simp only; omega)
  simp only at E
  rw [E.1, E.2]
  have hl1 : (WayL (cs2, ns2, os2, gs, hs, ks2) mx x2 x3 x5).length ≤ 20 := WayL_len
  have hl2 : w.length ≤ 20 := by rw [← hwl]; exact WayL_len
  obtain ⟨us, ut⟩ := usF_iff.1 L.un
  refine ⟨in_big (by omega), in_big (by omega), by omega, in_big (by omega), ⟨L.fn, L.fm⟩, L.fm.2, fun _ => by unfold sFits; omega, fun h => by simp [sameSt] at h, fun _ h1 => ?_⟩
  obtain ⟨k, hk⟩ : ∃ k : Nat, k + 2 = w.length := ⟨w.length - 2, by omega⟩
  rw [show ((w.length : Int) - 2).toNat = k by omega]
  have hway := (Way_is hw).2.1
  rw [hwl] at hway
  have g := hway.gap us ut e0 e1 o0 o1 (i := k) (by omega)
  have ha : x5 ≤ (sG w k).2.1 := by
    rcases Nat.eq_zero_or_pos k with h | h
    · subst h; exact Int.le_of_eq hway.head.2.symm
    · have := hway.ord us ut e0 e1 o0 o1 h (by omega)
      have e : (sG w 0).2.1 = _ := hway.head.2
      omega
  simp only [sG] at g ha
  refine ⟨in_big (by omega), by omega, by omega, in_big (by omega), ⟨L.fn, L.fm⟩, fun _ => by have := @carryL_len (cs, ns, os, fs, ls, ks) (cs2, ns2, os2, gs, hs, ks2) nx mx ((w.getD k (0, 0, 0, 0)).2.2.1 + 1) (x1, x2, x3, x4, x5); unfold sFits; omega, ?_⟩
  by_cases hb : (w.getD k (0, 0, 0, 0)).2.2.1 + 1 > 1000000
  · exact .inl hb
  · right
    have F := late (x := (x1, x2, x3, x4, x5)) L o0 o1 e0 e1 t0 t1 hw (k := k) (by simp only; rw [hwl]; exact hk) (t := (w.getD k (0, 0, 0, 0)).2.2.1 + 1) (by simp only [sG]; rw [hwl]) (by omega)
    rw [F.1, F.2]
    simp only
    rw [hwl]
    exact ⟨trivial, by simp [sameSt]⟩
theorem t_lagain (a b c d : Int) (p1 p2 : Int) (nx : List (List Int)) (dy : List (List (List Int))) (cs : LC) (ns os : LB) (fs : List Off) (ls : List Line) (ks : List Cla) : SoundC Tryz.prog G0 9 [net cs ns os fs ls ks, .agg [.dat I p1, .dat I p2, .dat M nx, .dat (.sl M) dy], .dat B8 a, .dat B8 b, .dat U32 c, .dat U32 d] [] ⟨u2P a b ∧ w1P c ∧ w1P d, .dat .bool true, []⟩ := by
  refine sound_of_ev (c := mkc KR19) KSR19 KI0s hm (vc_lagain a b c d p1 p2 nx dy cs ns os fs ls ks ⟨rfl, fun hp => ?_⟩)
  simp only [cnd_or, cnd_and, D.and, D.or, D.not, Bool.true_and, Bool.and_true, Bool.false_or, Bool.or_false, eq_self, true_and, and_true, imp_self, implies_true, Bool.not_eq_true', Bool.or_eq_true, Bool.or_eq_false_iff, Bool.not_eq_false', Bool.and_eq_true, Bool.and_eq_false_imp, Bool.not_not, forall_const, exists_eq_right, exists_eq_right', exists_eq_left, exists_eq_left', Int.toNat_natCast, Nat.zero_add, Nat.mul_one, Int.ofNat_eq_natCast, D.nil, D.eq, D.ne, D.lt, D.gt, D.le, D.ge, D.beq, D.ilen, D.slen, D.ile, D.ilt, D.ine, D.nle, D.nlt, D.sub, D.add, D.mul, D.neg, D.nat, D.ofN, D.len, D.nadd, D.nmul, D.get, D.mn, D.mx, D.set, D.app, D.tail, D.part, D.seg, D.rep, D.at2, decide_eq_true_eq, decide_eq_false_iff_not, beq_iff_eq, bne_iff_ne, beq_eq_false_iff_ne, bne_eq_false_iff_eq, D.wrap, D.allNil]
  intro hu
  obtain ⟨⟨a0, a1, b0, b1⟩, ⟨c0, c1⟩, ⟨d0, d1⟩⟩ := hp
  have L := lu_of hu
  have hpo : postP (cs, ns, os, fs, ls, ks) a b c := ⟨L.pos, a0, a1, b0, b1, c0, c1⟩
  refine ⟨hpo, L.fn.2, ?_⟩
  obtain ⟨⟨o0, o1⟩, ⟨e0, e1⟩, t0, t1⟩ := post_bnd hpo
  generalize hwT : agT (cs, ns, os, fs, ls, ks) nx a b c d = lT
  generalize hwW : agW (cs, ns, os, fs, ls, ks) nx a b c = lW
  unfold agT at hwT
  unfold agW at hwW
  generalize postF (cs, ns, os, fs, ls, ks) a b c = x at *
  obtain ⟨x1, x2, x3, x4, x5⟩ := x
  simp only at o0 o1 e0 e1 t0 t1 hwT hwW ⊢
  rw [hwT, hwW]
  have hrm := tmod_bnd (a := d) (k := 100001) (by omega) d0
  have hr : 0 ≤ D.rem d 100001 ∧ D.rem d 100001 ≤ 100000 := ⟨hrm.1, by have := hrm.2; show d.tmod 100001 ≤ 100000; omega⟩
  generalize D.rem d 100001 = r at *
  have ck := carOk_lu L (x := (x1, x2, x3, x4, x5)) hr.1 (by omega) o0 o1 e0 e1 t0 (by simp only; omega)
  refine ⟨in_big (by omega), by omega, ⟨L.fn, L.fn⟩, fun _ => ?_, fun ⟨hw, hE⟩ => ?_⟩
  · by_cases hw : WayE (cs, ns, os, fs, ls, ks) nx x2 x3 x5 = 0
    · exact .inl hw
    · exact .inr (carry_bad ck hw).symm
  · obtain ⟨A1, A2⟩ := again hE
    have eW : oldW (cs, ns, os, fs, ls, ks) nx (x1, x2, x3, x4, x5) = lW := hwW
    rw [hwT, eW] at A1 A2
    have hl : lW.length ≤ 20 := by rw [← hwW]; exact WayL_len
    refine ⟨fun h => by omega, fun _ => ⟨⟨Int.le_refl _, by omega, by omega⟩, fun y hy hlt => ?_⟩⟩
    have y0 := hy.1
    obtain ⟨g1, g2, g3, g4⟩ := A2 y.toNat (by omega)
    simp only [sG] at g1 g2 g3 g4
    refine ⟨y0, hlt, y0, by omega, fun _ => y0, fun _ => hlt, fun _ => y0, fun _ => by omega, fun _ => y0, fun _ => hlt, fun _ => y0, fun _ => by omega, fun _ => y0, fun _ => hlt, fun _ => y0, fun _ => by omega, fun h => ?_, fun _ => ⟨in_big (by omega), y + 1, ⟨by omega, by omega, by omega⟩, rfl, by omega⟩⟩
    rcases h with ((h | h) | h) | h
    · exact absurd g1 h
    · omega
    · omega
    · exact absurd g4 h
end Go.Eng.Sv
