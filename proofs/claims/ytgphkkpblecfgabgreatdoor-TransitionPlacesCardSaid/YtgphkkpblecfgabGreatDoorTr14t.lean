/- PeTr13t, PeTr14t -/
import Derived.Test.YtgphkkpblecfgabGreatDoorY22
import Derived.Test.YtgphkkpblecfgabGreatDoorTr11t
set_option linter.unusedSimpArgs false
set_option linter.unusedVariables false
set_option maxRecDepth 100000
namespace Go.Eng.Sv
open Go.Proofs
noncomputable def u2P (a b : Int) : Prop := 0 ≤ a ∧ a ≤ 255 ∧ 0 ≤ b ∧ b ≤ 255
noncomputable def w1P (c : Int) : Prop := 0 ≤ c ∧ c ≤ 4294967295
noncomputable def KR19 : Kt := kOr 10 (dataK [] (fun _ => True) fun _ => .dat .bool true) KR18
theorem KSR19 : KSound Tryz.prog G0 KR19 := kOr_ok (dataK_ok fun _ => t_thead) KSR18
theorem rng8 {a : Int} (h : inR .u8 a) : 0 ≤ a ∧ a ≤ 255 := by unfold inR at h; simp only at h; omega
theorem rng32 {a : Int} (h : inR .u32 a) : 0 ≤ a ∧ a ≤ 4294967295 := by unfold inR at h; simp only at h; omega
theorem usF_iff {n : Net} {nx : List (List Int)} : usF n nx = true ↔ soundF n = true ∧ tabF n nx = true := by unfold usF; simp
theorem alike_len {fs gs : List Off} (h : alikeO fs gs = true) : fs.length = gs.length := by
  unfold alikeO at h
  simp only [Bool.and_eq_true, decide_eq_true_eq] at h
  omega
theorem sm_fits {n : Net} {nx : List (List Int)} (h : smF n nx = true) : netFits n nx ∧ n.2.2.2.1.length ≤ 6 := by
  unfold smF at h
  simp only [Bool.and_eq_true, decide_eq_true_eq, List.all_eq_true] at h
  obtain ⟨⟨h1, h2⟩, h3, h4⟩ := h
  exact ⟨⟨by show _ ≤ 1000000; omega, ⟨by omega, fun r hr => by have := h4 r hr; omega⟩⟩, by omega⟩
structure LU (n m : Net) (nx mx : List (List Int)) : Prop where
  fn : netFits n nx
  fm : netFits m mx
  un : usF n nx = true
  um : usF m mx = true
  al : alikeO n.2.2.2.1 m.2.2.2.1 = true
  pos : 0 < n.2.2.2.1.length
  six : n.2.2.2.1.length ≤ 6
theorem lu_of {n m : Net} {nx mx : List (List Int)} (h : luF n m nx mx = true) : LU n m nx mx := by
  unfold luF at h
  simp only [Bool.and_eq_true, decide_eq_true_eq] at h
  obtain ⟨⟨⟨⟨⟨h1, h2⟩, h3⟩, h4⟩, h5⟩, h6⟩ := h
  exact ⟨(sm_fits h1).1, (sm_fits h2).1, h3, h4, h5, by omega, (sm_fits h1).2⟩
theorem LU.len {n m : Net} {nx mx : List (List Int)} (h : LU n m nx mx) : n.2.2.2.1.length = m.2.2.2.1.length := alike_len h.al
theorem LU.pass {n m : Net} {nx mx : List (List Int)} (h : LU n m nx mx) {o d : Int} (o0 : 0 ≤ o) (o1 : o < n.2.2.2.1.length) (d0 : 0 ≤ d) (d1 : d < n.2.2.2.1.length) : passP n nx o d ∧ passP m mx o d := by
  obtain ⟨a1, a2⟩ := usF_iff.1 h.un
  obtain ⟨b1, b2⟩ := usF_iff.1 h.um
  have := h.len
  exact ⟨⟨a1, a2, o0, o1, d0, d1⟩, ⟨b1, b2, o0, by omega, d0, by omega⟩⟩
theorem tmod_bnd {a k : Int} (h : 0 < k) (a0 : 0 ≤ a) : 0 ≤ a.tmod k ∧ a.tmod k < k := by
  rw [Int.tmod_eq_emod_of_nonneg a0]
  exact ⟨Int.emod_nonneg _ (by omega), Int.emod_lt_of_pos _ (by omega)⟩
theorem post_bnd {n : Net} {a b c : Int} (h : postP n a b c) : (0 ≤ (postF n a b c).2.1 ∧ (postF n a b c).2.1 < n.2.2.2.1.length) ∧ (0 ≤ (postF n a b c).2.2.1 ∧ (postF n a b c).2.2.1 < n.2.2.2.1.length) ∧ 0 ≤ (postF n a b c).2.2.2.2 ∧ (postF n a b c).2.2.2.2 ≤ 100000 := by
  obtain ⟨h0, a0, a1, b0, b1, c0, c1⟩ := h
  have := tmod_bnd (k := 100001) (by omega) c0
  exact ⟨tmod_bnd (by omega) a0, tmod_bnd (by omega) b0, this.1, by have := this.2; show c.tmod 100001 ≤ 100000; omega⟩
theorem LU.ok {n m : Net} {nx mx : List (List Int)} (h : LU n m nx mx) {t : Int} (t0 : 0 ≤ t) (t1 : t ≤ 1000000) : safeOk n m nx mx t = true := by
  unfold safeOk tim20
  rw [h.un, h.um, h.al, decide_eq_true ⟨t0, t1⟩]; rfl
section
variable {n m : Net} {nx mx : List (List Int)} {to : Int}
theorem pass_head (k : Nat) (x : Int) : x ∈ passN n nx to k x := by
  cases k with
  | zero => rw [passN]; simp
  | succ k => rw [passN]; split <;> simp
theorem pass_mono : ∀ (j k : Nat) (x : Int), j ≤ k → to ∈ passN n nx to j x → to ∈ passN n nx to k x
  | 0, k, x, _, h => by
    rw [passN, List.mem_singleton] at h
    subst h; exact pass_head k _
  | j + 1, 0, x, h, _ => by omega
  | j + 1, k + 1, x, hk, h => by
    rw [passN] at h ⊢
    split
    · rename_i hs; rw [if_pos hs] at h; exact h
    · rename_i hs
      rw [if_neg hs] at h
      rcases List.mem_cons.1 h with h | h
      · rw [h]; exact List.mem_cons_self
      · exact List.mem_cons_of_mem _ (pass_mono j k _ (by omega) h)
theorem pass_lead : ∀ (k : Nat) (x0 : Int), to ∈ passN n nx to k x0 → ∀ x ∈ passN n nx to k x0, ∃ j, j ≤ k ∧ to ∈ passN n nx to j x
  | 0, x0, h, x, hx => by
    rw [passN, List.mem_singleton] at hx
    subst hx; exact ⟨0, Nat.le_refl _, h⟩
  | k + 1, x0, h, x, hx => by
    by_cases hs : x0 = to ∨ nxt nx x0 to = -1
    · have hx' := hx
      rw [passN, if_pos hs, List.mem_singleton] at hx'
      subst hx'; exact ⟨k + 1, Nat.le_refl _, h⟩
    · have h' := h
      have hx' := hx
      rw [passN, if_neg hs] at h' hx'
      rcases List.mem_cons.1 hx' with rfl | hx'
      · exact ⟨k + 1, Nat.le_refl _, h⟩
      · rcases List.mem_cons.1 h' with e | h'
        · exact absurd (.inl e.symm) hs
        · obtain ⟨j, h1, h2⟩ := pass_lead k _ h' x hx'
          exact ⟨j, by omega, h2⟩
theorem way_no_route : ∀ (k : Nat) (x t : Int), to ∈ passN n nx to k x → (wayN n nx to k x t).2 ≠ 170
  | k, x, t, h => by
    by_cases h0 : x = to
    · rw [way_to k h0]; show (0 : Int) ≠ 170; decide
    · by_cases h1 : nxt nx x to = -1
      · exfalso
        have : passN n nx to k x = [x] := by
          cases k with
          | zero => rfl
          | succ k => rw [passN, if_pos (.inr h1)]
        rw [this, List.mem_singleton] at h
        exact h0 h.symm
      · have hd : depE n (nxt nx x to) (readyF n x t) ≠ 170 := by
          unfold depE fstE nextE
          split
          · split <;> decide
          · decide
        by_cases h2 : depE n (nxt nx x to) (readyF n x t) = 0
        · cases k with
          | zero =>
            rw [passN, List.mem_singleton] at h
            exact absurd h.symm h0
          | succ k =>
            rw [passN, if_neg (fun g => g.elim h0 h1)] at h
            rcases List.mem_cons.1 h with e | h
            · exact absurd e.symm h0
            · have ih := way_no_route k (lnTo n (nxt nx x to)) (depD n (nxt nx x to) (readyF n x t) + lnTrav n (nxt nx x to)) h
              rw [way_next k h0 h1 h2]
              unfold preW
              split
              · simp
              · exact ih
        · rw [way_err k h0 h1 h2]; exact hd
theorem isWay.office : ∀ (k : Nat) {o t : Int} {l : List Stop}, isWay n nx to o t l → l.length ≤ k + 1 → ∀ s ∈ l, s.1 ∈ passN n nx to k o
  | k, o, t, [], h, _, _, _ => h.elim
  | k, o, t, s0 :: r, h, hl, s, hs => by
    rcases h with ⟨h0, h1, rfl⟩ | ⟨h0, h1, h2, h3, h4⟩
    · rw [List.mem_singleton] at hs
      subst hs; rw [h1]; exact pass_head k o
    · rcases List.mem_cons.1 hs with rfl | hs
      · rw [h3]; exact pass_head k o
      · cases k with
        | zero =>
          cases r with
          | nil => exact h4.elim
          | cons _ _ => simp at hl
        | succ k =>
          rw [passN, if_neg (fun g => g.elim h0 h1)]
          exact List.mem_cons_of_mem _ (isWay.office k h4 (by simp at hl; omega) s hs)
theorem isWay.last {o t : Int} {l : List Stop} (h : isWay n nx to o t l) : ∃ s ∈ l, s.1 = to := by
  have hp := h.pos
  refine ⟨l.getD (l.length - 1) (0, 0, 0, 0), ?_, ?_⟩
  · rw [List.getD_eq_getElem?_getD, List.getElem?_eq_getElem (by omega), Option.getD_some]; exact List.getElem_mem _
  · rcases h.at (i := l.length - 1) (by omega) with ⟨_, g, _⟩ | ⟨g, _⟩
    · exact g
    · omega
end
end Go.Eng.Sv

set_option maxRecDepth 100000
namespace Go.Eng.Sv
open Go.Proofs
theorem next_least {w : List Bool} {h : List Int} {d x : Int} (he : nextE w h d = 0) (h1 : d ≤ x) (h2 : workF w h x = true) : nextD w h d ≤ x := by
  by_cases hx : d + 60 ≤ x
  · have := (next_spec he).2.1; omega
  · have hm : x ∈ listF w h d 60 := by
      unfold listF
      exact List.mem_filter.2 ⟨List.mem_map.2 ⟨(x - d).toNat, List.mem_range.2 (by omega), by omega⟩, h2⟩
    have hp : (listF w h d 60).Pairwise (· < ·) := by
      unfold listF
      exact List.Pairwise.filter _ (List.pairwise_map.2 (List.pairwise_lt_range.imp fun h => by omega))
    unfold nextD nextO
    cases hl : listF w h d 60 with
    | nil => rw [hl] at hm; cases hm
    | cons y tl =>
      rw [hl] at hm hp
      show y ≤ x
      rcases List.mem_cons.1 hm with rfl | hm
      · exact Int.le_refl _
      · exact Int.le_of_lt ((List.pairwise_cons.1 hp).1 x hm)
theorem fst_mono {c : Int × List Bool × List Int} {m t u : Int} (h : t ≤ u) (he : fstE c m t = 0) (hu : fstE c m u = 0) : fstD c m t ≤ fstD c m u := by
  have e1 : fstD c m t = timeF c.1 (nextD c.2.1 c.2.2 (d0F c m t)) m := if_pos he
  have e2 : fstD c m u = timeF c.1 (nextD c.2.1 c.2.2 (d0F c m u)) m := if_pos hu
  have hd : d0F c m t ≤ d0F c m u := by unfold d0F dayF minF; split <;> split <;> omega
  obtain ⟨q1, _, q3⟩ := next_spec hu
  have := next_least he (Int.le_trans hd q1) q3
  rw [e1, e2]; unfold timeF; omega
theorem dep_mono {n : Net} {l t u : Int} (h : t ≤ u) (he : depE n l t = 0) (hu : depE n l u = 0) : depD n l t ≤ depD n l u := by
  have k : ∀ v, depE n l v = 0 → timeOk v = true := fun v hv => by
    cases h : timeOk v with
    | true => rfl
    | false => unfold depE at hv; rw [h] at hv; cases hv
  have f : ∀ v, depE n l v = 0 → depD n l v = fstD (calAt n (lnFrom n l)) (lnAt n l) v ∧ fstE (calAt n (lnFrom n l)) (lnAt n l) v = 0 := fun v hv => ⟨if_pos (k v hv), by
    have e : depE n l v = fstE (calAt n (lnFrom n l)) (lnAt n l) v := if_pos (k v hv)
    rw [← e]; exact hv⟩
  rw [(f t he).1, (f u hu).1]
  exact fst_mono h (f t he).2 (f u hu).2
section
variable {n : Net} {nx : List (List Int)} {to : Int}
theorem step_ok (hs : soundF n = true) (ht : tabF n nx = true) (d0 : 0 ≤ to) (d1 : to < n.2.2.2.1.length) {o t : Int} (o0 : 0 ≤ o) (o1 : o < n.2.2.2.1.length) (h1 : nxt nx o to ≠ -1) (h2 : depE n (nxt nx o to) (readyF n o t) = 0) :
    linP n (nxt nx o to) ∧ (0 ≤ lnTo n (nxt nx o to) ∧ lnTo n (nxt nx o to) < n.2.2.2.1.length) ∧ (t + 1 ≤ depD n (nxt nx o to) (readyF n o t) ∧ depD n (nxt nx o to) (readyF n o t) ≤ 2090000) ∧ 1 ≤ lnTrav n (nxt nx o to) ∧ lnTrav n (nxt nx o to) ≤ 5000 := by
  obtain ⟨cs, ns, os, fs, ls, ks⟩ := n
  have hno := sound_noF cs ns os fs ls ks hs
  obtain ⟨⟨l0, l1⟩, _⟩ := (tab_cell cs ns os fs ls ks ht o0 o1 d0 d1).2.2 h1
  have hl : linP (cs, ns, os, fs, ls, ks) (nxt nx o to) := ⟨hno, l0, l1⟩
  obtain ⟨_, _, g3, g4, _, _, g7, g8⟩ := lin_ok cs ns os fs ls ks hl
  obtain ⟨_, _, _, f1, _, f3, _⟩ := off_ok cs ns os fs ls ks (o := o) ⟨hno, o0, o1⟩
  obtain ⟨b1, b2, b3, b4⟩ := depart_bnd cs ns os fs ls ks hl h2
  have hp : 0 < (offAt (cs, ns, os, fs, ls, ks) o).2.2.2.2.1 * (offAt (cs, ns, os, fs, ls, ks) o).2.2.2.2.2.1 := Int.mul_pos (by omega) (by omega)
  have hr : readyF (cs, ns, os, fs, ls, ks) o t = t + (offAt (cs, ns, os, fs, ls, ks) o).2.2.2.2.1 * (offAt (cs, ns, os, fs, ls, ks) o).2.2.2.2.2.1 := rfl
  exact ⟨hl, ⟨g3, g4⟩, ⟨by omega, by omega⟩, g7, g8⟩
abbrev sG (l : List Stop) (i : Nat) : Stop := l.getD i (0, 0, 0, 0)
theorem isWay.off (hs : soundF n = true) (ht : tabF n nx = true) (d0 : 0 ≤ to) (d1 : to < n.2.2.2.1.length) {o t : Int} {l : List Stop} (h : isWay n nx to o t l) (o0 : 0 ≤ o) (o1 : o < n.2.2.2.1.length) : ∀ {i : Nat}, i < l.length → 0 ≤ (sG l i).1 ∧ (sG l i).1 < n.2.2.2.1.length
  | 0, _ => by rw [show (sG l 0).1 = o from h.head.1]; exact ⟨o0, o1⟩
  | i + 1, hi => by
    obtain ⟨p0, p1⟩ := isWay.off hs ht d0 d1 h o0 o1 (i := i) (by omega)
    rcases h.at (i := i) (by omega) with ⟨g, _⟩ | ⟨_, _, g3, g4, g5, g6, g7, g8⟩
    · omega
    · rw [show (sG l (i + 1)).1 = _ from g7]
      rw [g3] at g4 g5 ⊢
      exact (step_ok hs ht d0 d1 p0 p1 g4 g5).2.1
theorem isWay.gap (hs : soundF n = true) (ht : tabF n nx = true) (d0 : 0 ≤ to) (d1 : to < n.2.2.2.1.length) {o t : Int} {l : List Stop} (h : isWay n nx to o t l) (o0 : 0 ≤ o) (o1 : o < n.2.2.2.1.length) {i : Nat} (hi : i + 1 < l.length) :
    (sG l i).2.1 + 1 ≤ (sG l i).2.2.1 ∧ (sG l i).2.2.1 + 1 ≤ (sG l (i + 1)).2.1 ∧ (sG l i).2.2.1 ≤ 2090000 ∧ (sG l (i + 1)).2.1 ≤ (sG l i).2.2.1 + 5000 ∧ linP n (sG l i).2.2.2 := by
  obtain ⟨p0, p1⟩ := h.off hs ht d0 d1 o0 o1 (i := i) (by omega)
  rcases h.at (i := i) (by omega) with ⟨g, _⟩ | ⟨_, _, g3, g4, g5, g6, g7, g8⟩
  · omega
  · have e3 : (sG l i).2.2.2 = nxt nx (sG l i).1 to := g3
    have e6 : (sG l i).2.2.1 = depD n (sG l i).2.2.2 (readyF n (sG l i).1 (sG l i).2.1) := g6
    have e8 : (sG l (i + 1)).2.1 = (sG l i).2.2.1 + lnTrav n (sG l i).2.2.2 := g8
    obtain ⟨q1, _, ⟨q3, q4⟩, q5, q6⟩ := step_ok hs ht d0 d1 p0 p1 (t := (sG l i).2.1) (e3 ▸ g4) (e3 ▸ g5)
    rw [← e3] at q1 q3 q4 q5 q6
    rw [← e6] at q3 q4
    exact ⟨q3, by omega, q4, by omega, q1⟩
theorem isWay.ord (hs : soundF n = true) (ht : tabF n nx = true) (d0 : 0 ≤ to) (d1 : to < n.2.2.2.1.length) {o t : Int} {l : List Stop} (h : isWay n nx to o t l) (o0 : 0 ≤ o) (o1 : o < n.2.2.2.1.length) {i : Nat} : ∀ {j : Nat}, i < j → j < l.length → (sG l i).2.1 + 1 ≤ (sG l i).2.2.1 ∧ (sG l i).2.2.1 + 1 ≤ (sG l j).2.1
  | 0, h1, _ => by omega
  | j + 1, h1, hj => by
    by_cases e : i = j
    · subst e
      have := h.gap hs ht d0 d1 o0 o1 hj
      omega
    · have g := isWay.ord hs ht d0 d1 h o0 o1 (i := i) (j := j) (by omega) (by omega)
      have := h.gap hs ht d0 d1 o0 o1 hj
      omega
theorem isWay.later : ∀ {o t u : Int} {l r : List Stop}, t ≤ u → isWay n nx to o t l → isWay n nx to o u r → l.length = r.length ∧ ∀ j, j < l.length → (sG r j).1 = (sG l j).1 ∧ (sG l j).2.1 ≤ (sG r j).2.1 ∧ (sG l j).2.2.1 ≤ (sG r j).2.2.1 ∧ (sG r j).2.2.2 = (sG l j).2.2.2
  | _, _, _, [], _, _, h, _ => h.elim
  | _, _, _, _ :: _, [], _, _, h => h.elim
  | o, t, u, s :: l, s' :: r, hu, h, h' => by
    rcases h with ⟨h0, rfl, rfl⟩ | ⟨h0, h1, h2, rfl, h3⟩ <;> rcases h' with ⟨g0, rfl, rfl⟩ | ⟨g0, g1, g2, rfl, g3⟩
    · refine ⟨rfl, fun j hj => ?_⟩
      cases j with
      | zero => exact ⟨rfl, hu, Int.le_refl _, rfl⟩
      | succ j => simp at hj
    · exact absurd h0 g0
    · exact absurd g0 h0
    · have hr : readyF n o t ≤ readyF n o u := by unfold readyF; omega
      have hd := dep_mono hr h2 g2
      obtain ⟨q1, q2⟩ := isWay.later (by omega) h3 g3
      refine ⟨by simp only [List.length_cons]; omega, fun j hj => ?_⟩
      cases j with
      | zero => exact ⟨rfl, hu, hd, rfl⟩
      | succ j => exact q2 j (by simpa using hj)
end
theorem setArr_len (l : List Stop) (i v : Int) : (setArr l i v).length = l.length := by unfold setArr; exact List.length_set
section
variable {n m : Net} {nx mx : List (List Int)} {x : ByteArray × Int × Int × Int × Int}
theorem set_get {a r : List Stop} {i j : Nat} {v : Int} (ha : a.length = i) (hj : j < i + r.length) : sG (setArr (a ++ r) i v) j = if j < i then sG a j else if j = i then ((sG r 0).1, v, (sG r 0).2.2) else sG r (j - i) := by
  have e : ∀ k, (a ++ r).getD k (0, 0, 0, 0) = if k < i then a.getD k (0, 0, 0, 0) else r.getD (k - i) (0, 0, 0, 0) := fun k => by
    subst ha
    simp only [List.getD_eq_getElem?_getD]
    split <;> rename_i h
    · rw [List.getElem?_append_left h]
    · rw [List.getElem?_append_right (by omega)]
  unfold setArr
  rw [Int.toNat_natCast]
  show ((a ++ r).set i _).getD j _ = _
  by_cases h : j = i
  · subst h
    rw [List.getD_eq_getElem?_getD, List.getElem?_set_self (by rw [List.length_append]; omega), Option.getD_some, if_neg (by omega), if_pos rfl, e, if_neg (by omega), Nat.sub_self]
  · rw [List.getD_eq_getElem?_getD, List.getElem?_set_ne (Ne.symm h), ← List.getD_eq_getElem?_getD, e, if_neg h]
theorem carry_parts {n m : Net} {nx mx : List (List Int)} {x : ByteArray × Int × Int × Int × Int} {t : Int} (hE : carryE n m nx mx t x = 0) : carOk n m nx mx t x = true ∧ WayE n nx x.2.1 x.2.2.1 x.2.2.2.2 = 0 ∧ newE n m nx mx t x = 0 := by
  unfold carryE at hE
  by_cases h1 : carOk n m nx mx t x = true
  · rw [if_pos h1] at hE
    by_cases h2 : WayE n nx x.2.1 x.2.2.1 x.2.2.2.2 = 0
    · rw [if_pos h2] at hE; exact ⟨h1, h2, hE⟩
    · rw [if_neg h2] at hE; exact absurd hE h2
  · rw [if_neg h1] at hE; exact absurd hE (by decide)
structure CarryIs (n m : Net) (nx mx : List (List Int)) (t : Int) (x : ByteArray × Int × Int × Int × Int) (i : Nat) : Prop where
  idx : oldI n nx t x = i
  lt : i < (oldW n nx x).length
  bef : ∀ j, j < i → (sG (oldW n nx x) j).2.2.1 < t
  aft : i + 1 = (oldW n nx x).length ∨ t ≤ (sG (oldW n nx x) i).2.2.1
  old : isWay n nx x.2.2.1 x.2.1 x.2.2.2.2 (oldW n nx x)
  new : isWay m mx x.2.2.1 (sG (oldW n nx x) i).1 (max (sG (oldW n nx x) i).2.1 t) (newW n m nx mx t x)
  len : (carryL n m nx mx t x).length = i + (newW n m nx mx t x).length
  get : ∀ j, j < i + (newW n m nx mx t x).length → sG (carryL n m nx mx t x) j = if j < i then sG (oldW n nx x) j else if j = i then ((sG (newW n m nx mx t x) 0).1, (sG (oldW n nx x) i).2.1, (sG (newW n m nx mx t x) 0).2.2) else sG (newW n m nx mx t x) (j - i)
theorem carry_is {n m : Net} {nx mx : List (List Int)} {x : ByteArray × Int × Int × Int × Int} {t : Int} (hE : carryE n m nx mx t x = 0) : ∃ i, CarryIs n m nx mx t x i := by
  obtain ⟨_, h2, h3⟩ := carry_parts hE
  obtain ⟨_, hway, _⟩ := Way_is h2
  obtain ⟨_, hnew, _⟩ := Way_is (n := m) (nx := mx) h3
  obtain ⟨i, q1, q2, q3, q4⟩ := hway.idx t
  have eI : oldI n nx t x = i := q1
  have eS : oldS n nx t x = sG (oldW n nx x) i := by unfold oldS; rw [eI]; rfl
  have q2 : i < (oldW n nx x).length := q2
  have eL : carryL n m nx mx t x = setArr ((oldW n nx x).take i ++ newW n m nx mx t x) i (sG (oldW n nx x) i).2.1 := by
    unfold carryL; rw [if_pos hE, eI, eS, Int.toNat_natCast]
  have el : ((oldW n nx x).take i).length = i := by rw [List.length_take]; omega
  refine ⟨i, eI, q2, q3, q4, hway, ?_, ?_, fun j hj => ?_⟩
  · have e : newT n nx t x = max (sG (oldW n nx x) i).2.1 t := by unfold newT; rw [eS]
    rw [← e, ← eS]; exact hnew
  · rw [eL, setArr_len, List.length_append, el]
  · rw [eL, set_get el hj]
    by_cases h : j < i
    · rw [if_pos h, if_pos h]
      show ((oldW n nx x).take i).getD j _ = (oldW n nx x).getD j _
      rw [List.getD_eq_getElem?_getD, List.getElem?_take_of_lt h, List.getD_eq_getElem?_getD]
    · rw [if_neg h, if_neg h]
theorem again {n : Net} {nx : List (List Int)} {x : ByteArray × Int × Int × Int × Int} {t : Int} (hE : carryE n n nx nx t x = 0) : (carryL n n nx nx t x).length = (oldW n nx x).length ∧ ∀ j, j < (oldW n nx x).length → (sG (carryL n n nx nx t x) j).1 = (sG (oldW n nx x) j).1 ∧ (sG (oldW n nx x) j).2.1 ≤ (sG (carryL n n nx nx t x) j).2.1 ∧ (sG (oldW n nx x) j).2.2.1 ≤ (sG (carryL n n nx nx t x) j).2.2.1 ∧ (sG (carryL n n nx nx t x) j).2.2.2 = (sG (oldW n nx x) j).2.2.2 := by
  obtain ⟨i, C⟩ := carry_is hE
  obtain ⟨l1, l2⟩ := isWay.later (Int.le_max_left _ _) (C.old.drop C.lt) C.new
  rw [List.length_drop] at l1 l2
  have hlt := C.lt
  refine ⟨by rw [C.len]; omega, fun j hj => ?_⟩
  rw [C.get j (by omega)]
  by_cases h : j < i
  · rw [if_pos h]; exact ⟨rfl, Int.le_refl _, Int.le_refl _, rfl⟩
  · rw [if_neg h]
    have g := l2 (j - i) (by omega)
    have e : sG ((oldW n nx x).drop i) (j - i) = sG (oldW n nx x) j := by
      show ((oldW n nx x).drop i).getD (j - i) _ = _
      rw [getD_drop, show i + (j - i) = j by omega]
    rw [e] at g
    by_cases h2 : j = i
    · rw [if_pos h2]
      subst h2
      rw [Nat.sub_self] at g
      exact ⟨g.1, Int.le_refl _, g.2.2.1, g.2.2.2⟩
    · rw [if_neg h2]; exact g
end
end Go.Eng.Sv

set_option maxRecDepth 100000
namespace Go.Eng.Sv
open Go.Proofs
end Go.Eng.Sv

set_option maxRecDepth 100000
noncomputable section
namespace Go.Eng.Sv
open Go.Proofs
def plW (n : Net) (nx : List (List Int)) (a b c : Int) : List Stop := WayL n nx (postF n a b c).2.1 (postF n a b c).2.2.1 (postF n a b c).2.2.2.2
def hitS (l : List Stop) (o v : Int) (k : Int) : Bool := decide ((l.getD k.toNat (0, 0, 0, 0)).1 = o) && decide ((l.getD k.toNat (0, 0, 0, 0)).2.1 = v)
def plTo (l : List Stop) (o v : Int) (i : Int) : Prop := 0 ≤ i ∧ i ≤ l.length ∧ ∀ j : Nat, (j : Int) < i → hitS l o v j = false
def plTo2 (l : List Stop) (w z i : Int) (k : Int) (b : Bool) : Prop := i ≤ k ∧ k ≤ l.length ∧ (b = true ↔ ∃ j : Nat, i ≤ j ∧ (j : Int) < k ∧ hitS l w z j = true)
def plA (l : List Stop) (s1 s2 : Stop) : Ann := ⟨fun id s => match id with
  | 16 => some { α := Int, inv := fun k => plTo l s1.1 s1.2.1 k, st := fun k => put (flat s) [(28, .dat I k), (27, .dat .bool false)], μ := fun k => D.nat (D.sub (D.ilen l) k) }
  | 20 => match s.sig.T 28 with
    | .dat (.int .i64) i => some { α := Bool × Int, inv := fun x => plTo2 l s2.1 s2.2.1 i x.2 x.1, st := fun x => put (flat s) [(27, .dat .bool x.1), (29, .dat I x.2)], μ := fun x => D.nat (D.sub (D.ilen l) x.2) }
    | _ => none
  | _ => none, fun _ _ => none, fun _ _ => none⟩
theorem vc_lplaces (a b c d e : Int) (p1 p2 : Int) (nx : List (List Int)) (dy : List (List (List Int))) (cs : LC) (ns os : LB) (fs : List Off) (ls : List Line) (ks : List Cla) (hvc :
 let c1 := (cs, ns, os, fs, ls, ks);
 let c2 := luF c1 c1 nx nx;
 let c3 := D.not c2;
 let c4 := D.rem d (100001 : Int);
 let c5 := D.rem e (100001 : Int);
 let c6 := D.add c4 c5;
 let c7 := postF c1 a b c;
 let c8 := c7.snd;
 let c9 := c8.fst;
 let c10 := c8.snd;
 let c11 := c10.fst;
 let c12 := c10.snd;
 let c13 := c12.snd;
 let c14 := WayE c1 nx c9 c11 c13;
 let c15 := D.ne c14 (0 : Int);
 let c16 := c7.fst;
 let c17 := c12.fst;
 let c18 := (c16, c9, c11, c17, c13);
 let c19 := placeE c1 nx c18 c4;
 let c20 := D.cnd true (D.eq c19 c14) false;
 let c21 := placeE c1 nx c18 c6;
 let c22 := D.cnd c20 (D.eq c21 c14) false;
 let c23 := placeS c1 nx c18 c4;
 let c24 := c23.fst;
 let c25 := D.cnd c22 (D.eq c24 (0 : Int)) false;
 let c26 := c23.snd.fst;
 let c27 := D.ne c19 (0 : Int);
 let c28 := D.not c27;
 let c29 := D.cnd c27 true (D.ne c21 (0 : Int));
 let c30 := D.not c29;
 let c31 := placeS c1 nx c18 c6;
 let c32 := c31.snd.fst;
 let c33 := D.cnd c29 true (D.lt c32 c26);
 let c34 := plW c1 nx a b c;
 let c35 := (nx, dy);
 let c36 := (p1, p2, c35);
 let c37 := c31.fst;
 let c38 := WayL c1 nx c9 c11 c13;
 let c39 := D.ilen c38;
 let c40 := ((0 : Int), (0 : Int), (0 : Int), (0 : Int));
 let c41 := D.ilen c34; true = true ∧ (u2P a b ∧ w1P c ∧ w1P d ∧ w1P e → True ∧ True ∧ (c3 = true → true = true ∧ True) ∧ (c3 = false → postP c1 a b c ∧ 1 = 1 ∧
  0 = 0 ∧ inR IntKind.i64 d ∧ D.ine (100001 : Int) (0 : Int) ∧ inR IntKind.i64 e ∧ D.ine (100001 : Int) (0 : Int) ∧ inR IntKind.i64 c6 ∧ 1 = 1 ∧ 0 = 0 ∧ netFits
  c1 nx ∧ 1 = 1 ∧ 0 = 0 ∧ netFits c1 nx ∧ 1 = 1 ∧ 1 = 1 ∧ 0 = 0 ∧ 1 = 1 ∧ 1 = 1 ∧ 0 = 0 ∧ 1 = 1 ∧ 1 = 1 ∧ 0 = 0 ∧ fitsM nx ∧ (c15 = true → (true = true → true =
  true → true = true) ∧ (true = true → true = true → true = true) ∧ (D.and true true = true → true = true) ∧ (c20 = true → c20 = true → c20 = true) ∧ (c20 = true
  → c20 = true → c20 = true) ∧ (D.and true c20 = true → c20 = true) ∧ (c22 = true → c22 = true → c22 = true) ∧ (D.and true c22 = true → c22 = true) ∧ (c25 = true
  → c25 = true → c25 = true) ∧ (D.and true c25 = true → c25 = true) ∧ D.cnd c25 (D.eq c26 (0 : Int)) false = true ∧ True) ∧ (c15 = false → (c28 = true → c28 =
  true → c28 = true) ∧ (D.and true c28 = true → c28 = true) ∧ (c30 = true → c30 = true → c30 = true) ∧ (c30 = true → c30 = true → c30 = true) ∧ (D.and true c30 =
  true → c30 = true) ∧ (c33 = true → false = true ∧ True) ∧ (c33 = false → (∃ x, plTo c34 c24 c26 x ∧ cs = cs ∧ ns = ns ∧ os = os ∧ fs = fs ∧ ls = ls ∧ ks = ks ∧
  p1 = p1 ∧ p2 = p2 ∧ nx = nx ∧ dy = dy ∧ a = a ∧ b = b ∧ c = c ∧ d = d ∧ e = e ∧ c1 = c1 ∧ c36 = c36 ∧ true = true ∧ 1 = 1 ∧ 0 = 0 ∧ 0 = 0 ∧ c4 = c4 ∧ c6 = c6 ∧
  c24 = c24 ∧ c26 = c26 ∧ c19 = c19 ∧ c37 = c37 ∧ c32 = c32 ∧ c21 = c21 ∧ c38 = c38 ∧ c14 = c14 ∧ false = false ∧ (0 : Int) = x ∧ true = true ∧ cs = cs ∧ ns = ns
  ∧ os = os ∧ fs = fs ∧ ls = ls ∧ ks = ks ∧ p1 = p1 ∧ p2 = p2 ∧ nx = nx ∧ dy = dy ∧ cs = cs ∧ ns = ns ∧ os = os ∧ fs = fs ∧ ls = ls ∧ ks = ks ∧ p1 = p1 ∧ p2 = p2
  ∧ nx = nx ∧ dy = dy ∧ c2 = c2 ∧ c3 = c3 ∧ cs = cs ∧ ns = ns ∧ os = os ∧ fs = fs ∧ ls = ls ∧ ks = ks ∧ a = a ∧ b = b ∧ c = c ∧ c16 = c16 ∧ c9 = c9 ∧ c11 = c11 ∧
  c17 = c17 ∧ c13 = c13 ∧ d = d ∧ d = d ∧ c4 = c4 ∧ c4 = c4 ∧ e = e ∧ e = e ∧ c5 = c5 ∧ c6 = c6 ∧ c24 = c24 ∧ c26 = c26 ∧ c19 = c19 ∧ cs = cs ∧ ns = ns ∧ os = os
  ∧ fs = fs ∧ ls = ls ∧ ks = ks ∧ p1 = p1 ∧ p2 = p2 ∧ nx = nx ∧ dy = dy ∧ c16 = c16 ∧ c9 = c9 ∧ c11 = c11 ∧ c17 = c17 ∧ c13 = c13 ∧ c4 = c4 ∧ c24 = c24 ∧ c26 =
  c26 ∧ c19 = c19 ∧ c24 = c24 ∧ c26 = c26 ∧ c19 = c19 ∧ c37 = c37 ∧ c32 = c32 ∧ c21 = c21 ∧ cs = cs ∧ ns = ns ∧ os = os ∧ fs = fs ∧ ls = ls ∧ ks = ks ∧ p1 = p1 ∧
  p2 = p2 ∧ nx = nx ∧ dy = dy ∧ c16 = c16 ∧ c9 = c9 ∧ c11 = c11 ∧ c17 = c17 ∧ c13 = c13 ∧ c6 = c6 ∧ c37 = c37 ∧ c32 = c32 ∧ c21 = c21 ∧ c37 = c37 ∧ c32 = c32 ∧
  c21 = c21 ∧ c38 = c38 ∧ c14 = c14 ∧ cs = cs ∧ ns = ns ∧ os = os ∧ fs = fs ∧ ls = ls ∧ ks = ks ∧ c35 = c35 ∧ nx = nx ∧ 1 = 1 ∧ 0 = 0 ∧ 1 = 1 ∧ c9 = c9 ∧ 1 = 1 ∧
  0 = 0 ∧ 2 = 2 ∧ c11 = c11 ∧ 1 = 1 ∧ 0 = 0 ∧ 4 = 4 ∧ c13 = c13 ∧ c38 = c38 ∧ c14 = c14 ∧ c38 = c38 ∧ c14 = c14 ∧ c14 = c14 ∧ c15 = c15 ∧ c19 = c19 ∧ c27 = c27 ∧
  c27 = c27 ∧ c29 = c29 ∧ c29 = c29 ∧ c33 = c33 ∧ c16 = c16 ∧ c9 = c9 ∧ c11 = c11 ∧ c17 = c17 ∧ c13 = c13 ∧ True) ∧ ∀ (x : Int),
 let c42 := D.get c38 (D.nat x) c40;
 let c43 := c42.fst;
 let c44 := D.eq c43 c24;
 let c45 := c42.snd;
 let c46 := D.cnd c44 (D.eq c45.fst c26) false;
 let c47 := D.add x (1 : Int);
 let c48 := D.eq c47 c39;
 let c49 := D.not c48;
 let c50 := D.cnd c48 true (D.ge c45.snd.fst c4);
 let c51 := D.eq x (0 : Int);
 let c52 := D.not c51;
 let c53 := D.sub x (1 : Int); plTo c34 c24 c26 x → (D.lt x c39 = true → D.ile (0 : Int) x ∧ D.ilt x c39 ∧ (c44 = true → c44 = true → c44 = true) ∧ (c44 = true →
  c44 = true → c44 = true) ∧ (c44 = true → D.ile (0 : Int) x) ∧ (c44 = true → D.ilt x c39) ∧ (c44 = true → c44 = true → c44 = true) ∧ (c44 = true → c44 = true →
  c44 = true) ∧ (c44 = true → c44 = true → c44 = true) ∧ (c44 = true → c44 = true → c44 = true) ∧ (D.and true c44 = true → c44 = true) ∧ (c46 = true → (∃ (x_4 :
  Bool × Int), plTo2 c34 c37 c32 x x_4.snd x_4.fst ∧ cs = cs ∧ ns = ns ∧ os = os ∧ fs = fs ∧ ls = ls ∧ ks = ks ∧ p1 = p1 ∧ p2 = p2 ∧ nx = nx ∧ dy = dy ∧ a = a ∧
  b = b ∧ c = c ∧ d = d ∧ e = e ∧ c1 = c1 ∧ c36 = c36 ∧ true = true ∧ 1 = 1 ∧ 0 = 0 ∧ 0 = 0 ∧ c4 = c4 ∧ c6 = c6 ∧ c24 = c24 ∧ c26 = c26 ∧ c19 = c19 ∧ c37 = c37 ∧
  c32 = c32 ∧ c21 = c21 ∧ c38 = c38 ∧ c14 = c14 ∧ false = x_4.fst ∧ x = x ∧ x = x_4.snd ∧ true = true ∧ cs = cs ∧ ns = ns ∧ os = os ∧ fs = fs ∧ ls = ls ∧ ks = ks
  ∧ p1 = p1 ∧ p2 = p2 ∧ nx = nx ∧ dy = dy ∧ cs = cs ∧ ns = ns ∧ os = os ∧ fs = fs ∧ ls = ls ∧ ks = ks ∧ p1 = p1 ∧ p2 = p2 ∧ nx = nx ∧ dy = dy ∧ c2 = c2 ∧ c3 = c3
  ∧ cs = cs ∧ ns = ns ∧ os = os ∧ fs = fs ∧ ls = ls ∧ ks = ks ∧ a = a ∧ b = b ∧ c = c ∧ c16 = c16 ∧ c9 = c9 ∧ c11 = c11 ∧ c17 = c17 ∧ c13 = c13 ∧ d = d ∧ d = d ∧
  c4 = c4 ∧ c4 = c4 ∧ e = e ∧ e = e ∧ c5 = c5 ∧ c6 = c6 ∧ c24 = c24 ∧ c26 = c26 ∧ c19 = c19 ∧ cs = cs ∧ ns = ns ∧ os = os ∧ fs = fs ∧ ls = ls ∧ ks = ks ∧ p1 = p1
  ∧ p2 = p2 ∧ nx = nx ∧ dy = dy ∧ c16 = c16 ∧ c9 = c9 ∧ c11 = c11 ∧ c17 = c17 ∧ c13 = c13 ∧ c4 = c4 ∧ c24 = c24 ∧ c26 = c26 ∧ c19 = c19 ∧ c24 = c24 ∧ c26 = c26 ∧
  c19 = c19 ∧ c37 = c37 ∧ c32 = c32 ∧ c21 = c21 ∧ cs = cs ∧ ns = ns ∧ os = os ∧ fs = fs ∧ ls = ls ∧ ks = ks ∧ p1 = p1 ∧ p2 = p2 ∧ nx = nx ∧ dy = dy ∧ c16 = c16 ∧
  c9 = c9 ∧ c11 = c11 ∧ c17 = c17 ∧ c13 = c13 ∧ c6 = c6 ∧ c37 = c37 ∧ c32 = c32 ∧ c21 = c21 ∧ c37 = c37 ∧ c32 = c32 ∧ c21 = c21 ∧ c38 = c38 ∧ c14 = c14 ∧ cs = cs
  ∧ ns = ns ∧ os = os ∧ fs = fs ∧ ls = ls ∧ ks = ks ∧ c35 = c35 ∧ nx = nx ∧ 1 = 1 ∧ 0 = 0 ∧ 1 = 1 ∧ c9 = c9 ∧ 1 = 1 ∧ 0 = 0 ∧ 2 = 2 ∧ c11 = c11 ∧ 1 = 1 ∧ 0 = 0 ∧
  4 = 4 ∧ c13 = c13 ∧ c38 = c38 ∧ c14 = c14 ∧ c38 = c38 ∧ c14 = c14 ∧ c14 = c14 ∧ c15 = c15 ∧ c19 = c19 ∧ c27 = c27 ∧ c27 = c27 ∧ c29 = c29 ∧ c29 = c29 ∧ c33 =
  c33 ∧ x = x ∧ c38 = c38 ∧ c39 = c39 ∧ D.lt x c39 = D.lt x c39 ∧ c38 = c38 ∧ x = x ∧ c42 = c42 ∧ c42 = c42 ∧ c43 = c43 ∧ c24 = c24 ∧ c44 = c44 ∧ c44 = c44 ∧ c46
  = c46 ∧ x = x ∧ c16 = c16 ∧ c9 = c9 ∧ c11 = c11 ∧ c17 = c17 ∧ c13 = c13 ∧ True) ∧ ∀ (x_4 : Bool × Int),
 let c54 := D.lt x_4.snd c39;
 let c55 := D.not x_4.fst;
 let c56 := D.get c38 (D.nat x_4.snd) c40;
 let c57 := D.eq c56.fst c37;
 let c58 := D.add x_4.snd (1 : Int);
 let c59 := D.cnd true x_4.fst false;
 let c60 := D.cnd c59 c50 false; plTo2 c34 c37 c32 x x_4.snd x_4.fst → (c54 = true → (c55 = true → c55 = true → c55 = true) ∧ (c55 = true → c55 = true → c55 =
  true) ∧ (c55 = true → D.ile (0 : Int) x_4.snd) ∧ (c55 = true → D.ilt x_4.snd c39) ∧ (c55 = true → c55 = true → c55 = true) ∧ (c55 = true → c55 = true → c55 =
  true) ∧ (c55 = true → c55 = true → c55 = true) ∧ (c55 = true → c55 = true → c55 = true) ∧ (c55 = true → c55 = true → c55 = true) ∧ (D.and c55 c57 = true →
  D.and c55 c57 = true → D.and c55 c57 = true) ∧ (D.and c55 c57 = true → D.and c55 c57 = true → D.and c55 c57 = true) ∧ (D.and c55 c57 = true → D.ile (0 : Int)
  x_4.snd) ∧ (D.and c55 c57 = true → D.ilt x_4.snd c39) ∧ (D.and c55 c57 = true → D.and c55 c57 = true → D.and c55 c57 = true) ∧ (D.and c55 c57 = true → D.and
  c55 c57 = true → D.and c55 c57 = true) ∧ (D.and c55 c57 = true → D.and c55 c57 = true → D.and c55 c57 = true) ∧ (D.and c55 c57 = true → D.and c55 c57 = true →
  D.and c55 c57 = true) ∧ (c55 = true → c55 = true → c55 = true) ∧ (c55 = true → D.and c55 c57 = true → D.and c55 c57 = true) ∧ (D.and true c55 = true → c55 =
  true) ∧ inR IntKind.i64 c58 ∧ ∃ (y : Bool × Int), plTo2 c34 c37 c32 x y.snd y.fst ∧ (cs = cs ∧ ns = ns ∧ os = os ∧ fs = fs ∧ ls = ls ∧ ks = ks ∧ p1 = p1 ∧ p2 =
  p2 ∧ nx = nx ∧ dy = dy ∧ a = a ∧ b = b ∧ c = c ∧ d = d ∧ e = e ∧ c1 = c1 ∧ c36 = c36 ∧ true = true ∧ 1 = 1 ∧ 0 = 0 ∧ 0 = 0 ∧ c4 = c4 ∧ c6 = c6 ∧ c24 = c24 ∧
  c26 = c26 ∧ c19 = c19 ∧ c37 = c37 ∧ c32 = c32 ∧ c21 = c21 ∧ c38 = c38 ∧ c14 = c14 ∧ D.cnd x_4.fst true (D.cnd c57 (D.eq c56.snd.fst c32) false) = y.fst ∧ x = x
  ∧ c58 = y.snd ∧ true = true ∧ cs = cs ∧ ns = ns ∧ os = os ∧ fs = fs ∧ ls = ls ∧ ks = ks ∧ p1 = p1 ∧ p2 = p2 ∧ nx = nx ∧ dy = dy ∧ cs = cs ∧ ns = ns ∧ os = os ∧
  fs = fs ∧ ls = ls ∧ ks = ks ∧ p1 = p1 ∧ p2 = p2 ∧ nx = nx ∧ dy = dy ∧ c2 = c2 ∧ c3 = c3 ∧ cs = cs ∧ ns = ns ∧ os = os ∧ fs = fs ∧ ls = ls ∧ ks = ks ∧ a = a ∧ b
  = b ∧ c = c ∧ c16 = c16 ∧ c9 = c9 ∧ c11 = c11 ∧ c17 = c17 ∧ c13 = c13 ∧ d = d ∧ d = d ∧ c4 = c4 ∧ c4 = c4 ∧ e = e ∧ e = e ∧ c5 = c5 ∧ c6 = c6 ∧ c24 = c24 ∧ c26
  = c26 ∧ c19 = c19 ∧ cs = cs ∧ ns = ns ∧ os = os ∧ fs = fs ∧ ls = ls ∧ ks = ks ∧ p1 = p1 ∧ p2 = p2 ∧ nx = nx ∧ dy = dy ∧ c16 = c16 ∧ c9 = c9 ∧ c11 = c11 ∧ c17 =
  c17 ∧ c13 = c13 ∧ c4 = c4 ∧ c24 = c24 ∧ c26 = c26 ∧ c19 = c19 ∧ c24 = c24 ∧ c26 = c26 ∧ c19 = c19 ∧ c37 = c37 ∧ c32 = c32 ∧ c21 = c21 ∧ cs = cs ∧ ns = ns ∧ os
  = os ∧ fs = fs ∧ ls = ls ∧ ks = ks ∧ p1 = p1 ∧ p2 = p2 ∧ nx = nx ∧ dy = dy ∧ c16 = c16 ∧ c9 = c9 ∧ c11 = c11 ∧ c17 = c17 ∧ c13 = c13 ∧ c6 = c6 ∧ c37 = c37 ∧
  c32 = c32 ∧ c21 = c21 ∧ c37 = c37 ∧ c32 = c32 ∧ c21 = c21 ∧ c38 = c38 ∧ c14 = c14 ∧ cs = cs ∧ ns = ns ∧ os = os ∧ fs = fs ∧ ls = ls ∧ ks = ks ∧ c35 = c35 ∧ nx
  = nx ∧ 1 = 1 ∧ 0 = 0 ∧ 1 = 1 ∧ c9 = c9 ∧ 1 = 1 ∧ 0 = 0 ∧ 2 = 2 ∧ c11 = c11 ∧ 1 = 1 ∧ 0 = 0 ∧ 4 = 4 ∧ c13 = c13 ∧ c38 = c38 ∧ c14 = c14 ∧ c38 = c38 ∧ c14 = c14
  ∧ c14 = c14 ∧ c15 = c15 ∧ c19 = c19 ∧ c27 = c27 ∧ c27 = c27 ∧ c29 = c29 ∧ c29 = c29 ∧ c33 = c33 ∧ x = x ∧ c38 = c38 ∧ c39 = c39 ∧ D.lt x c39 = D.lt x c39 ∧ c38
  = c38 ∧ x = x ∧ c42 = c42 ∧ c42 = c42 ∧ c43 = c43 ∧ c24 = c24 ∧ c44 = c44 ∧ c44 = c44 ∧ c46 = c46 ∧ x = x ∧ c16 = c16 ∧ c9 = c9 ∧ c11 = c11 ∧ c17 = c17 ∧ c13 =
  c13 ∧ True) ∧ D.nlt (D.nat (D.sub c41 y.snd)) (D.nat (D.sub c41 x_4.snd))) ∧ (c54 = false → (D.and true true = true → true = true) ∧ (c59 = true → c59 = true →
  c59 = true) ∧ (c59 = true → inR IntKind.i64 c47) ∧ (c59 = true → c59 = true → c59 = true) ∧ (c59 = true → c59 = true → c59 = true) ∧ (c59 = true → c59 = true →
  c59 = true) ∧ (c59 = true → c59 = true → c59 = true) ∧ (D.and c59 c49 = true → D.and c59 c49 = true → D.and c59 c49 = true) ∧ (D.and c59 c49 = true → D.and c59
  c49 = true → D.and c59 c49 = true) ∧ (D.and c59 c49 = true → D.ile (0 : Int) x) ∧ (D.and c59 c49 = true → D.ilt x c39) ∧ (D.and c59 c49 = true → D.and c59 c49
  = true → D.and c59 c49 = true) ∧ (D.and c59 c49 = true → D.and c59 c49 = true → D.and c59 c49 = true) ∧ (D.and c59 c49 = true → D.and c59 c49 = true → D.and
  c59 c49 = true) ∧ (D.and c59 c49 = true → D.and c59 c49 = true → D.and c59 c49 = true) ∧ (c59 = true → c59 = true → c59 = true) ∧ (c59 = true → D.and c59 c49 =
  true → D.and c59 c49 = true) ∧ (D.and true c59 = true → c59 = true) ∧ (c60 = true → c60 = true → c60 = true) ∧ (c60 = true → c60 = true → c60 = true) ∧ (D.and
  c60 c52 = true → D.and c60 c52 = true → D.and c60 c52 = true) ∧ (D.and c60 c52 = true → inR IntKind.i64 c53) ∧ (D.and c60 c52 = true → D.and c60 c52 = true →
  D.and c60 c52 = true) ∧ (D.and c60 c52 = true → D.and c60 c52 = true → D.and c60 c52 = true) ∧ (D.and c60 c52 = true → D.ile (0 : Int) c53) ∧ (D.and c60 c52 =
  true → D.ilt c53 c39) ∧ (D.and c60 c52 = true → D.and c60 c52 = true → D.and c60 c52 = true) ∧ (D.and c60 c52 = true → D.and c60 c52 = true → D.and c60 c52 =
  true) ∧ (D.and c60 c52 = true → D.and c60 c52 = true → D.and c60 c52 = true) ∧ (D.and c60 c52 = true → D.and c60 c52 = true → D.and c60 c52 = true) ∧ (c60 =
  true → c60 = true → c60 = true) ∧ (c60 = true → D.and c60 c52 = true → D.and c60 c52 = true) ∧ (D.and true c60 = true → c60 = true) ∧ D.cnd c60 (D.cnd c51 true
  (D.lt (D.get c38 (D.nat c53) c40).snd.snd.fst c4)) false = true ∧ True)) ∧ (c46 = false → inR IntKind.i64 c47 ∧ ∃ y, plTo c34 c24 c26 y ∧ (cs = cs ∧ ns = ns ∧
  os = os ∧ fs = fs ∧ ls = ls ∧ ks = ks ∧ p1 = p1 ∧ p2 = p2 ∧ nx = nx ∧ dy = dy ∧ a = a ∧ b = b ∧ c = c ∧ d = d ∧ e = e ∧ c1 = c1 ∧ c36 = c36 ∧ true = true ∧ 1 =
  1 ∧ 0 = 0 ∧ 0 = 0 ∧ c4 = c4 ∧ c6 = c6 ∧ c24 = c24 ∧ c26 = c26 ∧ c19 = c19 ∧ c37 = c37 ∧ c32 = c32 ∧ c21 = c21 ∧ c38 = c38 ∧ c14 = c14 ∧ false = false ∧ c47 = y
  ∧ true = true ∧ cs = cs ∧ ns = ns ∧ os = os ∧ fs = fs ∧ ls = ls ∧ ks = ks ∧ p1 = p1 ∧ p2 = p2 ∧ nx = nx ∧ dy = dy ∧ cs = cs ∧ ns = ns ∧ os = os ∧ fs = fs ∧ ls
  = ls ∧ ks = ks ∧ p1 = p1 ∧ p2 = p2 ∧ nx = nx ∧ dy = dy ∧ c2 = c2 ∧ c3 = c3 ∧ cs = cs ∧ ns = ns ∧ os = os ∧ fs = fs ∧ ls = ls ∧ ks = ks ∧ a = a ∧ b = b ∧ c = c
  ∧ c16 = c16 ∧ c9 = c9 ∧ c11 = c11 ∧ c17 = c17 ∧ c13 = c13 ∧ d = d ∧ d = d ∧ c4 = c4 ∧ c4 = c4 ∧ e = e ∧ e = e ∧ c5 = c5 ∧ c6 = c6 ∧ c24 = c24 ∧ c26 = c26 ∧ c19
  = c19 ∧ cs = cs ∧ ns = ns ∧ os = os ∧ fs = fs ∧ ls = ls ∧ ks = ks ∧ p1 = p1 ∧ p2 = p2 ∧ nx = nx ∧ dy = dy ∧ c16 = c16 ∧ c9 = c9 ∧ c11 = c11 ∧ c17 = c17 ∧ c13 =
  c13 ∧ c4 = c4 ∧ c24 = c24 ∧ c26 = c26 ∧ c19 = c19 ∧ c24 = c24 ∧ c26 = c26 ∧ c19 = c19 ∧ c37 = c37 ∧ c32 = c32 ∧ c21 = c21 ∧ cs = cs ∧ ns = ns ∧ os = os ∧ fs =
  fs ∧ ls = ls ∧ ks = ks ∧ p1 = p1 ∧ p2 = p2 ∧ nx = nx ∧ dy = dy ∧ c16 = c16 ∧ c9 = c9 ∧ c11 = c11 ∧ c17 = c17 ∧ c13 = c13 ∧ c6 = c6 ∧ c37 = c37 ∧ c32 = c32 ∧
  c21 = c21 ∧ c37 = c37 ∧ c32 = c32 ∧ c21 = c21 ∧ c38 = c38 ∧ c14 = c14 ∧ cs = cs ∧ ns = ns ∧ os = os ∧ fs = fs ∧ ls = ls ∧ ks = ks ∧ c35 = c35 ∧ nx = nx ∧ 1 = 1
  ∧ 0 = 0 ∧ 1 = 1 ∧ c9 = c9 ∧ 1 = 1 ∧ 0 = 0 ∧ 2 = 2 ∧ c11 = c11 ∧ 1 = 1 ∧ 0 = 0 ∧ 4 = 4 ∧ c13 = c13 ∧ c38 = c38 ∧ c14 = c14 ∧ c38 = c38 ∧ c14 = c14 ∧ c14 = c14 ∧
  c15 = c15 ∧ c19 = c19 ∧ c27 = c27 ∧ c27 = c27 ∧ c29 = c29 ∧ c29 = c29 ∧ c33 = c33 ∧ c16 = c16 ∧ c9 = c9 ∧ c11 = c11 ∧ c17 = c17 ∧ c13 = c13 ∧ True) ∧ D.nlt
  (D.nat (D.sub c41 y)) (D.nat (D.sub c41 x)))) ∧ (D.lt x c39 = false → false = true ∧ True)))))) :
    evF (mkc KR19) (plA (plW (cs, ns, os, fs, ls, ks) nx a b c) (placeS (cs, ns, os, fs, ls, ks) nx ((postF (cs, ns, os, fs, ls, ks) a b c).1, (postF (cs, ns, os, fs, ls, ks) a b c).2.1, (postF (cs, ns, os, fs, ls, ks) a b c).2.2.1, (postF (cs, ns, os, fs, ls, ks) a b c).2.2.2.1, (postF (cs, ns, os, fs, ls, ks) a b c).2.2.2.2) (D.rem d 100001)) (placeS (cs, ns, os, fs, ls, ks) nx ((postF (cs, ns, os, fs, ls, ks) a b c).1, (postF (cs, ns, os, fs, ls, ks) a b c).2.1, (postF (cs, ns, os, fs, ls, ks) a b c).2.2.1, (postF (cs, ns, os, fs, ls, ks) a b c).2.2.2.1, (postF (cs, ns, os, fs, ls, ks) a b c).2.2.2.2) (D.add (D.rem d 100001) (D.rem e 100001)))) 3 [net cs ns os fs ls ks, .agg [.dat I p1, .dat I p2, .dat M nx, .dat (.sl M) dy], .dat B8 a, .dat B8 b, .dat U32 c, .dat U32 d, .dat U32 e] [] ⟨u2P a b ∧ w1P c ∧ w1P d ∧ w1P e, .dat .bool true, []⟩ := @of_eq _ _ (by kernel_rfl) hvc
structure PlaceIs (n : Net) (nx : List (List Int)) (t : Int) (x : ByteArray × Int × Int × Int × Int) (i : Nat) : Prop where
  lt : i < (oldW n nx x).length
  err : placeE n nx x t = 0
  is : placeS n nx x t = sG (oldW n nx x) i
  bef : ∀ j, j < i → (sG (oldW n nx x) j).2.2.1 < t
  aft : i + 1 = (oldW n nx x).length ∨ t ≤ (sG (oldW n nx x) i).2.2.1
theorem place_err {n : Net} {nx : List (List Int)} {x : ByteArray × Int × Int × Int × Int} {t : Int} (hp : postOk n x t = true) (hu : usF n nx = true) : placeE n nx x t = WayE n nx x.2.1 x.2.2.1 x.2.2.2.2 := by
  unfold placeE; rw [if_pos ⟨hp, hu⟩]
theorem place_is {n : Net} {nx : List (List Int)} {x : ByteArray × Int × Int × Int × Int} {t : Int} (hp : postOk n x t = true) (hu : usF n nx = true) (hw : WayE n nx x.2.1 x.2.2.1 x.2.2.2.2 = 0) : ∃ i, PlaceIs n nx t x i := by
  have he : placeE n nx x t = 0 := (place_err hp hu).trans hw
  obtain ⟨i, q1, q2, q3, q4⟩ := (Way_is hw).2.1.idx t
  refine ⟨i, q2, he, ?_, q3, q4⟩
  unfold placeS
  rw [if_pos he, q1]; rfl
theorem hitS_iff {l : List Stop} {o v k : Int} : hitS l o v k = true ↔ (l.getD k.toNat (0, 0, 0, 0)).1 = o ∧ (l.getD k.toNat (0, 0, 0, 0)).2.1 = v := by unfold hitS; simp
theorem t_lplaces (a b c d e : Int) (p1 p2 : Int) (nx : List (List Int)) (dy : List (List (List Int))) (cs : LC) (ns os : LB) (fs : List Off) (ls : List Line) (ks : List Cla) : SoundC Tryz.prog G0 3 [net cs ns os fs ls ks, .agg [.dat I p1, .dat I p2, .dat M nx, .dat (.sl M) dy], .dat B8 a, .dat B8 b, .dat U32 c, .dat U32 d, .dat U32 e] [] ⟨u2P a b ∧ w1P c ∧ w1P d ∧ w1P e, .dat .bool true, []⟩ := by
  refine sound_of_ev (c := mkc KR19) KSR19 KI0s hm (vc_lplaces a b c d e p1 p2 nx dy cs ns os fs ls ks ⟨rfl, fun hp => ?_⟩)
  simp only [cnd_or, cnd_and, D.and, D.or, D.not, Bool.true_and, Bool.and_true, Bool.false_or, Bool.or_false, eq_self, true_and, and_true, imp_self, implies_true, Bool.not_eq_true', Bool.or_eq_true, Bool.or_eq_false_iff, Bool.not_eq_false', Bool.and_eq_true, Bool.and_eq_false_imp, Bool.not_not, forall_const, exists_eq_right, exists_eq_right', exists_eq_left, exists_eq_left', Int.toNat_natCast, Nat.zero_add, Nat.mul_one, Int.ofNat_eq_natCast, D.nil, D.eq, D.ne, D.lt, D.gt, D.le, D.ge, D.beq, D.ilen, D.slen, D.ile, D.ilt, D.ine, D.nle, D.nlt, D.sub, D.add, D.mul, D.neg, D.nat, D.ofN, D.len, D.nadd, D.nmul, D.get, D.mn, D.mx, D.set, D.app, D.tail, D.part, D.seg, D.rep, D.at2, decide_eq_true_eq, decide_eq_false_iff_not, beq_iff_eq, bne_iff_ne, beq_eq_false_iff_ne, bne_eq_false_iff_eq, D.wrap, D.allNil]
  intro hu
  obtain ⟨⟨a0, a1, b0, b1⟩, ⟨c0, c1⟩, ⟨d0, d1⟩, ⟨f0, f1⟩⟩ := hp
  have L := lu_of hu
  have hpo : postP (cs, ns, os, fs, ls, ks) a b c := ⟨L.pos, a0, a1, b0, b1, c0, c1⟩
  refine ⟨hpo, ?_⟩
  obtain ⟨⟨o0, o1⟩, ⟨e0, e1⟩, t0, t1⟩ := post_bnd hpo
  generalize hwW : plW (cs, ns, os, fs, ls, ks) nx a b c = lW
  unfold plW at hwW
  generalize postF (cs, ns, os, fs, ls, ks) a b c = x at *
  obtain ⟨x1, x2, x3, x4, x5⟩ := x
  simp only at o0 o1 e0 e1 t0 t1 hwW ⊢
  rw [hwW]
  have hrm := tmod_bnd (a := d) (k := 100001) (by omega) d0
  have hr : 0 ≤ D.rem d 100001 ∧ D.rem d 100001 ≤ 100000 := ⟨hrm.1, by have := hrm.2; show d.tmod 100001 ≤ 100000; omega⟩
  have hqm := tmod_bnd (a := e) (k := 100001) (by omega) f0
  have hq : 0 ≤ D.rem e 100001 ∧ D.rem e 100001 ≤ 100000 := ⟨hqm.1, by have := hqm.2; show e.tmod 100001 ≤ 100000; omega⟩
  generalize D.rem d 100001 = r at *
  generalize D.rem e 100001 = q at *
  generalize hs1 : placeS (cs, ns, os, fs, ls, ks) nx (x1, x2, x3, x4, x5) r = s1
  generalize hs2 : placeS (cs, ns, os, fs, ls, ks) nx (x1, x2, x3, x4, x5) (r + q) = s2
  have pok : ∀ t : Int, 0 ≤ t → t ≤ 1000000 → postOk (cs, ns, os, fs, ls, ks) (x1, x2, x3, x4, x5) t = true := fun t h0 h1 => by
    unfold postOk tim20
    rw [decide_eq_true ⟨h0, h1⟩, decide_eq_true ⟨t0, by simp only; omega⟩, idxF_iff.2 ⟨o0, o1⟩, idxF_iff.2 ⟨e0, e1⟩]; rfl
  have pr := pok r hr.1 (by omega)
  have pq := pok (r + q) (by omega) (by omega)
  refine ⟨in_big (by omega), by omega, in_big (by omega), by omega, in_big (by omega), L.fn, L.fn, L.fn.2, fun hb => ?_, fun hw => ?_⟩
  · have z := place_err pr L.un
    have e : s1 = (0, 0, 0, 0) := by rw [← hs1]; unfold placeS; rw [if_neg (by rw [z]; exact hb)]
    rw [e]
    exact ⟨⟨⟨z, place_err pq L.un⟩, rfl⟩, rfl⟩
  · obtain ⟨i, I⟩ := place_is pr L.un hw
    obtain ⟨k, K⟩ := place_is pq L.un hw
    obtain ⟨us, ut⟩ := usF_iff.1 L.un
    have hway := (Way_is hw).2.1
    have hlen := (Way_is hw).2.2
    have eW : oldW (cs, ns, os, fs, ls, ks) nx (x1, x2, x3, x4, x5) = lW := hwW
    have i1 := I.is
    have k1 := K.is
    rw [hs1] at i1
    rw [hs2] at k1
    have il := I.lt
    have kl := K.lt
    have ib := I.bef
    have ia := I.aft
    have ka := K.aft
    rw [eW] at i1 k1 il kl ib ia ka
    rw [hwW] at hway hlen
    have hik : i ≤ k := by
      rcases Nat.lt_or_ge k i with h | h
      · have := ib k h
        rcases ka with g | g
        · omega
        · omega
      · exact h
    have ho := fun {i j : Nat} (h : i < j) (hj : j < lW.length) => hway.ord us ut e0 e1 o0 o1 h hj
    have hle : s1.2.1 ≤ s2.2.1 := by
      rw [i1, k1]
      rcases Nat.lt_or_ge i k with h | h
      · have := ho h kl; omega
      · have : i = k := by omega
        rw [this]; exact Int.le_refl _
    have hiti : hitS lW s1.1 s1.2.1 i = true := hitS_iff.2 (by rw [i1]; exact ⟨rfl, rfl⟩)
    have hitk : hitS lW s2.1 s2.2.1 k = true := hitS_iff.2 (by rw [k1]; exact ⟨rfl, rfl⟩)
    refine ⟨fun h => ?_, fun _ => ⟨⟨Int.le_refl _, Int.natCast_nonneg _, fun j h => by omega⟩, fun y hy => ⟨fun hlt => ⟨hy.1, hlt, fun _ => hy.1, fun _ => hlt, fun hh => ?_, fun hh => ?_⟩, fun hge => ?_⟩⟩⟩
    · rcases h with (h | h) | h
      · exact absurd I.err h
      · exact absurd K.err h
      · omega
    · have y0 := hy.1
      have ey : y = i := by
        have e2 : (sG lW y.toNat).2.1 = (sG lW i).2.1 := by rw [← i1]; exact hh.2
        rcases Nat.lt_trichotomy y.toNat i with h | h | h
        · have := ho h il; omega
        · omega
        · have := ho h (by omega); omega
      subst ey
      refine ⟨⟨(false, (i : Int)), ⟨Int.le_refl _, by simp only; omega, by simp only; exact ⟨(fun h => by cases h), fun ⟨j, h1, h2, _⟩ => by omega⟩⟩, rfl, rfl⟩, ?_⟩
      rintro ⟨b, v⟩ ⟨v0, v1, hb⟩
      simp only at v0 v1 hb ⊢
      refine ⟨fun hlv => ⟨fun _ => by omega, fun _ => hlv, fun _ => by omega, fun _ => hlv, in_big (by omega), (b || (lW.getD v.toNat (0, 0, 0, 0)).1 == s2.1 && (lW.getD v.toNat (0, 0, 0, 0)).2.1 == s2.2.1, v + 1), ⟨by simp only; omega, by simp only; omega, ?_⟩, ⟨rfl, rfl⟩, by simp only; omega⟩, fun hgv => ?_⟩
      · simp only [Bool.or_eq_true, Bool.and_eq_true, beq_iff_eq]
        rw [hb, ← hitS_iff]
        constructor
        · rintro (⟨j, h1, h2, h3⟩ | h)
          · exact ⟨j, h1, by omega, h3⟩
          · exact ⟨v.toNat, by omega, by omega, by rw [Int.toNat_of_nonneg (by omega)]; exact h⟩
        · rintro ⟨j, h1, h2, h3⟩
          by_cases e : (j : Int) < v
          · exact .inl ⟨j, h1, e, h3⟩
          · right
            have : v = j := by omega
            rw [this]; exact h3
      · have bt : b = true := hb.2 ⟨k, by omega, by omega, hitk⟩
        have A : (i : Int) + 1 = lW.length ∨ (lW.getD (i : Int).toNat (0, 0, 0, 0)).2.2.1 ≥ r := by
          rw [Int.toNat_natCast]
          rcases ia with h | h
          · exact .inl (by omega)
          · exact .inr h
        refine ⟨fun _ => in_big (by omega), fun _ => y0, fun _ => hlt, fun _ => in_big (by omega), fun h => by have := h.2; omega, fun _ => by omega, ⟨bt, A⟩, ?_⟩
        by_cases e : i = 0
        · exact .inl (by omega)
        · right
          rw [show ((i : Int) - 1).toNat = i - 1 by omega]
          exact ib (i - 1) (by omega)
    · have y0 := hy.1
      refine ⟨in_big (by omega), y + 1, ⟨by omega, by omega, fun j hj => ?_⟩, rfl, by omega⟩
      by_cases e : (j : Int) < y
      · exact hy.2.2 j e
      · have : (j : Int) = y := by omega
        rw [this]
        exact Bool.eq_false_iff.2 fun h => hh (hitS_iff.1 h).1 (hitS_iff.1 h).2
    · have := hy.2.2 i (by omega)
      rw [hiti] at this; cases this
end Go.Eng.Sv
