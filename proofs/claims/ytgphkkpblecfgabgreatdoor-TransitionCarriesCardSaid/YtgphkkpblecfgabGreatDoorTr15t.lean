/- PeTr13t, PeTr15t -/
import Derived.Test.YtgphkkpblecfgabGreatDoorY22
import Derived.Test.YtgphkkpblecfgabGreatDoorTr11t
set_option linter.all false
set_option maxRecDepth 100000
namespace Go.Eng.Sv
open Go.Proofs
noncomputable def u2P (a b : Int) : Prop := 0 ≤ a ∧ a ≤ 255 ∧ 0 ≤ b ∧ b ≤ 255
noncomputable def w1P (c : Int) : Prop := 0 ≤ c ∧ c ≤ 4294967295
noncomputable def KR19 : Kt := kOr 10 (dataK [] (fun _ => True) fun _ => .dat .bool true) KR18
theorem KSR19 : KSound Tryz.prog G0 KR19 := kOr_ok (dataK_ok fun _ => t_thead) KSR18
theorem rng8 {a : Int} (h : inR .u8 a) : 0 ≤ a ∧ a ≤ 255 := by unfold inR at h; simp only at h; omega
theorem rng32 {a : Int} (h : inR .u32 a) : 0 ≤ a ∧ a ≤ 4294967295 := by unfold inR at h; simp only at h; omega
theorem usF_iff {n : Net} {nx : List (List Int)} : usF n nx = true ↔ soundF n = true ∧ tabF n nx = true := by unfold usF; simp
theorem alike_len {fs gs : List Off} (h : alikeO fs gs = true) : fs.length = gs.length := by
 unfold alikeO at h
 simp only [Bool.and_eq_true, decide_eq_true_eq] at h
 omega
theorem sm_fits {n : Net} {nx : List (List Int)} (h : smF n nx = true) : netFits n nx ∧ n.2.2.2.1.length ≤ 6 := by
 unfold smF at h
 simp only [Bool.and_eq_true, decide_eq_true_eq, List.all_eq_true] at h
 obtain ⟨⟨h1, h2⟩, h3, h4⟩ := h
 exact ⟨⟨by show _ ≤ 1000000; omega, ⟨by omega, fun r hr => by have := h4 r hr; omega⟩⟩, by omega⟩
structure LU (n m : Net) (nx mx : List (List Int)) : Prop where
 fn : netFits n nx
 fm : netFits m mx
 un : usF n nx = true
 um : usF m mx = true
 al : alikeO n.2.2.2.1 m.2.2.2.1 = true
 pos : 0 < n.2.2.2.1.length
 six : n.2.2.2.1.length ≤ 6
theorem lu_of {n m : Net} {nx mx : List (List Int)} (h : luF n m nx mx = true) : LU n m nx mx := by
 unfold luF at h
 simp only [Bool.and_eq_true, decide_eq_true_eq] at h
 obtain ⟨⟨⟨⟨⟨h1, h2⟩, h3⟩, h4⟩, h5⟩, h6⟩ := h
 exact ⟨(sm_fits h1).1, (sm_fits h2).1, h3, h4, h5, by omega, (sm_fits h1).2⟩
theorem LU.len {n m : Net} {nx mx : List (List Int)} (h : LU n m nx mx) : n.2.2.2.1.length = m.2.2.2.1.length := alike_len h.al
theorem LU.pass {n m : Net} {nx mx : List (List Int)} (h : LU n m nx mx) {o d : Int} (o0 : 0 ≤ o) (o1 : o < n.2.2.2.1.length) (d0 : 0 ≤ d) (d1 : d < n.2.2.2.1.length) : passP n nx o d ∧ passP m mx o d := by
 obtain ⟨a1, a2⟩ := usF_iff.1 h.un
 obtain ⟨b1, b2⟩ := usF_iff.1 h.um
 have := h.len
 exact ⟨⟨a1, a2, o0, o1, d0, d1⟩, ⟨b1, b2, o0, by omega, d0, by omega⟩⟩
theorem tmod_bnd {a k : Int} (h : 0 < k) (a0 : 0 ≤ a) : 0 ≤ a.tmod k ∧ a.tmod k < k := by
 rw [Int.tmod_eq_emod_of_nonneg a0]
 exact ⟨Int.emod_nonneg _ (by omega), Int.emod_lt_of_pos _ (by omega)⟩
theorem post_bnd {n : Net} {a b c : Int} (h : postP n a b c) : (0 ≤ (postF n a b c).2.1 ∧ (postF n a b c).2.1 < n.2.2.2.1.length) ∧ (0 ≤ (postF n a b c).2.2.1 ∧ (postF n a b c).2.2.1 < n.2.2.2.1.length) ∧ 0 ≤ (postF n a b c).2.2.2.2 ∧ (postF n a b c).2.2.2.2 ≤ 100000 := by
 obtain ⟨h0, a0, a1, b0, b1, c0, c1⟩ := h
 have := tmod_bnd (k := 100001) (by omega) c0
 exact ⟨tmod_bnd (by omega) a0, tmod_bnd (by omega) b0, this.1, by have := this.2; show c.tmod 100001 ≤ 100000; omega⟩
theorem LU.ok {n m : Net} {nx mx : List (List Int)} (h : LU n m nx mx) {t : Int} (t0 : 0 ≤ t) (t1 : t ≤ 1000000) : safeOk n m nx mx t = true := by
 unfold safeOk tim20
 rw [h.un, h.um, h.al, decide_eq_true ⟨t0, t1⟩]; rfl
section
variable {n m : Net} {nx mx : List (List Int)} {to : Int}
theorem pass_head (k : Nat) (x : Int) : x ∈ passN n nx to k x := by
 cases k with
 | zero => rw [passN]; simp
 | succ k => rw [passN]; split <;> simp
theorem pass_mono : ∀ (j k : Nat) (x : Int), j ≤ k → to ∈ passN n nx to j x → to ∈ passN n nx to k x
 | 0, k, x, _, h => by
  rw [passN, List.mem_singleton] at h
  subst h; exact pass_head k _
 | j + 1, 0, x, h, _ => by omega
 | j + 1, k + 1, x, hk, h => by
  rw [passN] at h ⊢
  split
  ·rename_i hs; rw [if_pos hs] at h; exact h
  ·rename_i hs
   rw [if_neg hs] at h
   rcases List.mem_cons.1 h with h | h
   ·rw [h]; exact List.mem_cons_self
   ·exact List.mem_cons_of_mem _ (pass_mono j k _ (by omega) h)
theorem pass_lead : ∀ (k : Nat) (x0 : Int), to ∈ passN n nx to k x0 → ∀ x ∈ passN n nx to k x0, ∃ j, j ≤ k ∧ to ∈ passN n nx to j x
 | 0, x0, h, x, hx => by
  rw [passN, List.mem_singleton] at hx
  subst hx; exact ⟨0, Nat.le_refl _, h⟩
 | k + 1, x0, h, x, hx => by
  by_cases hs : x0 = to ∨ nxt nx x0 to = -1
  ·have hx' := hx
   rw [passN, if_pos hs, List.mem_singleton] at hx'
   subst hx'; exact ⟨k + 1, Nat.le_refl _, h⟩
  ·have h' := h
   have hx' := hx
   rw [passN, if_neg hs] at h' hx'
   rcases List.mem_cons.1 hx' with rfl | hx'
   ·exact ⟨k + 1, Nat.le_refl _, h⟩
   ·rcases List.mem_cons.1 h' with e | h'
    ·exact absurd (.inl e.symm) hs
    ·obtain ⟨j, h1, h2⟩ := pass_lead k _ h' x hx'
     exact ⟨j, by omega, h2⟩
theorem way_no_route : ∀ (k : Nat) (x t : Int), to ∈ passN n nx to k x → (wayN n nx to k x t).2 ≠ 170
 | k, x, t, h => by
  by_cases h0 : x = to
  ·rw [way_to k h0]; show (0 : Int) ≠ 170; decide
  ·by_cases h1 : nxt nx x to = -1
   ·exfalso
    have : passN n nx to k x = [x] := by
     cases k with
     | zero => rfl
     | succ k => rw [passN, if_pos (.inr h1)]
    rw [this, List.mem_singleton] at h
    exact h0 h.symm
   ·have hd : depE n (nxt nx x to) (readyF n x t) ≠ 170 := by
     unfold depE fstE nextE
     split
     ·split <;> decide
     ·decide
    by_cases h2 : depE n (nxt nx x to) (readyF n x t) = 0
    ·cases k with
     | zero =>
      rw [passN, List.mem_singleton] at h
      exact absurd h.symm h0
     | succ k =>
      rw [passN, if_neg (fun g => g.elim h0 h1)] at h
      rcases List.mem_cons.1 h with e | h
      ·exact absurd e.symm h0
      ·have ih := way_no_route k (lnTo n (nxt nx x to)) (depD n (nxt nx x to) (readyF n x t) + lnTrav n (nxt nx x to)) h
       rw [way_next k h0 h1 h2]
       unfold preW
       split
       ·simp
       ·exact ih
    ·rw [way_err k h0 h1 h2]; exact hd
theorem isWay.office : ∀ (k : Nat) {o t : Int} {l : List Stop}, isWay n nx to o t l → l.length ≤ k + 1 → ∀ s ∈ l, s.1 ∈ passN n nx to k o
 | k, o, t, [], h, _, _, _ => h.elim
 | k, o, t, s0 :: r, h, hl, s, hs => by
  rcases h with ⟨h0, h1, rfl⟩ | ⟨h0, h1, h2, h3, h4⟩
  ·rw [List.mem_singleton] at hs
   subst hs; rw [h1]; exact pass_head k o
  ·rcases List.mem_cons.1 hs with rfl | hs
   ·rw [h3]; exact pass_head k o
   ·cases k with
    | zero =>
     cases r with
     | nil => exact h4.elim
     | cons _ _ => simp at hl
    | succ k =>
     rw [passN, if_neg (fun g => g.elim h0 h1)]
     exact List.mem_cons_of_mem _ (isWay.office k h4 (by simp at hl; omega) s hs)
theorem isWay.last {o t : Int} {l : List Stop} (h : isWay n nx to o t l) : ∃ s ∈ l, s.1 = to := by
 have hp := h.pos
 refine ⟨l.getD (l.length - 1) (0, 0, 0, 0), ?_, ?_⟩
 ·rw [List.getD_eq_getElem?_getD, List.getElem?_eq_getElem (by omega), Option.getD_some]; exact List.getElem_mem _
 ·rcases h.at (i := l.length - 1) (by omega) with ⟨_, g, _⟩ | ⟨g, _⟩
  ·exact g
  ·omega
end
end Go.Eng.Sv

set_option maxRecDepth 100000
namespace Go.Eng.Sv
open Go.Proofs
theorem next_least {w : List Bool} {h : List Int} {d x : Int} (he : nextE w h d = 0) (h1 : d ≤ x) (h2 : workF w h x = true) : nextD w h d ≤ x := by
 by_cases hx : d + 60 ≤ x
 ·have := (next_spec he).2.1; omega
 ·have hm : x ∈ listF w h d 60 := by
   unfold listF
   exact List.mem_filter.2 ⟨List.mem_map.2 ⟨(x - d).toNat, List.mem_range.2 (by omega), by omega⟩, h2⟩
  have hp : (listF w h d 60).Pairwise (· < ·) := by
   unfold listF
   exact List.Pairwise.filter _ (List.pairwise_map.2 (List.pairwise_lt_range.imp fun h => by omega))
  unfold nextD nextO
  cases hl : listF w h d 60 with
  | nil => rw [hl] at hm; cases hm
  | cons y tl =>
   rw [hl] at hm hp
   show y ≤ x
   rcases List.mem_cons.1 hm with rfl | hm
   ·exact Int.le_refl _
   ·exact Int.le_of_lt ((List.pairwise_cons.1 hp).1 x hm)
theorem fst_mono {c : Int × List Bool × List Int} {m t u : Int} (h : t ≤ u) (he : fstE c m t = 0) (hu : fstE c m u = 0) : fstD c m t ≤ fstD c m u := by
 have e1 : fstD c m t = timeF c.1 (nextD c.2.1 c.2.2 (d0F c m t)) m := if_pos he
 have e2 : fstD c m u = timeF c.1 (nextD c.2.1 c.2.2 (d0F c m u)) m := if_pos hu
 have hd : d0F c m t ≤ d0F c m u := by unfold d0F dayF minF; split <;> split <;> omega
 obtain ⟨q1, _, q3⟩ := next_spec hu
 have := next_least he (Int.le_trans hd q1) q3
 rw [e1, e2]; unfold timeF; omega
theorem dep_mono {n : Net} {l t u : Int} (h : t ≤ u) (he : depE n l t = 0) (hu : depE n l u = 0) : depD n l t ≤ depD n l u := by
 have k : ∀ v, depE n l v = 0 → timeOk v = true := fun v hv => by
  cases h : timeOk v with
  | true => rfl
  | false => unfold depE at hv; rw [h] at hv; cases hv
 have f : ∀ v, depE n l v = 0 → depD n l v = fstD (calAt n (lnFrom n l)) (lnAt n l) v ∧ fstE (calAt n (lnFrom n l)) (lnAt n l) v = 0 := fun v hv => ⟨if_pos (k v hv), by
  have e : depE n l v = fstE (calAt n (lnFrom n l)) (lnAt n l) v := if_pos (k v hv)
  rw [← e]; exact hv⟩
 rw [(f t he).1, (f u hu).1]
 exact fst_mono h (f t he).2 (f u hu).2
section
variable {n : Net} {nx : List (List Int)} {to : Int}
theorem step_ok (hs : soundF n = true) (ht : tabF n nx = true) (d0 : 0 ≤ to) (d1 : to < n.2.2.2.1.length) {o t : Int} (o0 : 0 ≤ o) (o1 : o < n.2.2.2.1.length) (h1 : nxt nx o to ≠ -1) (h2 : depE n (nxt nx o to) (readyF n o t) = 0) :
  linP n (nxt nx o to) ∧ (0 ≤ lnTo n (nxt nx o to) ∧ lnTo n (nxt nx o to) < n.2.2.2.1.length) ∧ (t + 1 ≤ depD n (nxt nx o to) (readyF n o t) ∧ depD n (nxt nx o to) (readyF n o t) ≤ 2090000) ∧ 1 ≤ lnTrav n (nxt nx o to) ∧ lnTrav n (nxt nx o to) ≤ 5000 := by
 obtain ⟨cs, ns, os, fs, ls, ks⟩ := n
 have hno := sound_noF cs ns os fs ls ks hs
 obtain ⟨⟨l0, l1⟩, _⟩ := (tab_cell cs ns os fs ls ks ht o0 o1 d0 d1).2.2 h1
 have hl : linP (cs, ns, os, fs, ls, ks) (nxt nx o to) := ⟨hno, l0, l1⟩
 obtain ⟨_, _, g3, g4, _, _, g7, g8⟩ := lin_ok cs ns os fs ls ks hl
 obtain ⟨_, _, _, f1, _, f3, _⟩ := off_ok cs ns os fs ls ks (o := o) ⟨hno, o0, o1⟩
 obtain ⟨b1, b2, b3, b4⟩ := depart_bnd cs ns os fs ls ks hl h2
 have hp : 0 < (offAt (cs, ns, os, fs, ls, ks) o).2.2.2.2.1 * (offAt (cs, ns, os, fs, ls, ks) o).2.2.2.2.2.1 := Int.mul_pos (by omega) (by omega)
 have hr : readyF (cs, ns, os, fs, ls, ks) o t = t + (offAt (cs, ns, os, fs, ls, ks) o).2.2.2.2.1 * (offAt (cs, ns, os, fs, ls, ks) o).2.2.2.2.2.1 := rfl
 exact ⟨hl, ⟨g3, g4⟩, ⟨by omega, by omega⟩, g7, g8⟩
abbrev sG (l : List Stop) (i : Nat) : Stop := l.getD i (0, 0, 0, 0)
theorem isWay.off (hs : soundF n = true) (ht : tabF n nx = true) (d0 : 0 ≤ to) (d1 : to < n.2.2.2.1.length) {o t : Int} {l : List Stop} (h : isWay n nx to o t l) (o0 : 0 ≤ o) (o1 : o < n.2.2.2.1.length) : ∀ {i : Nat}, i < l.length → 0 ≤ (sG l i).1 ∧ (sG l i).1 < n.2.2.2.1.length
 | 0, _ => by rw [show (sG l 0).1 = o from h.head.1]; exact ⟨o0, o1⟩
 | i + 1, hi => by
  obtain ⟨p0, p1⟩ := isWay.off hs ht d0 d1 h o0 o1 (i := i) (by omega)
  rcases h.at (i := i) (by omega) with ⟨g, _⟩ | ⟨_, _, g3, g4, g5, g6, g7, g8⟩
  ·omega
  ·rw [show (sG l (i + 1)).1 = _ from g7]
   rw [g3] at g4 g5 ⊢
   exact (step_ok hs ht d0 d1 p0 p1 g4 g5).2.1
theorem isWay.gap (hs : soundF n = true) (ht : tabF n nx = true) (d0 : 0 ≤ to) (d1 : to < n.2.2.2.1.length) {o t : Int} {l : List Stop} (h : isWay n nx to o t l) (o0 : 0 ≤ o) (o1 : o < n.2.2.2.1.length) {i : Nat} (hi : i + 1 < l.length) :
  (sG l i).2.1 + 1 ≤ (sG l i).2.2.1 ∧ (sG l i).2.2.1 + 1 ≤ (sG l (i + 1)).2.1 ∧ (sG l i).2.2.1 ≤ 2090000 ∧ (sG l (i + 1)).2.1 ≤ (sG l i).2.2.1 + 5000 ∧ linP n (sG l i).2.2.2 := by
 obtain ⟨p0, p1⟩ := h.off hs ht d0 d1 o0 o1 (i := i) (by omega)
 rcases h.at (i := i) (by omega) with ⟨g, _⟩ | ⟨_, _, g3, g4, g5, g6, g7, g8⟩
 ·omega
 ·have e3 : (sG l i).2.2.2 = nxt nx (sG l i).1 to := g3
  have e6 : (sG l i).2.2.1 = depD n (sG l i).2.2.2 (readyF n (sG l i).1 (sG l i).2.1) := g6
  have e8 : (sG l (i + 1)).2.1 = (sG l i).2.2.1 + lnTrav n (sG l i).2.2.2 := g8
  obtain ⟨q1, _, ⟨q3, q4⟩, q5, q6⟩ := step_ok hs ht d0 d1 p0 p1 (t := (sG l i).2.1) (e3 ▸ g4) (e3 ▸ g5)
  rw [← e3] at q1 q3 q4 q5 q6
  rw [← e6] at q3 q4
  exact ⟨q3, by omega, q4, by omega, q1⟩
theorem isWay.ord (hs : soundF n = true) (ht : tabF n nx = true) (d0 : 0 ≤ to) (d1 : to < n.2.2.2.1.length) {o t : Int} {l : List Stop} (h : isWay n nx to o t l) (o0 : 0 ≤ o) (o1 : o < n.2.2.2.1.length) {i : Nat} : ∀ {j : Nat}, i < j → j < l.length → (sG l i).2.1 + 1 ≤ (sG l i).2.2.1 ∧ (sG l i).2.2.1 + 1 ≤ (sG l j).2.1
 | 0, h1, _ => by omega
 | j + 1, h1, hj => by
  by_cases e : i = j
  ·subst e
   have := h.gap hs ht d0 d1 o0 o1 hj
   omega
  ·have g := isWay.ord hs ht d0 d1 h o0 o1 (i := i) (j := j) (by omega) (by omega)
   have := h.gap hs ht d0 d1 o0 o1 hj
   omega
theorem isWay.later : ∀ {o t u : Int} {l r : List Stop}, t ≤ u → isWay n nx to o t l → isWay n nx to o u r → l.length = r.length ∧ ∀ j, j < l.length → (sG r j).1 = (sG l j).1 ∧ (sG l j).2.1 ≤ (sG r j).2.1 ∧ (sG l j).2.2.1 ≤ (sG r j).2.2.1 ∧ (sG r j).2.2.2 = (sG l j).2.2.2
 | _, _, _, [], _, _, h, _ => h.elim
 | _, _, _, _ :: _, [], _, _, h => h.elim
 | o, t, u, s :: l, s' :: r, hu, h, h' => by
  rcases h with ⟨h0, rfl, rfl⟩ | ⟨h0, h1, h2, rfl, h3⟩ <;> rcases h' with ⟨g0, rfl, rfl⟩ | ⟨g0, g1, g2, rfl, g3⟩
  ·refine ⟨rfl, fun j hj => ?_⟩
   cases j with
   | zero => exact ⟨rfl, hu, Int.le_refl _, rfl⟩
   | succ j => simp at hj
  ·exact absurd h0 g0
  ·exact absurd g0 h0
  ·have hr : readyF n o t ≤ readyF n o u := by unfold readyF; omega
   have hd := dep_mono hr h2 g2
   obtain ⟨q1, q2⟩ := isWay.later (by omega) h3 g3
   refine ⟨by simp only [List.length_cons]; omega, fun j hj => ?_⟩
   cases j with
   | zero => exact ⟨rfl, hu, hd, rfl⟩
   | succ j => exact q2 j (by simpa using hj)
end
theorem WayL_len {n : Net} {nx : List (List Int)} {o to t : Int} : (WayL n nx o to t).length ≤ 20 := by
 by_cases h : WayE n nx o to t = 0
 ·exact (Way_is h).2.2
 ·rw [Way_nil h]; exact Nat.zero_le _
theorem setArr_len (l : List Stop) (i v : Int) : (setArr l i v).length = l.length := by unfold setArr; exact List.length_set
theorem carryL_len {n m : Net} {nx mx : List (List Int)} {t : Int} {x : ByteArray × Int × Int × Int × Int} : (carryL n m nx mx t x).length ≤ 40 := by
 unfold carryL
 split
 ·rw [setArr_len, List.length_append, List.length_take]
  have h1 : (oldW n nx x).length ≤ 20 := WayL_len
  have h2 : (newW n m nx mx t x).length ≤ 20 := WayL_len
  omega
 ·exact Nat.zero_le _
theorem carOk_lu {n m : Net} {nx mx : List (List Int)} (L : LU n m nx mx) {x : ByteArray × Int × Int × Int × Int} {t : Int} (t0 : 0 ≤ t) (t1 : t ≤ 1000000) (o0 : 0 ≤ x.2.1) (o1 : x.2.1 < n.2.2.2.1.length) (e0 : 0 ≤ x.2.2.1) (e1 : x.2.2.1 < n.2.2.2.1.length) (a0 : 0 ≤ x.2.2.2.2) (a1 : x.2.2.2.2 ≤ 1000000) : carOk n m nx mx t x = true := by
 unfold carOk postOk tim20
 rw [L.al, L.un, L.um, decide_eq_true ⟨t0, t1⟩, decide_eq_true ⟨a0, a1⟩, idxF_iff.2 ⟨o0, o1⟩, idxF_iff.2 ⟨e0, e1⟩]; rfl
theorem carry_ok {n m : Net} {nx mx : List (List Int)} {x : ByteArray × Int × Int × Int × Int} {t : Int} (h : carOk n m nx mx t x = true) (hw : WayE n nx x.2.1 x.2.2.1 x.2.2.2.2 = 0) : carryE n m nx mx t x = newE n m nx mx t x := by
 unfold carryE; rw [if_pos h, if_pos hw]
theorem carry_bad {n m : Net} {nx mx : List (List Int)} {x : ByteArray × Int × Int × Int × Int} {t : Int} (h : carOk n m nx mx t x = true) (hw : WayE n nx x.2.1 x.2.2.1 x.2.2.2.2 ≠ 0) : carryE n m nx mx t x = WayE n nx x.2.1 x.2.2.1 x.2.2.2.2 := by
 unfold carryE; rw [if_pos h, if_neg hw]
section
variable {n m : Net} {nx mx : List (List Int)} {x : ByteArray × Int × Int × Int × Int}
theorem set_get {a r : List Stop} {i j : Nat} {v : Int} (ha : a.length = i) (hj : j < i + r.length) : sG (setArr (a ++ r) i v) j = if j < i then sG a j else if j = i then ((sG r 0).1, v, (sG r 0).2.2) else sG r (j - i) := by
 have e : ∀ k, (a ++ r).getD k (0, 0, 0, 0) = if k < i then a.getD k (0, 0, 0, 0) else r.getD (k - i) (0, 0, 0, 0) := fun k => by
  subst ha
  simp only [List.getD_eq_getElem?_getD]
  split <;> rename_i h
  ·rw [List.getElem?_append_left h]
  ·rw [List.getElem?_append_right (by omega)]
 unfold setArr
 rw [Int.toNat_natCast]
 show ((a ++ r).set i _).getD j _ = _
 by_cases h : j = i
 ·subst h
  rw [List.getD_eq_getElem?_getD, List.getElem?_set_self (by rw [List.length_append]; omega), Option.getD_some, if_neg (by omega), if_pos rfl, e, if_neg (by omega), Nat.sub_self]
 ·rw [List.getD_eq_getElem?_getD, List.getElem?_set_ne (Ne.symm h), ← List.getD_eq_getElem?_getD, e, if_neg h]
theorem carry_parts {n m : Net} {nx mx : List (List Int)} {x : ByteArray × Int × Int × Int × Int} {t : Int} (hE : carryE n m nx mx t x = 0) : carOk n m nx mx t x = true ∧ WayE n nx x.2.1 x.2.2.1 x.2.2.2.2 = 0 ∧ newE n m nx mx t x = 0 := by
 unfold carryE at hE
 by_cases h1 : carOk n m nx mx t x = true
 ·rw [if_pos h1] at hE
  by_cases h2 : WayE n nx x.2.1 x.2.2.1 x.2.2.2.2 = 0
  ·rw [if_pos h2] at hE; exact ⟨h1, h2, hE⟩
  ·rw [if_neg h2] at hE; exact absurd hE h2
 ·rw [if_neg h1] at hE; exact absurd hE (by decide)
structure CarryIs (n m : Net) (nx mx : List (List Int)) (t : Int) (x : ByteArray × Int × Int × Int × Int) (i : Nat) : Prop where
 idx : oldI n nx t x = i
 lt : i < (oldW n nx x).length
 bef : ∀ j, j < i → (sG (oldW n nx x) j).2.2.1 < t
 aft : i + 1 = (oldW n nx x).length ∨ t ≤ (sG (oldW n nx x) i).2.2.1
 old : isWay n nx x.2.2.1 x.2.1 x.2.2.2.2 (oldW n nx x)
 new : isWay m mx x.2.2.1 (sG (oldW n nx x) i).1 (max (sG (oldW n nx x) i).2.1 t) (newW n m nx mx t x)
 len : (carryL n m nx mx t x).length = i + (newW n m nx mx t x).length
 get : ∀ j, j < i + (newW n m nx mx t x).length → sG (carryL n m nx mx t x) j = if j < i then sG (oldW n nx x) j else if j = i then ((sG (newW n m nx mx t x) 0).1, (sG (oldW n nx x) i).2.1, (sG (newW n m nx mx t x) 0).2.2) else sG (newW n m nx mx t x) (j - i)
theorem carry_is {n m : Net} {nx mx : List (List Int)} {x : ByteArray × Int × Int × Int × Int} {t : Int} (hE : carryE n m nx mx t x = 0) : ∃ i, CarryIs n m nx mx t x i := by
 obtain ⟨_, h2, h3⟩ := carry_parts hE
 obtain ⟨_, hway, _⟩ := Way_is h2
 obtain ⟨_, hnew, _⟩ := Way_is (n := m) (nx := mx) h3
 obtain ⟨i, q1, q2, q3, q4⟩ := hway.idx t
 have eI : oldI n nx t x = i := q1
 have eS : oldS n nx t x = sG (oldW n nx x) i := by unfold oldS; rw [eI]; rfl
 have q2 : i < (oldW n nx x).length := q2
 have eL : carryL n m nx mx t x = setArr ((oldW n nx x).take i ++ newW n m nx mx t x) i (sG (oldW n nx x) i).2.1 := by
  unfold carryL; rw [if_pos hE, eI, eS, Int.toNat_natCast]
 have el : ((oldW n nx x).take i).length = i := by rw [List.length_take]; omega
 refine ⟨i, eI, q2, q3, q4, hway, ?_, ?_, fun j hj => ?_⟩
 ·have e : newT n nx t x = max (sG (oldW n nx x) i).2.1 t := by unfold newT; rw [eS]
  rw [← e, ← eS]; exact hnew
 ·rw [eL, setArr_len, List.length_append, el]
 ·rw [eL, set_get el hj]
  by_cases h : j < i
  ·rw [if_pos h, if_pos h]
   show ((oldW n nx x).take i).getD j _ = (oldW n nx x).getD j _
   rw [List.getD_eq_getElem?_getD, List.getElem?_take_of_lt h, List.getD_eq_getElem?_getD]
  ·rw [if_neg h, if_neg h]
theorem again {n : Net} {nx : List (List Int)} {x : ByteArray × Int × Int × Int × Int} {t : Int} (hE : carryE n n nx nx t x = 0) : (carryL n n nx nx t x).length = (oldW n nx x).length ∧ ∀ j, j < (oldW n nx x).length → (sG (carryL n n nx nx t x) j).1 = (sG (oldW n nx x) j).1 ∧ (sG (oldW n nx x) j).2.1 ≤ (sG (carryL n n nx nx t x) j).2.1 ∧ (sG (oldW n nx x) j).2.2.1 ≤ (sG (carryL n n nx nx t x) j).2.2.1 ∧ (sG (carryL n n nx nx t x) j).2.2.2 = (sG (oldW n nx x) j).2.2.2 := by
 obtain ⟨i, C⟩ := carry_is hE
 obtain ⟨l1, l2⟩ := isWay.later (Int.le_max_left _ _) (C.old.drop C.lt) C.new
 rw [List.length_drop] at l1 l2
 have hlt := C.lt
 refine ⟨by rw [C.len]; omega, fun j hj => ?_⟩
 rw [C.get j (by omega)]
 by_cases h : j < i
 ·rw [if_pos h]; exact ⟨rfl, Int.le_refl _, Int.le_refl _, rfl⟩
 ·rw [if_neg h]
  have g := l2 (j - i) (by omega)
  have e : sG ((oldW n nx x).drop i) (j - i) = sG (oldW n nx x) j := by
   show ((oldW n nx x).drop i).getD (j - i) _ = _
   rw [getD_drop, show i + (j - i) = j by omega]
  rw [e] at g
  by_cases h2 : j = i
  ·rw [if_pos h2]
   subst h2
   rw [Nat.sub_self] at g
   exact ⟨g.1, Int.le_refl _, g.2.2.1, g.2.2.2⟩
  ·rw [if_neg h2]; exact g
end
end Go.Eng.Sv

set_option maxRecDepth 100000
namespace Go.Eng.Sv
open Go.Proofs
end Go.Eng.Sv

set_option maxRecDepth 100000
noncomputable section
namespace Go.Eng.Sv
open Go.Proofs
def crW (n : Net) (nx : List (List Int)) (a b c : Int) : List Stop := WayL n nx (postF n a b c).2.1 (postF n a b c).2.2.1 (postF n a b c).2.2.2.2
def crT (n m : Net) (nx mx : List (List Int)) (a b c d : Int) : List Stop := carryL n m nx mx (D.rem d 100001) ((postF n a b c).1, (postF n a b c).2.1, (postF n a b c).2.2.1, (postF n a b c).2.2.2.1, (postF n a b c).2.2.2.2)
def crX (l : List Stop) (t i : Int) : Prop := 0 ≤ i ∧ i < l.length ∧ ∀ j : Nat, (j : Int) < i → (l.getD j (0, 0, 0, 0)).2.2.1 < t
def crY (l : List Stop) (o i : Int) : Prop := o ≤ i ∧ i < l.length
def crA (lW lT : List Stop) (t : Int) : Ann := ⟨fun id s => match id with
 | 13 => some { α := Int, inv := fun k => crX lW t k, st := fun k => put (flat s) [(24, .dat I k)], μ := fun k => D.nat (D.sub (D.ilen lW) k) }
 | 18 => match s.sig.T 24 with
  | .dat (.int .i64) o => some { α := Int, inv := fun k => crY lT o k, st := fun k => put (flat s) [(25, .dat I k)], μ := fun k => D.nat (D.sub (D.ilen lT) k) }
  | _ => none
 | _ => none, fun _ _ => none, fun _ _ => none⟩
theorem vc_lcarries (a b c d : Int) (p1 p2 : Int) (nx : List (List Int)) (dy : List (List (List Int))) (cs : LC) (ns os : LB) (fs : List Off) (ls : List Line) (ks : List Cla) (q1 q2 : Int) (mx : List (List Int)) (dz : List (List (List Int))) (cs2 : List (Int × List Bool × List Int)) (ns2 os2 : List ByteArray) (gs : List Off) (hs : List Line) (ks2 : List Cla) (hvc :
 let c1 := (cs, ns, os, fs, ls, ks);
 let c2 := (cs2, ns2, os2, gs, hs, ks2);
 let c3 := luF c1 c2 nx mx;
 let c4 := D.not c3;
 let c5 := D.rem d (100001 : Int);
 let c6 := postF c1 a b c;
 let c7 := c6.fst;
 let c8 := c6.snd;
 let c9 := c8.fst;
 let c10 := c8.snd;
 let c11 := c10.fst;
 let c12 := c10.snd;
 let c13 := c12.fst;
 let c14 := c12.snd;
 let c15 := (c7, c9, c11, c13, c14);
 let c16 := carryE c1 c2 nx mx c5 c15;
 let c17 := D.ne c16 0;
 let c18 := carryL c1 c2 nx mx c5 c15;
 let c19 := D.ilen c18;
 let c20 := D.eq c19 0;
 let c21 := D.cnd true c20 false;
 let c22 := WayE c1 nx c9 c11 c14;
 let c23 := D.ne c22 0;
 let c24 := D.not c23;
 let c25 := D.cnd c23 true c20;
 let c26 := D.not c25;
 let c27 := D.sub c19 1;
 let c28 := (0, 0, 0, 0);
 let c29 := D.get c18 (D.nat c27) c28;
 let c30 := D.cnd c25 true (D.ne c29.fst c11);
 let c31 := D.not c30;
 let c32 := c29.snd.snd;
 let c33 := D.cnd c30 true (D.ne c32.fst (-1 : Int));
 let c34 := D.not c33;
 let c35 := D.cnd c33 true (D.ne c32.snd (-1 : Int));
 let c36 := D.not c35;
 let c37 := D.get c18 (D.nat 0) c28;
 let c38 := D.cnd c35 true (D.ne c37.fst c9);
 let c39 := D.not c38;
 let c40 := D.cnd c38 true (D.ne c37.snd.fst c14);
 let c41 := crW c1 nx a b c;
 let c42 := (nx, dy);
 let c43 := (p1, p2, c42);
 let c44 := (q1, q2, mx, dz);
 let c45 := WayL c1 nx c9 c11 c14;
 let c46 := D.ilen c45;
 let c47 := D.ilen c41;
 let c48 := crT c1 c2 nx mx a b c d;
 let c49 := D.nat c11;
 let c50 := D.ilen hs;
 let c51 := (ByteArray.mk (D.nil UInt8).toArray, 0, c28);
 let c52 := D.ilen c48; true = true ∧ (u2P a b ∧ w1P c ∧ w1P d → True ∧ True ∧ (c4 = true → true = true ∧ True) ∧ (c4 = false → postP c1 a b c ∧ 1 = 1 ∧ 0 = 0 ∧
 inR IntKind.i64 d ∧ D.ine (100001 : Int) 0 ∧ 1 = 1 ∧ 0 = 0 ∧ (netFits c1 nx ∧ netFits c2 mx) ∧ 1 = 1 ∧ 1 = 1 ∧ 0 = 0 ∧ 1 = 1 ∧ 1 = 1 ∧ 0 = 0 ∧ 1 = 1 ∧
 1 = 1 ∧ 0 = 0 ∧ fitsM nx ∧ (c17 = true → (true = true → true = true → true = true) ∧ (true = true → true = true → true = true) ∧ (D.and true true = true → true
 = true) ∧ (c21 = true → c21 = true → c21 = true) ∧ (D.and true c21 = true → c21 = true) ∧ D.cnd c21 (D.ne c16 1) false = true ∧ True) ∧ (c17 = false →
 (c24 = true → c24 = true → c24 = true) ∧ (c24 = true → c24 = true → c24 = true) ∧ (D.and true c24 = true → c24 = true) ∧ (c26 = true → c26 = true → c26 = true)
 ∧ (c26 = true → c26 = true → c26 = true) ∧ (c26 = true → inR IntKind.i64 c27) ∧ (c26 = true → c26 = true → c26 = true) ∧ (c26 = true → c26 = true → c26 = true)
 ∧ (c26 = true → D.ile 0 c27) ∧ (c26 = true → D.ilt c27 c19) ∧ (c26 = true → c26 = true → c26 = true) ∧ (c26 = true → c26 = true → c26 = true) ∧ (c26 =
 true → 1 = 1) ∧ (c26 = true → c26 = true → c26 = true) ∧ (c26 = true → 1 = 1) ∧ (c26 = true → 0 = 0) ∧ (c26 = true → c26 = true → c26 = true) ∧ (c26 = true →
 c26 = true → c26 = true) ∧ (D.and true c26 = true → c26 = true) ∧ (c31 = true → c31 = true → c31 = true) ∧ (c31 = true → c31 = true → c31 = true) ∧ (c31 = true
 → inR IntKind.i64 c27) ∧ (c31 = true → c31 = true → c31 = true) ∧ (c31 = true → c31 = true → c31 = true) ∧ (c31 = true → D.ile 0 c27) ∧ (c31 = true →
 D.ilt c27 c19) ∧ (c31 = true → c31 = true → c31 = true) ∧ (c31 = true → c31 = true → c31 = true) ∧ (c31 = true → c31 = true → c31 = true) ∧ (D.and true c31 =
 true → c31 = true) ∧ (c34 = true → c34 = true → c34 = true) ∧ (c34 = true → c34 = true → c34 = true) ∧ (c34 = true → inR IntKind.i64 c27) ∧ (c34 = true → c34 =
 true → c34 = true) ∧ (c34 = true → c34 = true → c34 = true) ∧ (c34 = true → D.ile 0 c27) ∧ (c34 = true → D.ilt c27 c19) ∧ (c34 = true → c34 = true →
 c34 = true) ∧ (c34 = true → c34 = true → c34 = true) ∧ (c34 = true → c34 = true → c34 = true) ∧ (D.and true c34 = true → c34 = true) ∧ (c36 = true → c36 = true
 → c36 = true) ∧ (c36 = true → D.ile 0 0) ∧ (c36 = true → D.ilt 0 c19) ∧ (c36 = true → c36 = true → c36 = true) ∧ (c36 = true → c36 =
 true → c36 = true) ∧ (c36 = true → 1 = 1) ∧ (c36 = true → c36 = true → c36 = true) ∧ (c36 = true → 1 = 1) ∧ (c36 = true → 0 = 0) ∧ (c36 = true → c36 = true →
 c36 = true) ∧ (c36 = true → c36 = true → c36 = true) ∧ (D.and true c36 = true → c36 = true) ∧ (c39 = true → c39 = true → c39 = true) ∧ (c39 = true → D.ile (0 :
 Int) 0) ∧ (c39 = true → D.ilt 0 c19) ∧ (c39 = true → c39 = true → c39 = true) ∧ (c39 = true → c39 = true → c39 = true) ∧ (c39 = true → 1 = 1) ∧
 (c39 = true → c39 = true → c39 = true) ∧ (c39 = true → 1 = 1) ∧ (c39 = true → 0 = 0) ∧ (c39 = true → c39 = true → c39 = true) ∧ (c39 = true → c39 = true → c39
 = true) ∧ (D.and true c39 = true → c39 = true) ∧ (c40 = true → false = true ∧ True) ∧ (c40 = false → (∃ x, crX c41 c5 x ∧ cs = cs ∧ ns = ns ∧ os = os ∧ fs =
 fs ∧ ls = ls ∧ ks = ks ∧ p1 = p1 ∧ p2 = p2 ∧ nx = nx ∧ dy = dy ∧ cs2 = cs2 ∧ ns2 = ns2 ∧ os2 = os2 ∧ gs = gs ∧ hs = hs ∧ ks2 = ks2 ∧ q1 = q1 ∧ q2 = q2 ∧ mx =
 mx ∧ dz = dz ∧ a = a ∧ b = b ∧ c = c ∧ d = d ∧ c1 = c1 ∧ c43 = c43 ∧ c2 = c2 ∧ c44 = c44 ∧ false = false ∧ true = true ∧ 1 = 1 ∧ 0 = 0 ∧ 0 = 0 ∧ c5 = c5 ∧ c18
 = c18 ∧ c16 = c16 ∧ c45 = c45 ∧ c22 = c22 ∧ 0 = x ∧ true = true ∧ cs = cs ∧ ns = ns ∧ os = os ∧ fs = fs ∧ ls = ls ∧ ks = ks ∧ p1 = p1 ∧ p2 = p2 ∧ nx =
 nx ∧ dy = dy ∧ cs2 = cs2 ∧ ns2 = ns2 ∧ os2 = os2 ∧ gs = gs ∧ hs = hs ∧ ks2 = ks2 ∧ q1 = q1 ∧ q2 = q2 ∧ mx = mx ∧ dz = dz ∧ c3 = c3 ∧ c4 = c4 ∧ cs = cs ∧ ns =
 ns ∧ os = os ∧ fs = fs ∧ ls = ls ∧ ks = ks ∧ a = a ∧ b = b ∧ c = c ∧ c7 = c7 ∧ c9 = c9 ∧ c11 = c11 ∧ c13 = c13 ∧ c14 = c14 ∧ d = d ∧ d = d ∧ c5 = c5 ∧ c18 =
 c18 ∧ c16 = c16 ∧ cs = cs ∧ ns = ns ∧ os = os ∧ fs = fs ∧ ls = ls ∧ ks = ks ∧ p1 = p1 ∧ p2 = p2 ∧ nx = nx ∧ dy = dy ∧ cs2 = cs2 ∧ ns2 = ns2 ∧ os2 = os2 ∧ gs =
 gs ∧ hs = hs ∧ ks2 = ks2 ∧ q1 = q1 ∧ q2 = q2 ∧ mx = mx ∧ dz = dz ∧ c5 = c5 ∧ c7 = c7 ∧ c9 = c9 ∧ c11 = c11 ∧ c13 = c13 ∧ c14 = c14 ∧ c18 = c18 ∧ c16 = c16 ∧
 c18 = c18 ∧ c16 = c16 ∧ c45 = c45 ∧ c22 = c22 ∧ cs = cs ∧ ns = ns ∧ os = os ∧ fs = fs ∧ ls = ls ∧ ks = ks ∧ c42 = c42 ∧ nx = nx ∧ 1 = 1 ∧ 0 = 0 ∧ 1 = 1 ∧ c9 =
 c9 ∧ 1 = 1 ∧ 0 = 0 ∧ 2 = 2 ∧ c11 = c11 ∧ 1 = 1 ∧ 0 = 0 ∧ 4 = 4 ∧ c14 = c14 ∧ c45 = c45 ∧ c22 = c22 ∧ c45 = c45 ∧ c22 = c22 ∧ c16 = c16 ∧ c17 = c17 ∧ c22 = c22
 ∧ c23 = c23 ∧ c23 = c23 ∧ c25 = c25 ∧ c25 = c25 ∧ c30 = c30 ∧ c30 = c30 ∧ c33 = c33 ∧ c33 = c33 ∧ c35 = c35 ∧ c35 = c35 ∧ c38 = c38 ∧ c38 = c38 ∧ c40 = c40 ∧
 c7 = c7 ∧ c9 = c9 ∧ c11 = c11 ∧ c13 = c13 ∧ c14 = c14 ∧ True) ∧ ∀ (x : Int),
 let c53 := D.add x 1;
 let c54 := D.lt c53 c46;
 let c55 := D.get c45 (D.nat x) c28;
 let c56 := c55.snd;
 let c57 := D.cnd c54 (D.lt c56.snd.fst c5) false;
 let c58 := D.get c18 (D.nat x) c28;
 let c59 := D.cnd (D.le c19 x) true (D.ne c58.fst c55.fst);
 let c60 := D.not c59;
 let c61 := D.cnd c59 true (D.ne c58.snd.fst c56.fst);
 let c62 := D.not c61;
 let c63 := D.part c18 0 x;
 let c64 := D.cnd c61 true (D.not (sameSt c63 (D.part c45 0 x))); crX c41 c5 x → inR IntKind.i64 c53 ∧ (c54 = true → c54 = true → c54 = true) ∧ (c54 =
 true → c54 = true → c54 = true) ∧ (c54 = true → D.ile 0 x) ∧ (c54 = true → D.ilt x c46) ∧ (c54 = true → c54 = true → c54 = true) ∧ (c54 = true → c54 =
 true → c54 = true) ∧ (c54 = true → c54 = true → c54 = true) ∧ (c54 = true → c54 = true → c54 = true) ∧ (D.and true c54 = true → c54 = true) ∧ (c57 = true → inR
 IntKind.i64 c53 ∧ ∃ y, crX c41 c5 y ∧ (cs = cs ∧ ns = ns ∧ os = os ∧ fs = fs ∧ ls = ls ∧ ks = ks ∧ p1 = p1 ∧ p2 = p2 ∧ nx = nx ∧ dy = dy ∧ cs2 = cs2 ∧ ns2 =
 ns2 ∧ os2 = os2 ∧ gs = gs ∧ hs = hs ∧ ks2 = ks2 ∧ q1 = q1 ∧ q2 = q2 ∧ mx = mx ∧ dz = dz ∧ a = a ∧ b = b ∧ c = c ∧ d = d ∧ c1 = c1 ∧ c43 = c43 ∧ c2 = c2 ∧ c44 =
 c44 ∧ false = false ∧ true = true ∧ 1 = 1 ∧ 0 = 0 ∧ 0 = 0 ∧ c5 = c5 ∧ c18 = c18 ∧ c16 = c16 ∧ c45 = c45 ∧ c22 = c22 ∧ c53 = y ∧ true = true ∧ cs = cs ∧ ns = ns
 ∧ os = os ∧ fs = fs ∧ ls = ls ∧ ks = ks ∧ p1 = p1 ∧ p2 = p2 ∧ nx = nx ∧ dy = dy ∧ cs2 = cs2 ∧ ns2 = ns2 ∧ os2 = os2 ∧ gs = gs ∧ hs = hs ∧ ks2 = ks2 ∧ q1 = q1 ∧
 q2 = q2 ∧ mx = mx ∧ dz = dz ∧ c3 = c3 ∧ c4 = c4 ∧ cs = cs ∧ ns = ns ∧ os = os ∧ fs = fs ∧ ls = ls ∧ ks = ks ∧ a = a ∧ b = b ∧ c = c ∧ c7 = c7 ∧ c9 = c9 ∧ c11 =
 c11 ∧ c13 = c13 ∧ c14 = c14 ∧ d = d ∧ d = d ∧ c5 = c5 ∧ c18 = c18 ∧ c16 = c16 ∧ cs = cs ∧ ns = ns ∧ os = os ∧ fs = fs ∧ ls = ls ∧ ks = ks ∧ p1 = p1 ∧ p2 = p2 ∧
 nx = nx ∧ dy = dy ∧ cs2 = cs2 ∧ ns2 = ns2 ∧ os2 = os2 ∧ gs = gs ∧ hs = hs ∧ ks2 = ks2 ∧ q1 = q1 ∧ q2 = q2 ∧ mx = mx ∧ dz = dz ∧ c5 = c5 ∧ c7 = c7 ∧ c9 = c9 ∧
 c11 = c11 ∧ c13 = c13 ∧ c14 = c14 ∧ c18 = c18 ∧ c16 = c16 ∧ c18 = c18 ∧ c16 = c16 ∧ c45 = c45 ∧ c22 = c22 ∧ cs = cs ∧ ns = ns ∧ os = os ∧ fs = fs ∧ ls = ls ∧
 ks = ks ∧ c42 = c42 ∧ nx = nx ∧ 1 = 1 ∧ 0 = 0 ∧ 1 = 1 ∧ c9 = c9 ∧ 1 = 1 ∧ 0 = 0 ∧ 2 = 2 ∧ c11 = c11 ∧ 1 = 1 ∧ 0 = 0 ∧ 4 = 4 ∧ c14 = c14 ∧ c45 = c45 ∧ c22 = c22
 ∧ c45 = c45 ∧ c22 = c22 ∧ c16 = c16 ∧ c17 = c17 ∧ c22 = c22 ∧ c23 = c23 ∧ c23 = c23 ∧ c25 = c25 ∧ c25 = c25 ∧ c30 = c30 ∧ c30 = c30 ∧ c33 = c33 ∧ c33 = c33 ∧
 c35 = c35 ∧ c35 = c35 ∧ c38 = c38 ∧ c38 = c38 ∧ c40 = c40 ∧ c7 = c7 ∧ c9 = c9 ∧ c11 = c11 ∧ c13 = c13 ∧ c14 = c14 ∧ True) ∧ D.nlt (D.nat (D.sub c47 y)) (D.nat
 (D.sub c47 x))) ∧ (c57 = false → (D.not (D.le c19 x) = true → D.not (D.le c19 x) = true → D.not (D.le c19 x) = true) ∧ (D.not (D.le c19 x) = true → D.not (D.le
 c19 x) = true → D.not (D.le c19 x) = true) ∧ (D.not (D.le c19 x) = true → D.ile 0 x) ∧ (D.not (D.le c19 x) = true → D.ilt x c19) ∧ (D.not (D.le c19 x)
 = true → D.not (D.le c19 x) = true → D.not (D.le c19 x) = true) ∧ (D.not (D.le c19 x) = true → D.not (D.le c19 x) = true → D.not (D.le c19 x) = true) ∧ (D.not
 (D.le c19 x) = true → D.not (D.le c19 x) = true → D.not (D.le c19 x) = true) ∧ (D.not (D.le c19 x) = true → D.not (D.le c19 x) = true → D.not (D.le c19 x) =
 true) ∧ (D.not (D.le c19 x) = true → D.ile 0 x) ∧ (D.not (D.le c19 x) = true → D.ilt x c46) ∧ (D.not (D.le c19 x) = true → D.not (D.le c19 x) = true →
 D.not (D.le c19 x) = true) ∧ (D.not (D.le c19 x) = true → D.not (D.le c19 x) = true → D.not (D.le c19 x) = true) ∧ (D.not (D.le c19 x) = true → D.not (D.le c19
 x) = true → D.not (D.le c19 x) = true) ∧ (D.not (D.le c19 x) = true → D.not (D.le c19 x) = true → D.not (D.le c19 x) = true) ∧ (D.and true (D.not (D.le c19 x))
 = true → D.not (D.le c19 x) = true) ∧ (c60 = true → c60 = true → c60 = true) ∧ (c60 = true → c60 = true → c60 = true) ∧ (c60 = true → D.ile 0 x) ∧ (c60
 = true → D.ilt x c19) ∧ (c60 = true → c60 = true → c60 = true) ∧ (c60 = true → c60 = true → c60 = true) ∧ (c60 = true → c60 = true → c60 = true) ∧ (c60 = true
 → c60 = true → c60 = true) ∧ (c60 = true → D.ile 0 x) ∧ (c60 = true → D.ilt x c46) ∧ (c60 = true → c60 = true → c60 = true) ∧ (c60 = true → c60 = true
 → c60 = true) ∧ (c60 = true → c60 = true → c60 = true) ∧ (c60 = true → c60 = true → c60 = true) ∧ (D.and true c60 = true → c60 = true) ∧ (c62 = true → c62 =
 true → c62 = true) ∧ (c62 = true → c62 = true → c62 = true) ∧ (c62 = true → D.ile 0 0) ∧ (c62 = true → D.ile 0 x) ∧ (c62 = true → D.ile
 x c19) ∧ (c62 = true → c62 = true → c62 = true) ∧ (c62 = true → c62 = true → c62 = true) ∧ (c62 = true → D.ile 0 0) ∧ (c62 = true → D.ile (0 :
 Int) x) ∧ (c62 = true → D.ile x c46) ∧ (c62 = true → c62 = true → c62 = true) ∧ (c62 = true → c62 = true → c62 = true) ∧ (c62 = true → sFits c63) ∧ (c62 = true
 → c62 = true → c62 = true) ∧ (D.and true c62 = true → c62 = true) ∧ (c64 = true → false = true ∧ True) ∧ (c64 = false → (∃ x_4, crY c48 x x_4 ∧ cs = cs ∧ ns
 = ns ∧ os = os ∧ fs = fs ∧ ls = ls ∧ ks = ks ∧ p1 = p1 ∧ p2 = p2 ∧ nx = nx ∧ dy = dy ∧ cs2 = cs2 ∧ ns2 = ns2 ∧ os2 = os2 ∧ gs = gs ∧ hs = hs ∧ ks2 = ks2 ∧ q1 =
 q1 ∧ q2 = q2 ∧ mx = mx ∧ dz = dz ∧ a = a ∧ b = b ∧ c = c ∧ d = d ∧ c1 = c1 ∧ c43 = c43 ∧ c2 = c2 ∧ c44 = c44 ∧ true = true ∧ 1 = 1 ∧ 0 = 0 ∧ 0 = 0 ∧ c5 = c5 ∧
 c18 = c18 ∧ c16 = c16 ∧ c45 = c45 ∧ c22 = c22 ∧ x = x ∧ x = x_4 ∧ true = true ∧ cs = cs ∧ ns = ns ∧ os = os ∧ fs = fs ∧ ls = ls ∧ ks = ks ∧ p1 = p1 ∧ p2 = p2 ∧
 nx = nx ∧ dy = dy ∧ cs2 = cs2 ∧ ns2 = ns2 ∧ os2 = os2 ∧ gs = gs ∧ hs = hs ∧ ks2 = ks2 ∧ q1 = q1 ∧ q2 = q2 ∧ mx = mx ∧ dz = dz ∧ c3 = c3 ∧ c4 = c4 ∧ cs = cs ∧
 ns = ns ∧ os = os ∧ fs = fs ∧ ls = ls ∧ ks = ks ∧ a = a ∧ b = b ∧ c = c ∧ c7 = c7 ∧ c9 = c9 ∧ c11 = c11 ∧ c13 = c13 ∧ c14 = c14 ∧ d = d ∧ d = d ∧ c5 = c5 ∧ c18
 = c18 ∧ c16 = c16 ∧ cs = cs ∧ ns = ns ∧ os = os ∧ fs = fs ∧ ls = ls ∧ ks = ks ∧ p1 = p1 ∧ p2 = p2 ∧ nx = nx ∧ dy = dy ∧ cs2 = cs2 ∧ ns2 = ns2 ∧ os2 = os2 ∧ gs
 = gs ∧ hs = hs ∧ ks2 = ks2 ∧ q1 = q1 ∧ q2 = q2 ∧ mx = mx ∧ dz = dz ∧ c5 = c5 ∧ c7 = c7 ∧ c9 = c9 ∧ c11 = c11 ∧ c13 = c13 ∧ c14 = c14 ∧ c18 = c18 ∧ c16 = c16 ∧
 c18 = c18 ∧ c16 = c16 ∧ c45 = c45 ∧ c22 = c22 ∧ cs = cs ∧ ns = ns ∧ os = os ∧ fs = fs ∧ ls = ls ∧ ks = ks ∧ c42 = c42 ∧ nx = nx ∧ 1 = 1 ∧ 0 = 0 ∧ 1 = 1 ∧ c9 =
 c9 ∧ 1 = 1 ∧ 0 = 0 ∧ 2 = 2 ∧ c11 = c11 ∧ 1 = 1 ∧ 0 = 0 ∧ 4 = 4 ∧ c14 = c14 ∧ c45 = c45 ∧ c22 = c22 ∧ c45 = c45 ∧ c22 = c22 ∧ c16 = c16 ∧ c17 = c17 ∧ c22 = c22
 ∧ c23 = c23 ∧ c23 = c23 ∧ c25 = c25 ∧ c25 = c25 ∧ c30 = c30 ∧ c30 = c30 ∧ c33 = c33 ∧ c33 = c33 ∧ c35 = c35 ∧ c35 = c35 ∧ c38 = c38 ∧ c38 = c38 ∧ c40 = c40 ∧ x
 = x ∧ c53 = c53 ∧ c45 = c45 ∧ c46 = c46 ∧ c54 = c54 ∧ c54 = c54 ∧ c57 = c57 ∧ c18 = c18 ∧ c19 = c19 ∧ x = x ∧ D.le c19 x = D.le c19 x ∧ D.le c19 x = D.le c19 x
 ∧ c59 = c59 ∧ c59 = c59 ∧ c61 = c61 ∧ c61 = c61 ∧ c64 = c64 ∧ x = x ∧ c7 = c7 ∧ c9 = c9 ∧ c11 = c11 ∧ c13 = c13 ∧ c14 = c14 ∧ True) ∧ ∀ (x_4 : Int),
 let c65 := D.add x_4 1;
 let c66 := D.lt c65 c19;
 let c67 := D.get c18 (D.nat x_4) c28;
 let c68 := c67.fst;
 let c69 := D.lt c68 0;
 let c70 := D.not c69;
 let c71 := D.cnd c69 true (D.ge c68 (D.ilen mx));
 let c72 := D.not c71;
 let c73 := D.get mx (D.nat c68) (D.nil Int);
 let c74 := c67.snd;
 let c75 := c74.snd;
 let c76 := c75.snd;
 let c77 := D.cnd c71 true (D.ne c76 (D.get c73 c49 0));
 let c78 := D.not c77;
 let c79 := D.cnd c77 true (D.lt c76 0);
 let c80 := D.not c79;
 let c81 := D.cnd c79 true (D.ge c76 c50);
 let c82 := D.not c81;
 let c83 := c75.fst;
 let c84 := D.cnd c81 true (D.lt c83 c5);
 let c85 := D.not c84;
 let c86 := D.cnd c84 true (D.lt c83 c74.fst);
 let c87 := D.not c86;
 let c88 := D.get c18 (D.nat c65) c28;
 let c89 := (D.get hs (D.nat c76) c51).snd.snd;
 let c90 := D.cnd c86 true (D.ne c88.fst c89.fst);
 let c91 := D.not c90;
 let c92 := D.add c83 c89.snd.snd.fst;
 let c93 := D.cnd c90 true (D.ne c88.snd.fst c92); crY c48 x x_4 → inR IntKind.i64 c65 ∧ (c66 = true → D.ile 0 x_4 ∧ D.ilt x_4 c19 ∧ 1 = 1 ∧ 0 = 0 ∧ 1
 = 1 ∧ 1 = 1 ∧ 0 = 0 ∧ (c70 = true → 1 = 1) ∧ (c70 = true → c70 = true → c70 = true) ∧ (c70 = true → 1 = 1) ∧ (c70 = true → 0 = 0) ∧ (c70 = true → c70 = true →
 c70 = true) ∧ (c70 = true → c70 = true → c70 = true) ∧ (c70 = true → c70 = true → c70 = true) ∧ (c70 = true → c70 = true → c70 = true) ∧ (D.and true c70 = true
 → c70 = true) ∧ (c72 = true → 1 = 1) ∧ (c72 = true → c72 = true → c72 = true) ∧ (c72 = true → 1 = 1) ∧ (c72 = true → 0 = 0) ∧ (c72 = true → c72 = true → c72 =
 true) ∧ (c72 = true → 1 = 1) ∧ (c72 = true → c72 = true → c72 = true) ∧ (c72 = true → 1 = 1) ∧ (c72 = true → 0 = 0) ∧ (c72 = true → c72 = true → c72 = true) ∧
 (c72 = true → c72 = true → c72 = true) ∧ (c72 = true → D.ile 0 c68) ∧ (c72 = true → D.ilt c68 (D.ilen mx)) ∧ (c72 = true → c72 = true → c72 = true) ∧
 (c72 = true → 1 = 1) ∧ (c72 = true → c72 = true → c72 = true) ∧ (c72 = true → 1 = 1) ∧ (c72 = true → 0 = 0) ∧ (c72 = true → c72 = true → c72 = true) ∧ (c72 =
 true → c72 = true → c72 = true) ∧ (c72 = true → D.ile 0 c11) ∧ (c72 = true → D.ilt c11 (D.ilen c73)) ∧ (c72 = true → c72 = true → c72 = true) ∧ (c72 =
 true → c72 = true → c72 = true) ∧ (c72 = true → c72 = true → c72 = true) ∧ (D.and true c72 = true → c72 = true) ∧ (c78 = true → 1 = 1) ∧ (c78 = true → c78 =
 true → c78 = true) ∧ (c78 = true → 1 = 1) ∧ (c78 = true → 0 = 0) ∧ (c78 = true → c78 = true → c78 = true) ∧ (D.and true c78 = true → c78 = true) ∧ (c80 = true
 → 1 = 1) ∧ (c80 = true → c80 = true → c80 = true) ∧ (c80 = true → 1 = 1) ∧ (c80 = true → 0 = 0) ∧ (c80 = true → c80 = true → c80 = true) ∧ (c80 = true → c80 =
 true → c80 = true) ∧ (c80 = true → c80 = true → c80 = true) ∧ (c80 = true → c80 = true → c80 = true) ∧ (D.and true c80 = true → c80 = true) ∧ (c82 = true → 1 =
 1) ∧ (c82 = true → c82 = true → c82 = true) ∧ (c82 = true → 1 = 1) ∧ (c82 = true → 0 = 0) ∧ (c82 = true → c82 = true → c82 = true) ∧ (c82 = true → c82 = true →
 c82 = true) ∧ (D.and true c82 = true → c82 = true) ∧ (c85 = true → 1 = 1) ∧ (c85 = true → c85 = true → c85 = true) ∧ (c85 = true → 1 = 1) ∧ (c85 = true → 0 =
 0) ∧ (c85 = true → 1 = 1) ∧ (c85 = true → c85 = true → c85 = true) ∧ (c85 = true → 1 = 1) ∧ (c85 = true → 0 = 0) ∧ (c85 = true → c85 = true → c85 = true) ∧
 (c85 = true → c85 = true → c85 = true) ∧ (D.and true c85 = true → c85 = true) ∧ (c87 = true → c87 = true → c87 = true) ∧ (c87 = true → inR IntKind.i64 c65) ∧
 (c87 = true → c87 = true → c87 = true) ∧ (c87 = true → c87 = true → c87 = true) ∧ (c87 = true → D.ile 0 c65) ∧ (c87 = true → D.ilt c65 c19) ∧ (c87 =
 true → c87 = true → c87 = true) ∧ (c87 = true → c87 = true → c87 = true) ∧ (c87 = true → c87 = true → c87 = true) ∧ (c87 = true → 1 = 1) ∧ (c87 = true → c87 =
 true → c87 = true) ∧ (c87 = true → 1 = 1) ∧ (c87 = true → 0 = 0) ∧ (c87 = true → c87 = true → c87 = true) ∧ (c87 = true → c87 = true → c87 = true) ∧ (c87 =
 true → D.ile 0 c76) ∧ (c87 = true → D.ilt c76 c50) ∧ (c87 = true → c87 = true → c87 = true) ∧ (c87 = true → c87 = true → c87 = true) ∧ (c87 = true →
 c87 = true → c87 = true) ∧ (c87 = true → c87 = true → c87 = true) ∧ (D.and true c87 = true → c87 = true) ∧ (c91 = true → c91 = true → c91 = true) ∧ (c91 = true
 → inR IntKind.i64 c65) ∧ (c91 = true → c91 = true → c91 = true) ∧ (c91 = true → c91 = true → c91 = true) ∧ (c91 = true → D.ile 0 c65) ∧ (c91 = true →
 D.ilt c65 c19) ∧ (c91 = true → c91 = true → c91 = true) ∧ (c91 = true → c91 = true → c91 = true) ∧ (c91 = true → 1 = 1) ∧ (c91 = true → c91 = true → c91 =
 true) ∧ (c91 = true → 1 = 1) ∧ (c91 = true → 0 = 0) ∧ (c91 = true → c91 = true → c91 = true) ∧ (c91 = true → 1 = 1) ∧ (c91 = true → c91 = true → c91 = true) ∧
 (c91 = true → 1 = 1) ∧ (c91 = true → 0 = 0) ∧ (c91 = true → c91 = true → c91 = true) ∧ (c91 = true → c91 = true → c91 = true) ∧ (c91 = true → D.ile 0
 c76) ∧ (c91 = true → D.ilt c76 c50) ∧ (c91 = true → c91 = true → c91 = true) ∧ (c91 = true → c91 = true → c91 = true) ∧ (c91 = true → c91 = true → c91 = true)
 ∧ (c91 = true → c91 = true → c91 = true) ∧ (c91 = true → inR IntKind.i64 c92) ∧ (c91 = true → c91 = true → c91 = true) ∧ (c91 = true → c91 = true → c91 = true)
 ∧ (D.and true c91 = true → c91 = true) ∧ (c93 = true → false = true ∧ True) ∧ (c93 = false → inR IntKind.i64 c65 ∧ ∃ y, crY c48 x y ∧ (cs = cs ∧ ns = ns ∧ os
 = os ∧ fs = fs ∧ ls = ls ∧ ks = ks ∧ p1 = p1 ∧ p2 = p2 ∧ nx = nx ∧ dy = dy ∧ cs2 = cs2 ∧ ns2 = ns2 ∧ os2 = os2 ∧ gs = gs ∧ hs = hs ∧ ks2 = ks2 ∧ q1 = q1 ∧ q2 =
 q2 ∧ mx = mx ∧ dz = dz ∧ a = a ∧ b = b ∧ c = c ∧ d = d ∧ c1 = c1 ∧ c43 = c43 ∧ c2 = c2 ∧ c44 = c44 ∧ true = true ∧ 1 = 1 ∧ 0 = 0 ∧ 0 = 0 ∧ c5 = c5 ∧ c18 = c18
 ∧ c16 = c16 ∧ c45 = c45 ∧ c22 = c22 ∧ x = x ∧ c65 = y ∧ true = true ∧ cs = cs ∧ ns = ns ∧ os = os ∧ fs = fs ∧ ls = ls ∧ ks = ks ∧ p1 = p1 ∧ p2 = p2 ∧ nx = nx ∧
 dy = dy ∧ cs2 = cs2 ∧ ns2 = ns2 ∧ os2 = os2 ∧ gs = gs ∧ hs = hs ∧ ks2 = ks2 ∧ q1 = q1 ∧ q2 = q2 ∧ mx = mx ∧ dz = dz ∧ c3 = c3 ∧ c4 = c4 ∧ cs = cs ∧ ns = ns ∧
 os = os ∧ fs = fs ∧ ls = ls ∧ ks = ks ∧ a = a ∧ b = b ∧ c = c ∧ c7 = c7 ∧ c9 = c9 ∧ c11 = c11 ∧ c13 = c13 ∧ c14 = c14 ∧ d = d ∧ d = d ∧ c5 = c5 ∧ c18 = c18 ∧
 c16 = c16 ∧ cs = cs ∧ ns = ns ∧ os = os ∧ fs = fs ∧ ls = ls ∧ ks = ks ∧ p1 = p1 ∧ p2 = p2 ∧ nx = nx ∧ dy = dy ∧ cs2 = cs2 ∧ ns2 = ns2 ∧ os2 = os2 ∧ gs = gs ∧
 hs = hs ∧ ks2 = ks2 ∧ q1 = q1 ∧ q2 = q2 ∧ mx = mx ∧ dz = dz ∧ c5 = c5 ∧ c7 = c7 ∧ c9 = c9 ∧ c11 = c11 ∧ c13 = c13 ∧ c14 = c14 ∧ c18 = c18 ∧ c16 = c16 ∧ c18 =
 c18 ∧ c16 = c16 ∧ c45 = c45 ∧ c22 = c22 ∧ cs = cs ∧ ns = ns ∧ os = os ∧ fs = fs ∧ ls = ls ∧ ks = ks ∧ c42 = c42 ∧ nx = nx ∧ 1 = 1 ∧ 0 = 0 ∧ 1 = 1 ∧ c9 = c9 ∧ 1
 = 1 ∧ 0 = 0 ∧ 2 = 2 ∧ c11 = c11 ∧ 1 = 1 ∧ 0 = 0 ∧ 4 = 4 ∧ c14 = c14 ∧ c45 = c45 ∧ c22 = c22 ∧ c45 = c45 ∧ c22 = c22 ∧ c16 = c16 ∧ c17 = c17 ∧ c22 = c22 ∧ c23 =
 c23 ∧ c23 = c23 ∧ c25 = c25 ∧ c25 = c25 ∧ c30 = c30 ∧ c30 = c30 ∧ c33 = c33 ∧ c33 = c33 ∧ c35 = c35 ∧ c35 = c35 ∧ c38 = c38 ∧ c38 = c38 ∧ c40 = c40 ∧ x = x ∧
 c53 = c53 ∧ c45 = c45 ∧ c46 = c46 ∧ c54 = c54 ∧ c54 = c54 ∧ c57 = c57 ∧ c18 = c18 ∧ c19 = c19 ∧ x = x ∧ D.le c19 x = D.le c19 x ∧ D.le c19 x = D.le c19 x ∧ c59
 = c59 ∧ c59 = c59 ∧ c61 = c61 ∧ c61 = c61 ∧ c64 = c64 ∧ x = x ∧ c7 = c7 ∧ c9 = c9 ∧ c11 = c11 ∧ c13 = c13 ∧ c14 = c14 ∧ True) ∧ D.nlt (D.nat (D.sub c52 y))
 (D.nat (D.sub c52 x_4)))) ∧ (c66 = false → true = true ∧ True)))))))) :
 evF (mkc KR19) (crA (crW (cs, ns, os, fs, ls, ks) nx a b c) (crT (cs, ns, os, fs, ls, ks) (cs2, ns2, os2, gs, hs, ks2) nx mx a b c d) (D.rem d 100001)) 4 [net cs ns os fs ls ks, .agg [.dat I p1, .dat I p2, .dat M nx, .dat (.sl M) dy], net cs2 ns2 os2 gs hs ks2, .agg [.dat I q1, .dat I q2, .dat M mx, .dat (.sl M) dz], .dat B8 a, .dat B8 b, .dat U32 c, .dat U32 d] [] ⟨u2P a b ∧ w1P c ∧ w1P d, .dat .bool true, []⟩ := @of_eq _ _ (by kernel_rfl) hvc
theorem way_not1 {n : Net} {nx : List (List Int)} {to : Int} (hs : soundF n = true) (ht : tabF n nx = true) (d0 : 0 ≤ to) (d1 : to < n.2.2.2.1.length) : ∀ (k : Nat) (o t : Int), 0 ≤ o → o < n.2.2.2.1.length → 0 ≤ t → t + 960 + k * 95960 ≤ 2000000 → (wayN n nx to k o t).2 ≠ 1
 | k, o, t, o0, o1, t0, hb => by
  by_cases h0 : o = to
  ·rw [way_to k h0]; show (0 : Int) ≠ 1; decide
  ·by_cases h1 : nxt nx o to = -1
   ·rw [way_route k h0 h1]; show (170 : Int) ≠ 1; decide
   ·have hr : 0 ≤ readyF n o t ∧ readyF n o t ≤ t + 960 := by
     obtain ⟨cs, ns, os, fs, ls, ks⟩ := n
     obtain ⟨_, _, _, f1, f2, f3, f4⟩ := off_ok cs ns os fs ls ks (o := o) ⟨sound_noF cs ns os fs ls ks hs, o0, o1⟩
     have e : readyF (cs, ns, os, fs, ls, ks) o t = t + (offAt (cs, ns, os, fs, ls, ks) o).2.2.2.2.1 * (offAt (cs, ns, os, fs, ls, ks) o).2.2.2.2.2.1 := rfl
     have g1 : 0 ≤ (offAt (cs, ns, os, fs, ls, ks) o).2.2.2.2.1 * (offAt (cs, ns, os, fs, ls, ks) o).2.2.2.2.2.1 := Int.mul_nonneg (by omega) (by omega)
     have g2 : (offAt (cs, ns, os, fs, ls, ks) o).2.2.2.2.1 * (offAt (cs, ns, os, fs, ls, ks) o).2.2.2.2.2.1 ≤ 4 * 240 := Int.mul_le_mul f2 f4 (by omega) (by omega)
     omega
    have hk : timeOk (readyF n o t) = true := decide_eq_true ⟨hr.1, by omega⟩
    by_cases h2 : depE n (nxt nx o to) (readyF n o t) = 0
    ·cases k with
     | zero => rw [way_full h0 h1 h2]; show (170 : Int) ≠ 1; decide
     | succ k =>
      have hst := step_ok hs ht d0 d1 o0 o1 h1 h2
      have hd : depD n (nxt nx o to) (readyF n o t) ≤ readyF n o t + 90000 := by
       obtain ⟨cs, ns, os, fs, ls, ks⟩ := n
       exact (depart_bnd cs ns os fs ls ks hst.1 h2).2.2.2
      have ih := way_not1 hs ht d0 d1 k (lnTo n (nxt nx o to)) (depD n (nxt nx o to) (readyF n o t) + lnTrav n (nxt nx o to)) hst.2.1.1 hst.2.1.2 (by omega) (by omega)
      rw [way_next k h0 h1 h2]
      unfold preW
      split
      ·show (0 : Int) ≠ 1; decide
      ·exact ih
    ·rw [way_err k h0 h1 h2]
     have e : depE n (nxt nx o to) (readyF n o t) = fstE (calAt n (lnFrom n (nxt nx o to))) (lnAt n (nxt nx o to)) (readyF n o t) := if_pos hk
     show depE n (nxt nx o to) (readyF n o t) ≠ 1
     rw [e]
     unfold fstE nextE
     split <;> decide
theorem Way_not1 {n : Net} {nx : List (List Int)} {o to t : Int} (hs : soundF n = true) (ht : tabF n nx = true) (o0 : 0 ≤ o) (o1 : o < n.2.2.2.1.length) (d0 : 0 ≤ to) (d1 : to < n.2.2.2.1.length) (t0 : 0 ≤ t) (t1 : t ≤ 105000) : WayE n nx o to t ≠ 1 := by
 have hk : wayOk n nx o to t = true := wayOk_iff.2 ⟨⟨⟨⟨o0, o1⟩, ⟨d0, d1⟩⟩, ⟨t0, by omega⟩⟩, hs, ht⟩
 have e : WayE n nx o to t = wayE n nx o to t := if_pos hk
 rw [e]
 exact way_not1 hs ht d0 d1 19 o t o0 o1 t0 (by omega)
theorem carry_take {n m : Net} {nx mx : List (List Int)} {t : Int} {x : ByteArray × Int × Int × Int × Int} {i : Nat} (C : CarryIs n m nx mx t x i) : (carryL n m nx mx t x).take i = (oldW n nx x).take i := by
 have h1 := C.len
 have h2 := C.lt
 refine List.ext_getElem (by rw [List.length_take, List.length_take]; omega) fun j hj1 hj2 => ?_
 rw [List.length_take] at hj1 hj2
 have g := C.get j (by omega)
 rw [if_pos (by omega)] at g
 have e : ∀ (l : List Stop) (h : j < l.length), sG l j = l[j] := fun l h => by show l.getD j _ = _; rw [List.getD_eq_getElem?_getD, List.getElem?_eq_getElem h, Option.getD_some]
 rw [e _ (by omega), e _ (by omega)] at g
 rw [List.getElem_take, List.getElem_take]; exact g
theorem t_lcarries (a b c d : Int) (p1 p2 : Int) (nx : List (List Int)) (dy : List (List (List Int))) (cs : LC) (ns os : LB) (fs : List Off) (ls : List Line) (ks : List Cla) (q1 q2 : Int) (mx : List (List Int)) (dz : List (List (List Int))) (cs2 : List (Int × List Bool × List Int)) (ns2 os2 : List ByteArray) (gs : List Off) (hs : List Line) (ks2 : List Cla) : SoundC Tryz.prog G0 4 [net cs ns os fs ls ks, .agg [.dat I p1, .dat I p2, .dat M nx, .dat (.sl M) dy], net cs2 ns2 os2 gs hs ks2, .agg [.dat I q1, .dat I q2, .dat M mx, .dat (.sl M) dz], .dat B8 a, .dat B8 b, .dat U32 c, .dat U32 d] [] ⟨u2P a b ∧ w1P c ∧ w1P d, .dat .bool true, []⟩ := by
 refine sound_of_ev (c := mkc KR19) KSR19 KI0s hm (vc_lcarries a b c d p1 p2 nx dy cs ns os fs ls ks q1 q2 mx dz cs2 ns2 os2 gs hs ks2 ⟨rfl, fun hp => ?_⟩)
 simp only [cnd_or, cnd_and, D.and, D.not, Bool.true_and, Bool.and_true, eq_self, true_and, and_true, imp_self, implies_true, Bool.not_eq_true', Bool.or_eq_true, Bool.or_eq_false_iff, Bool.not_eq_false', Bool.and_eq_true, Bool.and_eq_false_imp, exists_eq_right', D.nil, D.eq, D.ne, D.lt, D.le, D.ge, D.ilen, D.ile, D.ilt, D.ine, D.nlt, D.sub, D.add, D.nat, D.get, D.part, decide_eq_true_eq, decide_eq_false_iff_not, beq_iff_eq, bne_iff_ne, beq_eq_false_iff_ne, bne_eq_false_iff_eq]
 intro hu
 obtain ⟨⟨a0, a1, b0, b1⟩, ⟨c0, c1⟩, ⟨d0, d1⟩⟩ := hp
 have L := lu_of hu
 have hpo : postP (cs, ns, os, fs, ls, ks) a b c := ⟨L.pos, a0, a1, b0, b1, c0, c1⟩
 refine ⟨hpo, ?_⟩
 obtain ⟨⟨o0, o1⟩, ⟨e0, e1⟩, t0, t1⟩ := post_bnd hpo
 generalize hwT : crT (cs, ns, os, fs, ls, ks) (cs2, ns2, os2, gs, hs, ks2) nx mx a b c d = lT
 generalize hwW : crW (cs, ns, os, fs, ls, ks) nx a b c = lW
 unfold crT at hwT
 unfold crW at hwW
 generalize postF (cs, ns, os, fs, ls, ks) a b c = x at *
 obtain ⟨x1, x2, x3, x4, x5⟩ := x
 simp only at o0 o1 e0 e1 t0 t1 hwT hwW ⊢
 rw [hwT, hwW]
 have hrm := tmod_bnd (a := d) (k := 100001) (by omega) d0
 have hr : 0 ≤ D.rem d 100001 ∧ D.rem d 100001 ≤ 100000 := ⟨hrm.1, by have := hrm.2; show d.tmod 100001 ≤ 100000; omega⟩
 generalize D.rem d 100001 = r at *
 obtain ⟨us, ut⟩ := usF_iff.1 L.un
 obtain ⟨ms, mt⟩ := usF_iff.1 L.um
 have ck := carOk_lu L (x := (x1, x2, x3, x4, x5)) hr.1 (by omega) o0 o1 e0 e1 t0 (by simp only; omega)
 have ll : fs.length = gs.length := L.len
 have hlt : lT.length ≤ 40 := by rw [← hwT]; exact carryL_len
 refine ⟨in_big (by omega), by omega, ⟨L.fn, L.fm⟩, L.fn.2, fun hE => ?_, fun hE => ?_⟩
 ·refine ⟨by rw [← hwT]; unfold carryL; rw [if_neg hE]; rfl, ?_⟩
  by_cases hw : WayE (cs, ns, os, fs, ls, ks) nx x2 x3 x5 = 0
  ·rw [carry_ok ck hw]
   obtain ⟨_, hway, _⟩ := Way_is hw
   obtain ⟨i, q1, q2, q3, q4⟩ := hway.idx r
   have eS : oldS (cs, ns, os, fs, ls, ks) nx r (x1, x2, x3, x4, x5) = sG (WayL (cs, ns, os, fs, ls, ks) nx x2 x3 x5) i := by
    unfold oldS oldI oldW stopG; simp only; rw [q1]; rfl
   obtain ⟨p0, p1⟩ := hway.off us ut e0 e1 o0 o1 q2
   have hb : 0 ≤ (sG (WayL (cs, ns, os, fs, ls, ks) nx x2 x3 x5) i).2.1 ∧ (sG (WayL (cs, ns, os, fs, ls, ks) nx x2 x3 x5) i).2.1 ≤ 105000 := by
    cases i with
    | zero =>
     have : (sG (WayL (cs, ns, os, fs, ls, ks) nx x2 x3 x5) 0).2.1 = x5 := hway.head.2
     omega
    | succ i =>
     have g := hway.gap us ut e0 e1 o0 o1 q2
     have b := q3 i (by omega)
     have h := hway.ord us ut e0 e1 o0 o1 (i := 0) (j := i + 1) (by omega) q2
     have e : (sG (WayL (cs, ns, os, fs, ls, ks) nx x2 x3 x5) 0).2.1 = x5 := hway.head.2
     simp only [sG] at *
     omega
   unfold newE newT
   rw [eS]
   have p1 : (sG (WayL (cs, ns, os, fs, ls, ks) nx x2 x3 x5) i).1 < (fs.length : Int) := p1
   have e1 : x3 < (fs.length : Int) := e1
   exact Way_not1 ms mt p0 (by show _ < (gs.length : Int); omega) e0 (by show x3 < (gs.length : Int); omega) (by omega) (by omega)
  ·rw [carry_bad ck hw]
   exact Way_not1 us ut o0 o1 e0 e1 t0 (by show x5 ≤ 105000; omega)
 ·obtain ⟨i, C⟩ := carry_is hE
  have hw : WayE (cs, ns, os, fs, ls, ks) nx x2 x3 x5 = 0 := (carry_parts hE).2.1
  have eW : oldW (cs, ns, os, fs, ls, ks) nx (x1, x2, x3, x4, x5) = lW := hwW
  have tk := carry_take C
  have clt := C.lt
  have cb := C.bef
  have ca := C.aft
  have co := C.old
  have cn := C.new
  have cl := C.len
  have cg := C.get
  rw [eW] at clt cb ca co cn cg tk
  rw [hwT] at cl cg tk
  generalize newW (cs, ns, os, fs, ls, ks) (cs2, ns2, os2, gs, hs, ks2) nx mx r (x1, x2, x3, x4, x5) = w at *
  simp only at co cn
  have hq := cn.pos
  have hl2 : lW.length ≤ 20 := by rw [← hwW]; exact WayL_len
  have g1 : ∀ j, i ≤ j → j < lT.length → (sG lT j).1 = (sG w (j - i)).1 ∧ (sG lT j).2.2 = (sG w (j - i)).2.2 ∧ ((j = i ∧ (sG lT j).2.1 = (sG lW i).2.1) ∨ (i < j ∧ (sG lT j).2.1 = (sG w (j - i)).2.1)) := fun j h1 h2 => by
   rw [cg j (by omega), if_neg (by omega)]
   by_cases h : j = i
   ·rw [if_pos h, h, Nat.sub_self]; exact ⟨rfl, rfl, .inl ⟨rfl, rfl⟩⟩
   ·rw [if_neg h]; exact ⟨rfl, rfl, .inr ⟨by omega, rfl⟩⟩
  have hz : (sG lT (lT.length - 1)).1 = x3 ∧ (sG lT (lT.length - 1)).2.2 = (-1, -1) := by
   obtain ⟨q1, q2, _⟩ := g1 (lT.length - 1) (by omega) (by omega)
   rcases cn.at (i := w.length - 1) (by omega) with ⟨_, h2, h3⟩ | ⟨h, _⟩
   ·rw [q1, q2, show lT.length - 1 - i = w.length - 1 by omega]; exact ⟨h2, h3⟩
   ·omega
  have hfst : (sG lT 0).1 = x2 ∧ (sG lT 0).2.1 = x5 := by
   have hh := co.head
   rw [cg 0 (by omega)]
   by_cases h : 0 < i
   ·rw [if_pos h]; exact hh
   ·rw [if_neg h, if_pos (by omega)]
    have : i = 0 := by omega
    subst this
    exact ⟨(cn.head.1).trans hh.1, hh.2⟩
  have hti := g1 i (Nat.le_refl _) (by omega)
  rw [Nat.sub_self] at hti
  have hti1 : (sG lT i).1 = (sG lW i).1 := hti.1.trans cn.head.1
  have hti2 : (sG lT i).2.1 = (sG lW i).2.1 := hti.2.2.elim (fun h => h.2) fun h => absurd h.1 (Nat.lt_irrefl _)
  have eL : ((lT.length : Int) - 1).toNat = lT.length - 1 := by omega
  have hl22 : (lT.getD (lT.length - 1) (0, 0, 0, 0)).2.2.1 = -1 ∧ (lT.getD (lT.length - 1) (0, 0, 0, 0)).2.2.2 = -1 := by
   have h := hz.2
   simp only [sG] at h
   rw [h]; exact ⟨rfl, rfl⟩
  have hl1 : (lT.getD (lT.length - 1) (0, 0, 0, 0)).1 = x3 := hz.1
  have hf1 : (lT.getD 0 (0, 0, 0, 0)).1 = x2 := hfst.1
  have hf2 : (lT.getD 0 (0, 0, 0, 0)).2.1 = x5 := hfst.2
  rw [eL, hl1, hl22.1, hl22.2, show Int.toNat 0 = 0 from rfl, hf1, hf2]
  refine ⟨fun _ => in_big (by omega), fun _ => by omega, fun _ => by omega, fun _ => in_big (by omega), fun _ => by omega, fun _ => by omega, fun _ => in_big (by omega), fun _ => by omega, fun _ => by omega, fun _ => by omega, fun _ => by omega, fun _ => by omega, fun _ => by omega, fun h => ?_, fun _ => ⟨⟨Int.le_refl _, by omega, fun j h => by omega⟩, fun y hy => ⟨in_big (by have := hy.1; have := hy.2.1; omega), fun _ => hy.1, fun _ => hy.2.1, fun h => ?_, fun hx => ?_⟩⟩⟩
  ·exfalso
   rcases h with (((((h | h) | h) | h) | h) | h) | h
   ·exact h hw
   ·omega
   ·exact h rfl
   ·exact h rfl
   ·exact h rfl
   ·exact h rfl
   ·exact h rfl
  ·have y0 := hy.1
   refine ⟨in_big (by omega), y + 1, ⟨by omega, h.1, fun j hj => ?_⟩, rfl, by omega⟩
   by_cases e : (j : Int) < y
   ·exact hy.2.2 j e
   ·have : j = y.toNat := by omega
    rw [this]; exact h.2
  ·have y0 := hy.1
   have y1 := hy.2.1
   have ey : y = i := by
    rcases Int.lt_trichotomy y i with h | h | h
    ·have := cb y.toNat (by omega)
     exact absurd this (hx (by omega))
    ·exact h
    ·have := hy.2.2 i h
     simp only [sG] at ca
     omega
   subst ey
   rw [Int.toNat_natCast, List.drop_zero, List.drop_zero, tk]
   simp only [sG] at hti1 hti2
   rw [hti1, hti2]
   refine ⟨fun _ => by omega, fun _ => by omega, fun _ => by omega, fun _ => by omega, fun _ => by omega, fun _ => by omega, fun _ => by omega, fun _ => by omega, fun _ => by omega, fun _ => by omega, fun _ => by omega, fun _ => by omega, fun _ => by omega, fun _ => by omega, fun _ => by unfold sFits; rw [List.length_take]; omega, fun h => ?_, fun _ => ⟨⟨Int.le_refl _, by omega⟩, fun v hv => ?_⟩⟩
   ·exfalso
    rcases h with ((h | h) | h) | h
    ·omega
    ·exact h rfl
    ·exact h rfl
    ·simp [sameSt] at h
   ·obtain ⟨v0, v1⟩ := hv
    obtain ⟨j, rfl⟩ : ∃ j : Nat, v = j := ⟨v.toNat, by omega⟩
    rw [Int.toNat_natCast]
    have e1' : x3 < ((cs2, ns2, os2, gs, hs, ks2) : Net).2.2.2.1.length := by
     have h : x3 < (fs.length : Int) := e1
     show x3 < (gs.length : Int); omega
    obtain ⟨p0, p1⟩ := co.off us ut e0 e1 o0 o1 clt
    have p1' : (sG lW i).1 < ((cs2, ns2, os2, gs, hs, ks2) : Net).2.2.2.1.length := by
     have h : (sG lW i).1 < (fs.length : Int) := p1
     show _ < (gs.length : Int); omega
    refine ⟨in_big (by omega), fun hj => ?_⟩
    have hij : i ≤ j := by omega
    obtain ⟨s1, s2, s3⟩ := g1 j hij (by omega)
    obtain ⟨n1, n2, n3⟩ := g1 (j + 1) (by omega) (by omega)
    obtain ⟨f0, f1⟩ := cn.off ms mt e0 e1' p0 p1' (i := j - i) (by omega)
    have hg := cn.gap ms mt e0 e1' p0 p1' (i := j - i) (by omega)
    have hd := cn.head
    have harr : r ≤ (sG w (j - i)).2.1 ∧ (sG lW i).2.1 ≤ (sG w (j - i)).2.1 := by
     have h0 : (sG w 0).2.1 = max (sG lW i).2.1 r := hd.2
     rcases Nat.eq_zero_or_pos (j - i) with h | h
     ·rw [h]; omega
     ·have := cn.ord ms mt e0 e1' p0 p1' h (by omega)
      omega
    rcases cn.at (i := j - i) (by omega) with ⟨h, _⟩ | ⟨_, _, h3, h4, _, h6, h7, h8⟩
    ·omega
    ·rw [show j + 1 - i = j - i + 1 by omega] at n1 n2 n3
     rw [show ((j : Int) + 1).toNat = j + 1 by omega]
     simp only [sG] at s1 s2 s3 n1 n2 n3 f0 f1 hg harr
     have eN : (lT.getD (j + 1) (0, 0, 0, 0)).2.1 = (w.getD (j - i + 1) (0, 0, 0, 0)).2.1 := by
      rcases n3 with h | h
      ·omega
      ·exact h.2
     have eD : (lT.getD j (0, 0, 0, 0)).2.2.1 = (w.getD (j - i) (0, 0, 0, 0)).2.2.1 := by rw [s2]
     have eLn : (lT.getD j (0, 0, 0, 0)).2.2.2 = (w.getD (j - i) (0, 0, 0, 0)).2.2.2 := by rw [s2]
     have eA : (lT.getD j (0, 0, 0, 0)).2.1 ≤ (w.getD (j - i) (0, 0, 0, 0)).2.1 := by
      rcases s3 with h | h
      ·rw [h.2]; exact harr.2
      ·rw [h.2]; exact Int.le_refl _
     rw [s1, eD, eLn, n1, eN]
     obtain ⟨c1', c2', _⟩ := tab_cell cs2 ns2 os2 gs hs ks2 mt f0 f1 e0 e1'
     have hlp := hg.2.2.2.2
     have l0 : 0 ≤ (w.getD (j - i) (0, 0, 0, 0)).2.2.2 := hlp.2.1
     have l1 : (w.getD (j - i) (0, 0, 0, 0)).2.2.2 < (hs.length : Int) := hlp.2.2
     have hn : (mx.getD (w.getD (j - i) (0, 0, 0, 0)).1.toNat []).getD x3.toNat 0 = (w.getD (j - i) (0, 0, 0, 0)).2.2.2 := h3.symm
     have h7 : (w.getD (j - i + 1) (0, 0, 0, 0)).1 = (hs.getD (w.getD (j - i) (0, 0, 0, 0)).2.2.2.toNat (⟨#[]⟩, 0, 0, 0, 0, 0)).2.2.1 := h7
     have h8 : (w.getD (j - i + 1) (0, 0, 0, 0)).2.1 = (w.getD (j - i) (0, 0, 0, 0)).2.2.1 + (hs.getD (w.getD (j - i) (0, 0, 0, 0)).2.2.2.toNat (⟨#[]⟩, 0, 0, 0, 0, 0)).2.2.2.2.1 := h8
     have f1 : (w.getD (j - i) (0, 0, 0, 0)).1 < (gs.length : Int) := f1
     have e1'' : x3 < (gs.length : Int) := e1'
     refine ⟨by omega, by omega, fun _ => f0, fun _ => by omega, fun _ => e0, fun _ => by omega, fun _ => in_big (by omega), fun _ => by omega, fun _ => hj, fun _ => l0, fun _ => l1, fun _ => in_big (by omega), fun _ => by omega, fun _ => hj, fun _ => l0, fun _ => l1, fun _ => in_big (by omega), fun h => ?_, fun _ => ⟨in_big (by omega), (j : Int) + 1, ⟨by omega, by omega⟩, rfl, by omega⟩⟩
     exfalso
     rcases h with (((((((h | h) | h) | h) | h) | h) | h) | h) | h
     ·omega
     ·omega
     ·exact h hn.symm
     ·omega
     ·omega
     ·omega
     ·omega
     ·exact h h7
     ·exact h h8
end Go.Eng.Sv
