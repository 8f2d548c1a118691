/- PeMm3m -/
import Derived.Test.YtgphkkpblecfgaaY22
import Derived.Test.YtgphkkpblecfgaaMm2m
import Derived.Test.YtgphkkpblecfgaaMxSm
set_option linter.unusedSimpArgs false
set_option linter.unusedVariables false
set_option maxRecDepth 100000
namespace Go.Eng.Mp
open Go.Proofs
open Go.Eng.Sv (I R M G0 KI0)
open Go.Eng.Sv (KI0s hm)
noncomputable def one1 (i j : Int) : Int := bif decide (i = j) then 0 else -1099511627776
noncomputable def oneF (n : Int) : List (List Int) := buildF one1 n
noncomputable def tabTo (g : Int → Int → Int) (n k : Int) : List (List Int) := (buildF g n).take k.toNat
noncomputable def rTo (g : Int → Int → Int) (n i k : Int) : List Int := ((List.range n.toNat).map fun j : Nat => g i j).take k.toNat
noncomputable def small (n : Int) : Prop := n ≤ 1000000
noncomputable def stp (m b : List (List Int)) (i j k x : Int) : Int := if infF (at2 m i k) = false ∧ at2 b k j > -1099511627776 then max x (at2 m i k + at2 b k j) else x
noncomputable def cellN (m b : List (List Int)) (i j : Int) : Nat → Int
  | 0 => one1 i j
  | k + 1 => stp m b i j k (cellN m b i j k)
noncomputable def cellK (m b : List (List Int)) (i j k : Int) : Int := cellN m b i j k.toNat
noncomputable def nextG (m b : List (List Int)) (n a c k : Int) (i j : Int) : Int := if i < a ∨ (i = a ∧ j < c) then cellK m b i j n else if i = a ∧ j = c then cellK m b i j k else one1 i j
noncomputable def nextT (m b : List (List Int)) (n a c k : Int) : List (List Int) := buildF (nextG m b n a c k) n
noncomputable def bestN (m : List (List Int)) : Nat → List (List Int)
  | 0 => oneF m.length
  | r + 1 => buildF (fun i j => cellK m (bestN m r) i j m.length) m.length
noncomputable def bestK (m : List (List Int)) (r : Int) : List (List Int) := bestN m r.toNat
noncomputable def rstarF (m : List (List Int)) : List (List Int) × Int := if validF m = true then match (List.range (m.length + 1)).find? (fun r => decide (bestN m (r + 1) = bestN m r)) with
  | some r => (bestN m r, 0)
  | none => ([], 120) else ([], 1)
noncomputable def rstarS (m : List (List Int)) : List (List Int) := (rstarF m).1
noncomputable def rstarE (m : List (List Int)) : Int := (rstarF m).2
theorem tabTo_len {g : Int → Int → Int} {n k : Int} (h : upto k n) : (tabTo g n k).length = k.toNat := by
  have := h.1; have := h.2
  simp only [tabTo, buildF, List.length_take, List.length_map, List.length_range]; omega
theorem rTo_len {g : Int → Int → Int} {n i k : Int} (h : upto k n) : (rTo g n i k).length = k.toNat := by
  have := h.1; have := h.2
  simp only [rTo, List.length_take, List.length_map, List.length_range]; omega
theorem rTo_zero (g : Int → Int → Int) (n i : Int) : rTo g n i 0 = [] := by simp [rTo]
theorem tabTo_zero (g : Int → Int → Int) (n : Int) : tabTo g n 0 = [] := by simp [tabTo]
theorem rTo_succ {g : Int → Int → Int} {n i k : Int} (h0 : 0 ≤ k) (hk : k < n) : rTo g n i (k + 1) = rTo g n i k ++ [g i k] := by
  unfold rTo
  rw [show (k + 1).toNat = k.toNat + 1 by omega, take_succ_getD _ 0 _ (by simp only [List.length_map, List.length_range]; omega)]
  congr 2
  rw [List.getD_eq_getElem?_getD, List.getElem?_map, List.getElem?_range (by omega)]
  simp [Int.toNat_of_nonneg h0]
theorem rTo_end {g : Int → Int → Int} {n i k : Int} (h : upto k n) (hk : ¬ k < n) : rTo g n i k = rTo g n i n := by
  have := h.1; have := h.2
  unfold rTo; rw [show k.toNat = n.toNat by omega]
theorem tabTo_succ {g : Int → Int → Int} {n k y : Int} (h0 : 0 ≤ k) (hk : k < n) (hy : upto y n) (hy2 : ¬ y < n) : tabTo g n (k + 1) = tabTo g n k ++ [rTo g n k y] := by
  rw [rTo_end hy hy2]
  unfold tabTo
  rw [show (k + 1).toNat = k.toNat + 1 by omega, take_succ_getD _ [] _ (by simp only [buildF, List.length_map, List.length_range]; omega)]
  congr 2
  unfold buildF rTo
  rw [List.getD_eq_getElem?_getD, List.getElem?_map, List.getElem?_range (by omega), List.take_of_length_le (by simp)]
  simp [Int.toNat_of_nonneg h0]
theorem tabTo_end {g : Int → Int → Int} {n k : Int} (h : upto k n) (hk : ¬ k < n) : tabTo g n k = buildF g n := by
  have := h.1; have := h.2
  unfold tabTo
  rw [List.take_of_length_le]
  simp only [buildF, List.length_map, List.length_range]; omega
theorem sq_ext {n : Nat} {m m' : List (List Int)} (h : Sq n m) (h' : Sq n m') (e : ∀ i j : Int, 0 ≤ i → i < n → 0 ≤ j → j < n → at2 m i j = at2 m' i j) : m = m' := by
  refine List.ext_getElem (by rw [h.len, h'.len]) fun i hi hi' => ?_
  have hin : i < n := by rw [← h.len]; exact hi
  have r := h.row i (by omega) (by omega)
  have r' := h'.row i (by omega) (by omega)
  have q : m.getD i [] = m[i] := by rw [List.getD_eq_getElem?_getD, List.getElem?_eq_getElem hi]; rfl
  have q' : m'.getD i [] = m'[i] := by rw [List.getD_eq_getElem?_getD, List.getElem?_eq_getElem hi']; rfl
  simp only [Int.toNat_natCast, q, q'] at r r'
  refine List.ext_getElem (by rw [r, r']) fun j hj hj' => ?_
  have := e i j (by omega) (by omega) (by omega) (by omega)
  simp only [at2, Int.toNat_natCast, q, q', List.getD_eq_getElem?_getD, List.getElem?_eq_getElem hj, List.getElem?_eq_getElem hj', Option.getD_some] at this
  exact this
section
variable {m a b : List (List Int)} {n : Nat} {t : Int}
theorem mat_ext (ha : Sq n a) (hb : Sq n b) (ca : ∀ i j : Int, 0 ≤ i → i < n → 0 ≤ j → j < n → cleanE (at2 a i j)) (cb : ∀ i j : Int, 0 ≤ i → i < n → 0 ≤ j → j < n → cleanE (at2 b i j))
    (h : ∀ z i j : Int, 0 ≤ i → i < n → 0 ≤ j → j < n → (Mp.le z (at2 a i j) ↔ Mp.le z (at2 b i j))) : a = b :=
  sq_ext ha hb fun i j h0 hi h1 hj => ext_le (ca i j h0 hi h1 hj) (cb i j h0 hi h1 hj) fun z => h z i j h0 hi h1 hj
theorem le_one {z i j : Int} : Mp.le z (one1 i j) ↔ i = j ∧ z ≤ 0 := by
  by_cases h : i = j
  · simp [one1, h, le, infF]
  · simp [one1, h, le, infF]
theorem one_clean (i j : Int) : cleanE (one1 i j) := by
  by_cases h : i = j
  · simp [one1, h, cleanE, infF]
  · simp [one1, h, cleanE, infF]
theorem W.cons {k : Nat} {i j z : Int} (h : W m n n (k + 1) i j z) : ∃ l u v, In n l ∧ le u (at2 m i l) ∧ W m n n k l j v ∧ z ≤ u + v := by
  obtain ⟨p, h1, h2, h3, h4, h5⟩ := h
  have h5' : PW m p (1 + k) z := by rw [Nat.add_comm]; exact h5
  obtain ⟨u, v, q1, q2, q3⟩ := PW.split 1 k h5'
  obtain ⟨u0, u1, r1, r2, r3⟩ := q1
  have r1 : u0 ≤ 0 := r1
  simp only [Nat.zero_add, h1] at r2
  exact ⟨p 1, u1, v, h3 1 (by omega), r2, ⟨fun t => p (1 + t), rfl, by show p (1 + k) = j; rw [Nat.add_comm]; exact h2, fun r hr => h3 _ (by omega), fun r r1 r2 => (h3 _ (by omega)).2, q2⟩, by omega⟩
theorem W.pow {k : Nat} {i u : Int} (h : W m n n k i i u) : ∀ r : Nat, ∃ k', W m n n k' i i (r * u)
  | 0 => ⟨0, W.zero h.ins.1 (by simp)⟩
  | r + 1 => by
    obtain ⟨k', w⟩ := W.pow h r
    refine ⟨k' + k, (w.trans' h).down ?_⟩
    rw [Int.natCast_add, Int.add_mul]; simp
theorem W.zero_iff {i j z : Int} (hi : In n i) : W m n n 0 i j z ↔ i = j ∧ z ≤ 0 := by
  constructor
  · rintro ⟨p, h1, h2, h3, h4, h5⟩; exact ⟨h1.symm.trans h2, h5⟩
  · rintro ⟨rfl, h⟩; exact W.zero hi h

theorem stp_eq {i j k x : Int} (hx : cleanE x) (hb : cleanE (at2 b k j)) (hs : infF (at2 m i k) = false → infF (at2 b k j) = false → -549755813888 < at2 m i k + at2 b k j) : stp m b i j k x = plusF x (timesF (at2 m i k) (at2 b k j)) := by
  unfold stp timesF
  cases hm : infF (at2 m i k) with
  | true =>
    simp only [Bool.true_eq_false, false_and, if_false, Bool.true_or, cond_true]
    unfold plusF
    rcases hx with rfl | hx
    · rfl
    · have := infF_false.1 hx
      simp only [hx, Bool.false_and, cond_false]; omega
  | false =>
    rcases hb with hb | hb
    · have h0 : infF (-1099511627776) = true := rfl
      simp only [hb, h0, Bool.or_true, cond_true, true_and]
      rw [if_neg (by omega)]
      unfold plusF
      rcases hx with rfl | hx
      · rfl
      · have := infF_false.1 hx
        simp only [hx, Bool.false_and, cond_false]; omega
    · have h1 := infF_false.1 hb
      have h2 := hs hm hb
      rw [if_pos ⟨rfl, by omega⟩]
      simp only [hb, Bool.or_false, cond_false]
      have h3 : infF (at2 m i k + at2 b k j) = false := infF_false.2 h2
      unfold plusF
      simp only [h3, Bool.and_false, cond_false]
theorem cell_spec {i j : Int} {K : Nat} (hc : ∀ l : Nat, l < K → cleanE (at2 b l j)) (hs : ∀ l : Nat, l < K → infF (at2 m i l) = false → infF (at2 b l j) = false → -549755813888 < at2 m i l + at2 b l j) :
    ∀ k : Nat, k ≤ K → cleanE (cellN m b i j k) ∧ ∀ z, le z (cellN m b i j k) ↔ le z (one1 i j) ∨ ∃ l : Nat, l < k ∧ ∃ u v, le u (at2 m i l) ∧ le v (at2 b l j) ∧ z ≤ u + v
  | 0, _ => ⟨one_clean i j, fun z => ⟨.inl, fun h => by
      rcases h with h | ⟨l, hl, _⟩
      · exact h
      · omega⟩⟩
  | k + 1, hk => by
    obtain ⟨h1, h2⟩ := cell_spec hc hs k (by omega)
    have e : cellN m b i j (k + 1) = plusF (cellN m b i j k) (timesF (at2 m i k) (at2 b k j)) := stp_eq h1 (hc k (by omega)) (hs k (by omega))
    rw [e]
    refine ⟨clean_plus _ _, fun z => ?_⟩
    rw [le_plus, h2, le_times (hs k (by omega))]
    constructor
    · rintro ((h | ⟨l, hl, q⟩) | q)
      · exact .inl h
      · exact .inr ⟨l, by omega, q⟩
      · exact .inr ⟨k, by omega, q⟩
    · rintro (h | ⟨l, hl, q⟩)
      · exact .inl (.inl h)
      · by_cases e : l = k
        · subst e; exact .inr q
        · exact .inl (.inr ⟨l, by omega, q⟩)

structure Bst (m : List (List Int)) (n r : Nat) (b : List (List Int)) : Prop where
  sq : Sq n b
  cl : ∀ i j, In n i → In n j → cleanE (at2 b i j)
  sp : ∀ i j z, In n i → In n j → (le z (at2 b i j) ↔ ∃ k, k ≤ r ∧ W m n n k i j z)
theorem Bst.bd {L : Int} {r : Nat} (hm : Bd n L m) (hL : 0 ≤ L) (h : Bst m n r b) {i j : Int} (hi : In n i) (hj : In n j) (hf : infF (at2 b i j) = false) : -(r * L) ≤ at2 b i j ∧ at2 b i j ≤ r * L := by
  obtain ⟨k, hk, w⟩ := (h.sp i j _ hi hj).1 (le_self hf)
  have h1 : (k : Int) * L ≤ r * L := Int.mul_le_mul_of_nonneg_right (by omega) hL
  have := w.high hm
  have := ((h.sp i j _ hi hj).2 ⟨k, hk, w.low hm⟩).2
  omega
theorem Bst.sum {L : Int} {r : Nat} (hm : Bd n L m) (hL : 0 ≤ L) (hB : (r + 1 : Int) * L ≤ 100000000000) (h : Bst m n r b) {i l j : Int} (hi : In n i) (hl : In n l) (hj : In n j) (h1 : infF (at2 m i l) = false) (h2 : infF (at2 b l j) = false) :
    -100000000000 ≤ at2 m i l + at2 b l j ∧ at2 m i l + at2 b l j ≤ 100000000000 := by
  have g1 := hm.el i l hi.1 hi.2 hl.1 hl.2 h1
  have g2 := h.bd hm hL hl hj h2
  rw [Int.add_mul, Int.one_mul] at hB
  omega
theorem best_zero (hl : m.length = n) : Bst m n 0 (bestN m 0) :=
  ⟨by show Sq n (oneF m.length); rw [hl]; exact buildF_sq _ _, fun i j hi hj => by
    show cleanE (at2 (oneF m.length) i j)
    rw [hl]; unfold oneF; rw [buildF_at _ _ _ _ hi.1 hi.2 hj.1 hj.2]; exact one_clean _ _, fun i j z hi hj => by
    show le z (at2 (oneF m.length) i j) ↔ _
    rw [hl]; unfold oneF; rw [buildF_at _ _ _ _ hi.1 hi.2 hj.1 hj.2, le_one, ← W.zero_iff (m := m) hi]
    constructor
    · exact fun h => ⟨0, Nat.le_refl _, h⟩
    · rintro ⟨k, hk, h⟩
      have : k = 0 := by omega
      subst this; exact h⟩
theorem best_step {L : Int} {r : Nat} (hm : Bd n L m) (hL : 0 ≤ L) (hB : (r + 1 : Int) * L ≤ 100000000000) (h : Bst m n r (bestN m r)) : Bst m n (r + 1) (bestN m (r + 1)) := by
  have hl := hm.sq.len
  have key : ∀ i j, In n i → In n j → cleanE (cellN m (bestN m r) i j n) ∧ ∀ z, le z (cellN m (bestN m r) i j n) ↔ le z (one1 i j) ∨ ∃ l : Nat, l < n ∧ ∃ u v, le u (at2 m i l) ∧ le v (at2 (bestN m r) l j) ∧ z ≤ u + v := fun i j hi hj =>
    cell_spec (K := n) (fun l hl => h.cl l j ⟨by omega, by omega⟩ hj) (fun l hl h1 h2 => by have := h.sum hm hL hB hi (l := l) ⟨by omega, by omega⟩ hj h1 h2; omega) n (Nat.le_refl _)
  have e : ∀ i j, In n i → In n j → at2 (bestN m (r + 1)) i j = cellN m (bestN m r) i j n := fun i j hi hj => by
    show at2 (buildF (fun i j => cellK m (bestN m r) i j m.length) m.length) i j = _
    rw [hl, buildF_at _ _ _ _ hi.1 hi.2 hj.1 hj.2]; rfl
  refine ⟨by show Sq n (buildF _ m.length); rw [hl]; exact buildF_sq _ _, fun i j hi hj => by rw [e i j hi hj]; exact (key i j hi hj).1, fun i j z hi hj => ?_⟩
  rw [e i j hi hj, (key i j hi hj).2 z, le_one, ← W.zero_iff (m := m) hi]
  constructor
  · rintro (w | ⟨l, hl, u, v, q1, q2, q3⟩)
    · exact ⟨0, by omega, w⟩
    · have il : In n (l : Int) := ⟨by omega, by omega⟩
      obtain ⟨k, hk, w⟩ := (h.sp l j v il hj).1 q2
      exact ⟨1 + k, by omega, ((W.one hi il q1).trans' w).down q3⟩
  · rintro ⟨k, hk, w⟩
    cases k with
    | zero => exact .inl w
    | succ k =>
      obtain ⟨l, u, v, il, q1, q2, q3⟩ := w.cons
      refine .inr ⟨l.toNat, by have := il.1; have := il.2; omega, u, v, ?_, ?_, q3⟩
      · rw [Int.toNat_of_nonneg il.1]; exact q1
      · rw [Int.toNat_of_nonneg il.1]; exact (h.sp l j v il hj).2 ⟨k, by omega, q2⟩
theorem best_all {L : Int} {R : Nat} (hm : Bd n L m) (hL : 0 ≤ L) (hB : (R : Int) * L ≤ 100000000000) : ∀ r, r ≤ R → Bst m n r (bestN m r)
  | 0, _ => best_zero hm.sq.len
  | r + 1, hr => best_step hm hL (by
      have : ((r : Int) + 1) * L ≤ R * L := Int.mul_le_mul_of_nonneg_right (by omega) hL
      omega) (best_all hm hL hB r (by omega))
theorem best_const {r0 : Nat} (h : bestN m (r0 + 1) = bestN m r0) : ∀ d, bestN m (r0 + d) = bestN m r0
  | 0 => rfl
  | d + 1 => by
    have ih := best_const h d
    show buildF (fun i j => cellK m (bestN m (r0 + d)) i j m.length) m.length = _
    rw [ih]; exact h
theorem valid_bd (hv : validF m = true) : Bd m.length 1000000000 m := by
  obtain ⟨sq, h1, h2⟩ := valid_sq hv
  refine ⟨sq, h1, fun i j h0 hi h3 hj hf => ?_⟩
  have := h2 i j h0 hi h3 hj
  simp only [elemF, hf, Bool.false_or, Bool.and_eq_true, decide_eq_true_eq] at this
  omega
theorem rstar_eq (hn : m.length ≤ 20) : rstarS m = starS m ∧ rstarE m = starE m := by
  cases hv : validF m with
  | false => simp [rstarS, rstarE, rstarF, starS, starE, starF, hv]
  | true =>
    have hm := valid_bd hv
    have hB : (m.length : Int) * 1000000000 ≤ 100000000000 := by omega
    have hA := fun r (hr : r ≤ 100) => best_all (R := 100) hm (by omega) (by omega) r hr
    have ht : (if validF m = true then match (List.range (m.length + 1)).find? (fun r => decide (bestN m (r + 1) = bestN m r)) with
        | some r => (bestN m r, (0 : Int))
        | none => ([], 120) else ([], 1)) = rstarF m := rfl
    rw [if_pos hv] at ht
    by_cases hp : NoPos m m.length
    · obtain ⟨e1, e2⟩ := star_ok hm hv (by omega) hB hp
      have same : ∀ r, m.length ≤ r + 1 → r ≤ 100 → bestN m r = starN m m.length := fun r h1 h2 => by
        refine mat_ext (hA r h2).sq (starN_sq m _) (fun i j h0 hi h1 hj => (hA r h2).cl i j ⟨h0, hi⟩ ⟨h1, hj⟩) (fun i j h0 hi h1 hj => starN_clean rfl _ ⟨h0, hi⟩ ⟨h1, hj⟩) fun z i j h0 hi h3 hj => ?_
        rw [(hA r h2).sp i j z ⟨h0, hi⟩ ⟨h3, hj⟩, le_star hm (by omega) hB hp ⟨h0, hi⟩ ⟨h3, hj⟩]
        constructor
        · rintro ⟨k, _, w⟩; exact ⟨k, w⟩
        · rintro ⟨k, w⟩
          obtain ⟨k', g1, g2⟩ := hp.short w
          exact ⟨k', by omega, g2⟩
      cases hf : (List.range (m.length + 1)).find? (fun r => decide (bestN m (r + 1) = bestN m r)) with
      | none =>
        have := List.find?_eq_none.1 hf m.length (List.mem_range.2 (by omega))
        rw [same (m.length + 1) (by omega) (by omega), same m.length (by omega) (by omega)] at this
        simp at this
      | some r =>
        rw [hf] at ht
        have h1 : bestN m (r + 1) = bestN m r := by simpa using List.find?_some hf
        have h2 : r < m.length + 1 := List.mem_range.1 (List.mem_of_find?_eq_some hf)
        have h3 := best_const h1 (m.length - r)
        rw [show r + (m.length - r) = m.length by omega, same m.length (by omega) (by omega)] at h3
        unfold rstarS rstarE
        rw [← ht, e1, e2]
        exact ⟨h3.symm, rfl⟩
    · obtain ⟨e1, e2⟩ := star_no hm hv (by omega) hB hp
      cases hf : (List.range (m.length + 1)).find? (fun r => decide (bestN m (r + 1) = bestN m r)) with
      | none =>
        rw [hf] at ht
        unfold rstarS rstarE
        rw [← ht, e1, e2]
        exact ⟨rfl, rfl⟩
      | some r =>
        exfalso
        have h1 : bestN m (r + 1) = bestN m r := by simpa using List.find?_some hf
        have h2 : r < m.length + 1 := List.mem_range.1 (List.mem_of_find?_eq_some hf)
        refine hp fun k x u w => ?_
        by_cases hu : u ≤ 0
        · exact hu
        · exfalso
          obtain ⟨k', w'⟩ := w.pow 21000000001
          have ix := w.ins.1
          have hb : ∀ K, ∀ i z, In m.length i → W m m.length m.length K i x z → le z (at2 (bestN m r) i x) := by
            intro K
            induction K with
            | zero => exact fun i z ii w => ((hA r (by omega)).sp i x z ii ix).2 ⟨0, by omega, w⟩
            | succ K ih =>
              intro i z ii w
              obtain ⟨l, u, v, il, q1, q2, q3⟩ := w.cons
              have := ih l v il q2
              obtain ⟨k2, hk2, w2⟩ := ((hA r (by omega)).sp l x v il ix).1 this
              rw [← h1]
              exact ((hA (r + 1) (by omega)).sp i x z ii ix).2 ⟨1 + k2, by omega, ((W.one ii il q1).trans' w2).down q3⟩
          have g1 := hb _ _ _ ix w'
          have g2 := (hA r (by omega)).bd hm (by omega) ix ix (infF_false.2 (le_iff.1 g1).1)
          have g3 := g1.2
          have : ((21000000001 : Nat) : Int) * u ≥ 21000000001 * 1 := Int.mul_le_mul_of_nonneg_left (by omega) (by omega)
          omega
end
end Go.Eng.Mp
