/- PeRo5z -/
import Derived.Test.YtejeaokbkbfgjaaGreatDoorX22
import Derived.Test.YtejeaokbkbfgjaaGreatDoorMxSz
import Derived.Test.YtejeaokbkbfgjaaGreatDoorRo3z
set_option linter.unusedSimpArgs false
set_option linter.unusedVariables false
set_option maxRecDepth 100000
namespace Go.Eng.Sv
open Go.Proofs
open Go.Eng.Mp (buildF rowsF rowF preBuild upto at2 idx2 starS starE starP)
open Go.Eng.Mp (W PW NoPos)
structure BndOk (q : Nat) (ls : List Line) (c : List Int) (B : Int → Int → Int) : Prop where
  lo : ∀ o d : Int, 0 ≤ o → o < q → 0 ≤ d → d < q → -1 ≤ B o d
  same : ∀ o : Int, 0 ≤ o → o < q → B o o = 0
  step : ∀ (k : Nat) (l : Line), ls[k]? = some l → c.getD k 0 ≠ noneI → ∀ d : Int, 0 ≤ d → d < q → 0 ≤ B (lTo l) d → 0 ≤ B (lFrom l) d ∧ B (lFrom l) d ≤ c.getD k 0 + B (lTo l) d
  from_ : ∀ o d : Int, 0 ≤ o → o < q → 0 ≤ d → d < q → o ≠ d → 0 ≤ B o d → ∃ (k : Nat) (l : Line), ls[k]? = some l ∧ c.getD k 0 ≠ noneI ∧ lFrom l = o ∧ 0 ≤ B (lTo l) d ∧ B o d = c.getD k 0 + B (lTo l) d
structure CostsOk (q : Nat) (ls : List Line) (c : List Int) : Prop where
  pos : ∀ (k : Nat) (l : Line), ls[k]? = some l → c.getD k 0 ≠ noneI → 0 < c.getD k 0
  ends : ∀ (k : Nat) (l : Line), ls[k]? = some l → (0 ≤ lFrom l ∧ lFrom l < q) ∧ 0 ≤ lTo l ∧ lTo l < q
theorem BndOk.mono {q : Nat} {ls ls' : List Line} {c c' : List Int} {B B' : Int → Int → Int} (h : BndOk q ls c B) (hc : CostsOk q ls c) (h' : BndOk q ls' c' B')
    (hl : ∀ (k : Nat) (l : Line), ls[k]? = some l → c.getD k 0 ≠ noneI → ∃ (k' : Nat) (l' : Line), ls'[k']? = some l' ∧ c'.getD k' 0 ≠ noneI ∧ lFrom l' = lFrom l ∧ lTo l' = lTo l ∧ c'.getD k' 0 ≤ c.getD k 0) :
    ∀ (f : Nat) (o d : Int), 0 ≤ o → o < q → 0 ≤ d → d < q → 0 ≤ B o d → (B o d).toNat ≤ f → 0 ≤ B' o d ∧ B' o d ≤ B o d
  | f, o, d, o0, o1, d0, d1, hB, hf => by
    by_cases e : o = d
    · subst e
      rw [h.same o o0 o1, h'.same o o0 o1]; omega
    · obtain ⟨k, l, k1, k2, k3, k4, k5⟩ := h.from_ o d o0 o1 d0 d1 e hB
      have hp := hc.pos k l k1 k2
      obtain ⟨_, t0, t1⟩ := hc.ends k l k1
      match f, hf with
      | 0, hf => omega
      | f + 1, hf =>
        obtain ⟨i1, i2⟩ := h.mono hc h' hl f (lTo l) d t0 t1 d0 d1 k4 (by omega)
        obtain ⟨k', l', g1, g2, g3, g4, g5⟩ := hl k l k1 k2
        obtain ⟨s1, s2⟩ := h'.step k' l' g1 g2 d d0 d1 (by rw [g4]; exact i1)
        rw [g3, k3, g4] at s2
        rw [g3, k3] at s1
        exact ⟨s1, by omega⟩
theorem BndOk.le {q : Nat} {ls ls' : List Line} {c c' : List Int} {B B' : Int → Int → Int} (h : BndOk q ls c B) (hc : CostsOk q ls c) (h' : BndOk q ls' c' B')
    (hl : ∀ (k : Nat) (l : Line), ls[k]? = some l → c.getD k 0 ≠ noneI → ∃ (k' : Nat) (l' : Line), ls'[k']? = some l' ∧ c'.getD k' 0 ≠ noneI ∧ lFrom l' = lFrom l ∧ lTo l' = lTo l ∧ c'.getD k' 0 ≤ c.getD k 0)
    {o d : Int} (o0 : 0 ≤ o) (o1 : o < q) (d0 : 0 ≤ d) (d1 : d < q) (hB : 0 ≤ B o d) : 0 ≤ B' o d ∧ B' o d ≤ B o d := h.mono hc h' hl _ o d o0 o1 d0 d1 hB (Nat.le_refl _)
theorem leastN_ge {ls : List Line} {c : List Int} {l : Line} : ∀ (m k : Nat), k < m → ls[k]? = some l → c.getD k 0 ≠ noneI → -(c.getD k 0) ≤ leastN ls c m (lFrom l) (lTo l)
  | m + 1, k, hk, hl, hc => by
    rw [leastN_succ]
    by_cases e : k = m
    · subst e
      rw [if_pos ⟨hc, by rw [List.getD_eq_getElem?_getD, hl]; rfl, by rw [List.getD_eq_getElem?_getD, hl]; rfl⟩]
      omega
    · have ih := leastN_ge m k (by omega) hl hc
      split <;> omega
theorem leastN_at {ls : List Line} {c : List Int} {o d : Int} : ∀ m : Nat, m ≤ ls.length → leastN ls c m o d = noneI ∨ ∃ (k : Nat) (l : Line), ls[k]? = some l ∧ c.getD k 0 ≠ noneI ∧ lFrom l = o ∧ lTo l = d ∧ leastN ls c m o d = -(c.getD k 0)
  | 0, _ => .inl rfl
  | m + 1, hm => by
    rw [leastN_succ]
    have hg : ls[m]? = some (ls[m]'(by omega)) := List.getElem?_eq_getElem _
    have ed : ls.getD m (⟨#[]⟩, 0, 0, 0, 0, 0) = ls[m]'(by omega) := by rw [List.getD_eq_getElem?_getD, hg]; rfl
    split
    · rename_i g
      rw [ed] at g
      rcases leastN_at (ls := ls) (c := c) (o := o) (d := d) m (by omega) with h | ⟨k, l, h1, h2, h3, h4, h5⟩
      · by_cases q : noneI ≤ -(c.getD m 0)
        · exact .inr ⟨m, _, hg, g.1, g.2.1, g.2.2, by rw [h]; omega⟩
        · left; rw [h]; omega
      · by_cases q : leastN ls c m o d ≤ -(c.getD m 0)
        · exact .inr ⟨m, _, hg, g.1, g.2.1, g.2.2, by omega⟩
        · exact .inr ⟨k, l, h1, h2, h3, h4, by omega⟩
    · exact leastN_at m (by omega)
theorem cost_pos (cs : LC) (ns os : LB) (fs : List Off) (ls : List Line) (ks : List Cla) {c : List Int} (h : costsOk (cs, ns, os, fs, ls, ks) c) : CostsOk fs.length ls c := by
  have hcl : c.length = ls.length := h.2.1
  refine ⟨fun k l hk hc => ?_, fun k l hk => ?_⟩
  · have hlt : k < ls.length := (List.getElem?_eq_some_iff.1 hk).1
    have := h.2.2 k (by omega) (by omega)
    rw [Int.toNat_natCast] at this
    rcases this with g | g
    · exact (hc g).elim
    · exact g.1
  · have hlt : k < ls.length := (List.getElem?_eq_some_iff.1 hk).1
    obtain ⟨l0, l1, l2, l3, _⟩ := sound_line cs ns os fs ls ks h.1 (i := k) (by omega) (by omega)
    have e : lineOf (cs, ns, os, fs, ls, ks) k = l := by
      unfold lineOf
      show ls.getD (k : Int).toNat _ = l
      rw [Int.toNat_natCast, List.getD_eq_getElem?_getD, hk]; rfl
    rw [e] at l0 l1 l2 l3
    exact ⟨⟨l0, l1⟩, l2, l3⟩
theorem least_bd (cs : LC) (ns os : LB) (fs : List Off) (ls : List Line) (ks : List Cla) {c : List Int} (h : costsOk (cs, ns, os, fs, ls, ks) c) : Mp.Bd fs.length 1000000 (leastF (cs, ns, os, fs, ls, ks) c) := by
  have l12 := (noF_offs cs ns os fs ls ks (sound_noF cs ns os fs ls ks h.1)).1
  have hcl : c.length = ls.length := h.2.1
  refine ⟨leastTo_sq cs ns os fs ls ks c _, by omega, fun i j i0 i1 j0 j1 hf => ?_⟩
  have e : at2 (leastF (cs, ns, os, fs, ls, ks) c) i j = leastN ls c (ls.length : Int).toNat i j := leastTo_at cs ns os fs ls ks c _ i0 i1 j0 j1
  rw [e] at hf ⊢
  rcases leastN_cases h ls i j (ls.length : Int).toNat (by omega) with g | g
  · rw [g] at hf; cases hf
  · omega
theorem least_neg (cs : LC) (ns os : LB) (fs : List Off) (ls : List Line) (ks : List Cla) {c : List Int} (h : costsOk (cs, ns, os, fs, ls, ks) c) {i j : Int} (i0 : 0 ≤ i) (i1 : i < fs.length) (j0 : 0 ≤ j) (j1 : j < fs.length) : at2 (leastF (cs, ns, os, fs, ls, ks) c) i j ≤ -1 := by
  have hcl : c.length = ls.length := h.2.1
  have e : at2 (leastF (cs, ns, os, fs, ls, ks) c) i j = leastN ls c (ls.length : Int).toNat i j := leastTo_at cs ns os fs ls ks c _ i0 i1 j0 j1
  rw [e]
  rcases leastN_cases h ls i j (ls.length : Int).toNat (by omega) with g | g
  · rw [g]; unfold noneI; omega
  · omega
theorem PW_neg {m : List (List Int)} {p : Nat → Int} {q : Nat} (hm : ∀ i j : Int, 0 ≤ i → i < q → 0 ≤ j → j < q → at2 m i j ≤ -1) : ∀ (k : Nat) (z : Int), (∀ s, s ≤ k → Mp.In q (p s)) → PW m p k z → z ≤ -(k : Int)
  | 0, z, _, h => by have h : z ≤ 0 := h; omega
  | k + 1, z, hp, ⟨u, v, h1, h2, h3⟩ => by
    have ih := PW_neg hm k u (fun s hs => hp s (by omega)) h1
    have a := hp k (by omega)
    have b := hp (k + 1) (by omega)
    have := hm _ _ a.1 a.2 b.1 b.2
    have := h2.2
    omega
theorem least_noPos (cs : LC) (ns os : LB) (fs : List Off) (ls : List Line) (ks : List Cla) {c : List Int} (h : costsOk (cs, ns, os, fs, ls, ks) c) {t : Int} {k : Nat} {i j z : Int} (hw : W (leastF (cs, ns, os, fs, ls, ks) c) fs.length t k i j z) : z ≤ 0 := by
  obtain ⟨p, h1, h2, h3, h4, h5⟩ := hw
  have := PW_neg (fun i j i0 i1 j0 j1 => least_neg cs ns os fs ls ks h i0 i1 j0 j1) k z h3 h5
  omega
theorem bounds_ok (cs : LC) (ns os : LB) (fs : List Off) (ls : List Line) (ks : List Cla) {c : List Int} (h : costsOk (cs, ns, os, fs, ls, ks) c) : BndOk fs.length ls c (fun o d => at2 (boundsF (cs, ns, os, fs, ls, ks) c) o d) ∧ starE (leastF (cs, ns, os, fs, ls, ks) c) = 0 ∧
    (∀ o d : Int, 0 ≤ o → o < fs.length → 0 ≤ d → d < fs.length → at2 (starS (leastF (cs, ns, os, fs, ls, ks) c)) o d = if at2 (boundsF (cs, ns, os, fs, ls, ks) c) o d < 0 then noneI else -(at2 (boundsF (cs, ns, os, fs, ls, ks) c) o d)) ∧ Mp.Sq fs.length (starS (leastF (cs, ns, os, fs, ls, ks) c)) := by
  have l12 := (noF_offs cs ns os fs ls ks (sound_noF cs ns os fs ls ks h.1)).1
  have hcl : c.length = ls.length := h.2.1
  have hm := least_bd cs ns os fs ls ks h
  have hB : (fs.length : Int) * 1000000 ≤ 100000000000 := by omega
  have hv : Mp.validF (leastF (cs, ns, os, fs, ls, ks) c) = true := leastTo_valid cs ns os fs ls ks h (by omega) (Int.le_refl _)
  have hN : NoPos (leastF (cs, ns, os, fs, ls, ks) c) fs.length := fun k x u hw => least_noPos cs ns os fs ls ks h hw
  obtain ⟨e1, e2⟩ := Mp.star_ok hm hv (by omega) hB hN
  have hle : ∀ {i j z : Int}, Mp.In fs.length i → Mp.In fs.length j → (Mp.le z (at2 (starS (leastF (cs, ns, os, fs, ls, ks) c)) i j) ↔ ∃ k, W (leastF (cs, ns, os, fs, ls, ks) c) fs.length fs.length k i j z) := fun hi hj => by
    rw [e2]; exact Mp.le_star hm (by omega) hB hN hi hj
  have hcl2 : ∀ {i j : Int}, Mp.In fs.length i → Mp.In fs.length j → Mp.cleanE (at2 (starS (leastF (cs, ns, os, fs, ls, ks) c)) i j) := fun hi hj => by
    rw [e2]; exact Mp.starN_clean hm.sq.len _ hi hj
  have hat : ∀ o d : Int, 0 ≤ o → o < fs.length → 0 ≤ d → d < fs.length → at2 (boundsF (cs, ns, os, fs, ls, ks) c) o d = if at2 (starS (leastF (cs, ns, os, fs, ls, ks) c)) o d = noneI then -1 else -(at2 (starS (leastF (cs, ns, os, fs, ls, ks) c)) o d) := fun o d o0 o1 d0 d1 => by
    have : at2 (boundsF (cs, ns, os, fs, ls, ks) c) o d = bnd2 (starE (leastF (cs, ns, os, fs, ls, ks) c)) (starS (leastF (cs, ns, os, fs, ls, ks) c)) o d := Mp.buildF_at _ _ o d o0 o1 d0 d1
    rw [this]; unfold bnd2; rw [if_pos e1]
  have hsg : ∀ o d : Int, 0 ≤ o → o < fs.length → 0 ≤ d → d < fs.length → (at2 (starS (leastF (cs, ns, os, fs, ls, ks) c)) o d = noneI ∧ at2 (boundsF (cs, ns, os, fs, ls, ks) c) o d = -1) ∨ (Mp.infF (at2 (starS (leastF (cs, ns, os, fs, ls, ks) c)) o d) = false ∧ at2 (starS (leastF (cs, ns, os, fs, ls, ks) c)) o d ≤ 0 ∧ at2 (boundsF (cs, ns, os, fs, ls, ks) c) o d = -(at2 (starS (leastF (cs, ns, os, fs, ls, ks) c)) o d)) := fun o d o0 o1 d0 d1 => by
    have ha := hat o d o0 o1 d0 d1
    rcases hcl2 (i := o) (j := d) ⟨o0, o1⟩ ⟨d0, d1⟩ with g | g
    · left; rw [if_pos (show _ = noneI from g)] at ha; exact ⟨g, ha⟩
    · right
      obtain ⟨k, hw⟩ := (hle ⟨o0, o1⟩ ⟨d0, d1⟩).1 (Mp.le_self g)
      have g' := Mp.infF_false.1 g
      rw [if_neg (show ¬ _ = noneI by unfold noneI; omega)] at ha
      exact ⟨g, least_noPos cs ns os fs ls ks h hw, ha⟩
  have hge : ∀ {o d : Int}, 0 ≤ o → o < fs.length → 0 ≤ d → d < fs.length → ∀ {k : Nat} {z : Int}, -549755813888 < z → W (leastF (cs, ns, os, fs, ls, ks) c) fs.length fs.length k o d z → 0 ≤ at2 (boundsF (cs, ns, os, fs, ls, ks) c) o d ∧ at2 (boundsF (cs, ns, os, fs, ls, ks) c) o d ≤ -z := fun {o d} o0 o1 d0 d1 {k z} _ hw => by
    have := (hle ⟨o0, o1⟩ ⟨d0, d1⟩).2 ⟨k, hw⟩
    rcases hsg o d o0 o1 d0 d1 with ⟨g1, g2⟩ | ⟨g1, g2, g3⟩
    · rw [g1] at this; cases this.1
    · have := this.2; omega
  have hW : ∀ {o d : Int}, 0 ≤ o → o < fs.length → 0 ≤ d → d < fs.length → 0 ≤ at2 (boundsF (cs, ns, os, fs, ls, ks) c) o d → ∃ k, W (leastF (cs, ns, os, fs, ls, ks) c) fs.length fs.length k o d (-(at2 (boundsF (cs, ns, os, fs, ls, ks) c) o d)) ∧ -549755813888 < -(at2 (boundsF (cs, ns, os, fs, ls, ks) c) o d) := fun {o d} o0 o1 d0 d1 hb => by
    rcases hsg o d o0 o1 d0 d1 with ⟨g1, g2⟩ | ⟨g1, g2, g3⟩
    · omega
    · have e : -(at2 (boundsF (cs, ns, os, fs, ls, ks) c) o d) = at2 (starS (leastF (cs, ns, os, fs, ls, ks) c)) o d := by omega
      rw [e]
      obtain ⟨k, hw⟩ := (hle ⟨o0, o1⟩ ⟨d0, d1⟩).1 (Mp.le_self g1)
      exact ⟨k, hw, Mp.infF_false.1 g1⟩
  have cp := cost_pos cs ns os fs ls ks h
  have hstep : ∀ (k : Nat) (l : Line), ls[k]? = some l → c.getD k 0 ≠ noneI → ∀ d : Int, 0 ≤ d → d < fs.length → 0 ≤ at2 (boundsF (cs, ns, os, fs, ls, ks) c) (lTo l) d → 0 ≤ at2 (boundsF (cs, ns, os, fs, ls, ks) c) (lFrom l) d ∧ at2 (boundsF (cs, ns, os, fs, ls, ks) c) (lFrom l) d ≤ c.getD k 0 + at2 (boundsF (cs, ns, os, fs, ls, ks) c) (lTo l) d := fun k l hk hc d d0 d1 hb => by
    obtain ⟨⟨f0, f1⟩, t0, t1⟩ := cp.ends k l hk
    have hlt : k < ls.length := (List.getElem?_eq_some_iff.1 hk).1
    have hcb := h.2.2 k (by omega) (by omega)
    rw [Int.toNat_natCast] at hcb
    have hcb : 0 < c.getD k 0 ∧ c.getD k 0 ≤ 1000000 := by
      rcases hcb with g | g
      · exact (hc g).elim
      · exact g
    obtain ⟨k', hw, hz⟩ := hW t0 t1 d0 d1 hb
    have ea : at2 (leastF (cs, ns, os, fs, ls, ks) c) (lFrom l) (lTo l) = leastN ls c (ls.length : Int).toNat (lFrom l) (lTo l) := leastTo_at cs ns os fs ls ks c _ f0 f1 t0 t1
    have hge1 := leastN_ge (ls := ls) (c := c) (l := l) (ls.length : Int).toNat k (by omega) hk hc
    have h1 : W (leastF (cs, ns, os, fs, ls, ks) c) fs.length fs.length 1 (lFrom l) (lTo l) (-(c.getD k 0)) := W.one ⟨f0, f1⟩ ⟨t0, t1⟩ (Mp.le_iff.2 ⟨by rw [ea]; omega, by rw [ea]; exact hge1⟩)
    have h2 := h1.trans' hw
    have hfin : -549755813888 < -(c.getD k 0) + -(at2 (boundsF (cs, ns, os, fs, ls, ks) c) (lTo l) d) := by
      obtain ⟨k2, q1, q2⟩ := hw.short
      have := q2.2
      obtain ⟨q3, q4⟩ := q2
      have hlow := (Mp.star_bd hm (by omega) hB hN).el (lTo l) d t0 t1 d0 d1 (by
        rcases hsg (lTo l) d t0 t1 d0 d1 with ⟨g1, g2⟩ | ⟨g1, _⟩
        · omega
        · rw [← e2]; exact g1)
      rcases hsg (lTo l) d t0 t1 d0 d1 with ⟨g1, g2⟩ | ⟨g1, g2, g3⟩
      · omega
      · rw [← e2] at hlow; omega
    obtain ⟨r1, r2⟩ := hge f0 f1 d0 d1 hfin h2
    exact ⟨r1, by omega⟩
  refine ⟨⟨fun o d o0 o1 d0 d1 => ?_, fun o o0 o1 => ?_, hstep, fun o d o0 o1 d0 d1 hne hb => ?_⟩, e1, fun o d o0 o1 d0 d1 => ?_, by rw [e2, ← hm.sq.len]; exact Mp.starN_sq _ _⟩
  · show -1 ≤ at2 (boundsF (cs, ns, os, fs, ls, ks) c) o d
    rcases hsg o d o0 o1 d0 d1 with ⟨g1, g2⟩ | ⟨g1, g2, g3⟩ <;> omega
  · show at2 (boundsF (cs, ns, os, fs, ls, ks) c) o o = 0
    have := hge o0 o1 o0 o1 (by omega) (W.zero (m := leastF (cs, ns, os, fs, ls, ks) c) (n := fs.length) (t := fs.length) ⟨o0, o1⟩ (Int.le_refl 0))
    omega
  · have hb : 0 ≤ at2 (boundsF (cs, ns, os, fs, ls, ks) c) o d := hb
    obtain ⟨k, hw, hz⟩ := hW o0 o1 d0 d1 hb
    obtain ⟨p, p1, p2, p3, p4, p5⟩ := hw
    match k, p2, p3, p4, p5 with
    | 0, p2, _, _, _ => exact (hne (by rw [← p1, ← p2])).elim
    | k + 1, p2, p3, p4, p5 =>
      rw [show k + 1 = 1 + k by omega] at p5
      obtain ⟨u, v, q1, q2, q3⟩ := PW.split 1 k p5
      obtain ⟨u', v', q4, q5, q6⟩ := q1
      have q4 : u' ≤ 0 := q4
      have q5 : Mp.le v' (at2 (leastF (cs, ns, os, fs, ls, ks) c) (p 0) (p 1)) := q5
      rw [p1] at q5
      obtain ⟨x0, x1⟩ := p3 1 (by omega)
      have ea : at2 (leastF (cs, ns, os, fs, ls, ks) c) o (p 1) = leastN ls c (ls.length : Int).toNat o (p 1) := leastTo_at cs ns os fs ls ks c _ o0 o1 x0 x1
      rw [ea] at q5
      have hfin := Mp.infF_false.1 q5.1
      rcases leastN_at (ls := ls) (c := c) (o := o) (d := p 1) (ls.length : Int).toNat (by omega) with g | ⟨k', l, g1, g2, g3, g4, g5⟩
      · rw [g] at hfin; unfold noneI at hfin; omega
      · have hw2 : W (leastF (cs, ns, os, fs, ls, ks) c) fs.length fs.length k (p 1) d v := ⟨fun t => p (1 + t), rfl, by show p (1 + k) = d; rw [show 1 + k = k + 1 by omega]; exact p2, fun s hs => p3 _ (by omega), fun s s1 s2 => (p3 _ (by omega)).2, q2⟩
        have q8 := q5.2
        have cpos := cp.pos k' l g1 g2
        obtain ⟨r1, r2⟩ := hge x0 x1 d0 d1 (by omega) hw2
        refine ⟨k', l, g1, g2, g3, ?_, ?_⟩
        · show 0 ≤ at2 (boundsF (cs, ns, os, fs, ls, ks) c) (lTo l) d; rw [g4]; exact r1
        · obtain ⟨s1, s2⟩ := hstep k' l g1 g2 d d0 d1 (by rw [g4]; exact r1)
          rw [g3] at s2
          show at2 (boundsF (cs, ns, os, fs, ls, ks) c) o d = _
          rw [g4] at s2 ⊢
          omega
  · rcases hsg o d o0 o1 d0 d1 with ⟨g1, g2⟩ | ⟨g1, g2, g3⟩
    · rw [if_pos (by omega)]; exact g1
    · rw [if_neg (by omega)]; omega
end Go.Eng.Sv
