/- PeIn5bi -/
import Derived.Test.YtlobbofhlcjlmaaZ22
import Derived.Test.YtlobbofhlcjlmaaIn5i
set_option linter.unusedSimpArgs false
set_option linter.unusedVariables false
set_option maxRecDepth 100000
namespace Go.Eng.In
open Go.Proofs
theorem plan_parts {l : List Int} (hl : numsOk l) (h : plOk l = true) : (0 ≤ l.getD 2 0 ∧ l.getD 2 0 ≤ 12) ∧ (0 ≤ l.getD 3 0 ∧ l.getD 3 0 ≤ 4) ∧ 0 ≤ l.getD 0 0 ∧ l.getD 0 0 < l.getD 1 0 ∧ l.getD 1 0 ≤ 600 := by
  have bd : ∀ k : Nat, 0 ≤ l.getD k 0 := fun k => by
    by_cases hk : k < l.length
    · exact (inSeal_iff.1 hl.1 _ (getD_mem hk)).1
    · rw [List.getD_eq_getElem?_getD, List.getElem?_eq_none (by omega)]; exact Int.le_refl _
  unfold plOk plHead at h
  simp only [Bool.and_eq_true, decide_eq_true_eq] at h
  exact ⟨⟨bd 2, h.1.2.1⟩, ⟨bd 3, h.1.2.2.1⟩, bd 0, h.1.2.2.2.1, h.1.2.2.2.2.2⟩
theorem build_len (g : Int → Int → Int) (n : Int) : (buildF g n).length = n.toNat := by unfold buildF; simp
theorem build_row {g : Int → Int → Int} {n : Int} {r : List Int} (h : r ∈ buildF g n) : r.length = n.toNat ∧ ∀ x ∈ r, ∃ i j, x = g i j := by
  unfold buildF at h
  obtain ⟨i, _, rfl⟩ := List.mem_map.1 h
  refine ⟨by simp, fun x hx => ?_⟩
  obtain ⟨j, _, rfl⟩ := List.mem_map.1 hx
  exact ⟨_, _, rfl⟩
theorem build_at {g : Int → Int → Int} {n i j : Int} (hi : 0 ≤ i ∧ i < n) (hj : 0 ≤ j ∧ j < n) : ((buildF g n).getD i.toNat []).getD j.toNat 0 = g i j := by
  unfold buildF
  have e1 : i.toNat < n.toNat := by omega
  have e2 : j.toNat < n.toNat := by omega
  have e : ((List.range n.toNat).map fun i : Nat => (List.range n.toNat).map fun j : Nat => g i j).getD i.toNat [] = (List.range n.toNat).map fun j : Nat => g (i.toNat : Nat) j := by
    rw [List.getD_eq_getElem?_getD, List.getElem?_map, List.getElem?_range e1]; rfl
  rw [e, List.getD_eq_getElem?_getD, List.getElem?_map, List.getElem?_range e2, Int.toNat_of_nonneg hi.1]
  show g i (j.toNat : Nat) = _
  rw [Int.toNat_of_nonneg hj.1]
theorem tg_ge {l : List Int} (hl : numsOk l) (m i j : Int) : -1 ≤ tg l m i j := by
  unfold tg
  have : 0 ≤ l.getD (i * m + j).toNat 0 := by
    by_cases hk : (i * m + j).toNat < l.length
    · exact (inSeal_iff.1 hl.1 _ (getD_mem hk)).1
    · rw [List.getD_eq_getElem?_getD, List.getElem?_eq_none (by omega)]; exact Int.le_refl _
  omega
theorem tabs_mem {q m : Int} {l : List Int} {t : List (List Int)} (h : t ∈ tabsF q m l) : ∃ k, t = tabF m (dropI l k) := by
  unfold tabsF at h
  obtain ⟨i, _, rfl⟩ := List.mem_map.1 h
  exact ⟨_, rfl⟩
theorem tabs_len (q m : Int) (l : List Int) : (tabsF q m l).length = q.toNat := by unfold tabsF; simp
theorem plan_nx {l : List Int} (hl : numsOk l) (h : plOk l = true) : nxP (planF l) := by
  obtain ⟨⟨m0, m1⟩, _⟩ := plan_parts hl h
  refine ⟨?_, fun r hr => ?_⟩
  · show (buildF _ _).length ≤ _
    rw [build_len]; omega
  · obtain ⟨h1, h2⟩ := build_row hr
    refine ⟨by omega, fun x hx => ?_⟩
    obtain ⟨i, j, rfl⟩ := h2 x hx
    exact tg_ge (numsOk_drop hl 4) _ _ _
theorem plan_plP {n : Net} {l : List Int} (hl : numsOk l) (h : plOk l = true) (hf : fitF n (planF l) = true) : plP n (planF l) := by
  obtain ⟨⟨m0, m1⟩, ⟨q0, q1⟩, a0, a1, a2⟩ := plan_parts hl h
  unfold fitF at hf
  simp only [Bool.and_eq_true, decide_eq_true_eq, List.all_eq_true, List.mem_range] at hf
  obtain ⟨⟨f1, f2⟩, f3⟩ := hf
  have e1 : (planF l).2.2.1.length = (l.getD 2 0).toNat := build_len _ _
  have e2 : (planF l).2.2.2.length = (l.getD 3 0).toNat := tabs_len _ _ _
  refine ⟨⟨a0, by show l.getD 0 0 ≤ l.getD 1 0; omega, a2⟩, ⟨f1, fun r hr => ?_⟩, fun i j hi hj => ?_, f2, fun t ht => ?_⟩
  · have h1 := (build_row hr).1
    omega
  · obtain ⟨i0, i1⟩ := hi
    obtain ⟨j0, j1⟩ := hj
    have hi2 : i < l.getD 2 0 := by omega
    have hj2 : j < l.getD 2 0 := by omega
    have ec : cellAt (planF l) i j = tg (dropI l 4) (l.getD 2 0) i j := build_at ⟨i0, hi2⟩ ⟨j0, hj2⟩
    have := f3 i.toNat (by omega)
    unfold rowGood at this
    rw [List.all_eq_true, Int.toNat_of_nonneg i0] at this
    have hr := (build_row (g := tg (dropI l 4) (l.getD 2 0)) (n := l.getD 2 0) (r := (planF l).2.2.1.getD i.toNat []) (getD_mem (by omega : i.toNat < (planF l).2.2.1.length))).1
    refine ⟨this _ (getD_mem (by omega)), ?_⟩
    rw [ec]
    exact tg_ge (numsOk_drop hl 4) _ _ _
  · obtain ⟨k, rfl⟩ := tabs_mem ht
    have e : (tabF (l.getD 2 0) (dropI (dropI l (4 + l.getD 2 0 * l.getD 2 0)) k)).length = (l.getD 2 0).toNat := build_len _ _
    refine ⟨by omega, fun r hr => ?_⟩
    have := (build_row hr).1
    omega
theorem runN_none {f : Nat → List Int → Option (List Int)} {m : Nat} {x : List Int} (h : runN f m x = none) : ∀ {k : Nat}, m ≤ k → runN f k x = none := by
  intro k hk
  induction hk with
  | refl => exact h
  | step _ ih => rw [runN, ih]; rfl
theorem bind_some' {α : Type} (x : Option α) : (x.bind fun y => some y) = x := by cases x <;> rfl
theorem bind_none {α : Type} {x : Option α} {f g : α → Option α} (h : x.bind f = none) (hg : ∀ y, f y = none → g y = none) : x.bind g = none := by
  cases x with
  | none => rfl
  | some y => exact hg y h
section
variable {n : Net} {p : Plan} {l : List Int} {k o d : Int}
theorem st2_zero : st2 n p l k 0 = st1 n p l k := bind_some' _
theorem st3_zero : st3 n p l k o 0 = st2 n p l k o := bind_some' _
theorem st4_zero : st4 n p l k o d 0 = st3 n p l k o d := bind_some' _
theorem st1_succ (k0 : 0 ≤ k) : st1 n p l (k + 1) = st2 n p l k (rowsD p k).length := by
  unfold st2
  rw [Int.toNat_natCast]
  show runN _ (k + 1).toNat l = _
  rw [show (k + 1).toNat = k.toNat + 1 by omega, runN, Int.toNat_of_nonneg k0]; rfl
theorem st2_succ (o0 : 0 ≤ o) : st2 n p l k (o + 1) = st3 n p l k o (cellsD p k o).length := by
  unfold st3 st2
  rw [Int.toNat_natCast, show (o + 1).toNat = o.toNat + 1 by omega, Option.bind_assoc]
  congr 1
  funext x
  rw [runN, Int.toNat_of_nonneg o0]; rfl
theorem st3_skip (d0 : 0 ≤ d) (h : daysAt p k o d = -1) : st3 n p l k o (d + 1) = st3 n p l k o d := by
  unfold st3
  rw [show (d + 1).toNat = d.toNat + 1 by omega]
  congr 1
  funext x
  rw [runN, Int.toNat_of_nonneg d0, show cellRun n p k o d = fun xs => some xs from funext fun xs => if_pos h]
  exact bind_some' _
theorem st3_succ (d0 : 0 ≤ d) (h : daysAt p k o d ≠ -1) : st3 n p l k o (d + 1) = st4 n p l k o d (cutsF n p k o).length := by
  unfold st4 st3
  rw [show (d + 1).toNat = d.toNat + 1 by omega, Option.bind_assoc]
  congr 1
  funext x
  rw [runN, Int.toNat_of_nonneg d0, show cellRun n p k o d = fun xs => runN (oneRun n p k o d) (cutsF n p k o).length xs from funext fun xs => if_neg h]
theorem st4_succ (j : Nat) : st4 n p l k o d (j + 1) = (st4 n p l k o d j).bind (oneRun n p k o d j) := by
  unfold st4
  rw [Option.bind_assoc]; rfl
theorem st1_none {k' : Int} (h : st1 n p l k = none) (hk : k ≤ k') : st1 n p l k' = none := runN_none h (by omega)
theorem st2_none {o' : Int} (h : st2 n p l k o = none) (hk : o ≤ o') : st2 n p l k o' = none := bind_none h fun y hy => runN_none hy (by omega)
theorem st3_none {d' : Int} (h : st3 n p l k o d = none) (hk : d ≤ d') : st3 n p l k o d' = none := bind_none h fun y hy => runN_none hy (by omega)
theorem st4_none {j j' : Nat} (h : st4 n p l k o d j = none) (hk : j ≤ j') : st4 n p l k o d j' = none := bind_none h fun y hy => runN_none hy hk
theorem st_fail {j : Nat} (h : st4 n p l k o d j = none) (hj : j ≤ (cutsF n p k o).length) (hd : daysAt p k o d ≠ -1) (d0 : 0 ≤ d) (d1 : d < (cellsD p k o).length) (o0 : 0 ≤ o) (o1 : o < (rowsD p k).length) (k0 : 0 ≤ k) (k1 : k < p.2.2.2.length) : allRun n p l = none := by
  have h1 := st4_none h hj
  rw [← st3_succ d0 hd] at h1
  have h2 := st3_none h1 (d' := (cellsD p k o).length) (by omega)
  rw [← st2_succ o0] at h2
  have h3 := st2_none h2 (o' := (rowsD p k).length) (by omega)
  rw [← st1_succ k0] at h3
  exact st1_none h3 (by omega)
end
theorem t_Check (s : Int) (l : List Int) (cs : List Cal) (ns ps : List ByteArray) (os : List Off) (ls : List Line) (ks : List Cla) : SoundC Try.prog G0 12 [.agg [.dat (.sl C) cs, .dat (.sl S) ns, .dat (.sl S) ps, .dat (.sl Of) os, .dat (.sl Ln) ls, .dat (.sl Kl) ks], .agg [.dat R l, .dat I s]] [] ⟨limI l ∧ netP (cs, ns, ps, os, ls, ks), .dat I (checkF (cs, ns, ps, os, ls, ks) l s), []⟩ := by
  refine sound_of_evR (c := c15) KS14 KI2s hm KP14_ok (vc_Check s l cs ns ps os ls ks ⟨⟨rfl, rfl, rfl⟩, fun hp => ?_⟩)
  simp only [cnd_or, cnd_and, D.and, D.or, D.not, Bool.true_and, Bool.and_true, Bool.false_or, Bool.or_false, eq_self, true_and, and_true, imp_self, implies_true, Bool.not_eq_true', Bool.or_eq_true, Bool.or_eq_false_iff, Bool.not_eq_false', Bool.and_eq_true, Bool.and_eq_false_imp, Bool.not_not, forall_const, exists_eq_right, exists_eq_right', exists_eq_left, exists_eq_left', Int.toNat_natCast, Nat.zero_add, Nat.mul_one, Int.ofNat_eq_natCast, D.nil, D.eq, D.ne, D.lt, D.gt, D.le, D.ge, D.beq, D.ilen, D.slen, D.ile, D.ilt, D.ine, D.nle, D.nlt, D.sub, D.add, D.mul, D.neg, D.nat, D.ofN, D.len, D.nadd, D.nmul, D.get, D.mn, D.mx, D.set, D.app, D.tail, D.part, D.seg, D.rep, D.at2, decide_eq_true_eq, decide_eq_false_iff_not, beq_iff_eq, bne_iff_ne, beq_eq_false_iff_ne, bne_eq_false_iff_eq, D.wrap, D.allNil]
  obtain ⟨hl, hn⟩ := hp
  generalize (cs, ns, ps, os, ls, ks) = n at hn ⊢
  have two : ∀ {p q : Prop}, p → (p ∧ (false = true → q)) := fun h => ⟨h, fun h => by cases h⟩
  have eF : checkF n l s = if openOk (l, s) = true then if usF n = true then if fitsAll n l = true then runE n l else 190 else 1 else openE (l, s) := rfl
  refine ⟨⟨hl, fun h => two (by rw [eF, if_neg (by rw [h]; exact Bool.noConfusion)])⟩, fun h1 => ⟨⟨hl, h1⟩, hn, fun h => two (by rw [eF, if_pos h1, if_neg (by rw [h]; exact Bool.noConfusion)]), fun h2 => ?_⟩⟩
  have hs : sealedF l s = true ∧ plOk l = true := by
    unfold openOk at h1
    rwa [Bool.and_eq_true] at h1
  have hnum : numsOk l := ⟨by have := hs.1; unfold sealedF at this; rw [Bool.and_eq_true] at this; exact this.1, hl⟩
  have hnx := plan_nx hnum hs.2
  refine ⟨h2, ⟨hn, hnx⟩, fun h => two ?_, fun h3 => ⟨h3, ?_⟩⟩
  · have : fitsAll n l = false := by
      unfold fitsAll sizeOk
      cases e : fitF n (planF l) with
      | false => rfl
      | true => rw [decide_eq_false (by have := h e; omega)]; rfl
    rw [eF, if_pos h1, if_pos h2, if_neg (by rw [this]; exact Bool.noConfusion)]
  have hfa : fitsAll n l = true := by
    unfold fitsAll sizeOk
    rw [h3.1, decide_eq_true (by have := h3.2; omega)]; rfl
  have hpl := plan_plP hnum hs.2 h3.1
  have eC : checkF n l s = if allRun n (planF l) (plRest l) = some [] then 0 else 190 := by rw [eF, if_pos h1, if_pos h2, if_pos hfa]; rfl
  have hrest : numsOk (plRest l) := numsOk_drop hnum _
  obtain ⟨p, ep⟩ : ∃ p, p = planF l := ⟨_, rfl⟩
  obtain ⟨r, er⟩ : ∃ r, r = plRest l := ⟨_, rfl⟩
  rw [← ep] at hpl
  rw [← er] at hrest
  rw [eC]
  rw [← ep, ← er]
  clear eC eF hnx hfa h3 hs h1
  obtain ⟨⟨p0, p1, p2⟩, ⟨q1, q2⟩, q3, q4, q5⟩ := id hpl
  have eRow : ∀ k : Int, p.2.2.2.getD k.toNat [] = rowsD p k := fun _ => rfl
  have eCel : ∀ k o : Int, (rowsD p k).getD o.toNat [] = cellsD p k o := fun _ _ => rfl
  have eDay : ∀ k o d : Int, (cellsD p k o).getD d.toNat 0 = daysAt p k o d := fun _ _ _ => rfl
  simp only [eRow, eCel, eDay]
  have hu : usP n := ⟨h2, hn⟩
  have hno : n.2.2.2.1.length ≤ 2000000000000000 := hn.1.1.2
  have hnk : n.2.2.2.2.2.length ≤ 2000000000000000 := hn.2
  refine ⟨⟨(0, r), ⟨⟨Int.le_refl _, Int.natCast_nonneg _⟩, rfl, hrest⟩, rfl, rfl⟩, fun ⟨k, xs⟩ ⟨⟨k0, k1⟩, kx, kn⟩ => ⟨fun hk => ?_, fun hk => ?_⟩⟩
  · have hk : k < p.2.2.2.length := hk
    have hrw : (rowsD p k).length = n.2.2.2.1.length ∧ ∀ r ∈ rowsD p k, r.length = n.2.2.2.1.length := q5 _ (getD_mem (by omega))
    refine ⟨k0, hk, ⟨(0, xs), ⟨⟨⟨k0, hk⟩, Int.le_refl _, Int.natCast_nonneg _⟩, by rw [st2_zero]; exact kx, kn⟩, rfl, rfl⟩, fun ⟨o, ys⟩ ⟨⟨_, o0, o1⟩, ox, on⟩ => ⟨fun ho => ?_, fun ho => ?_⟩⟩
    · have ho : o < (rowsD p k).length := ho
      have hcl : (cellsD p k o).length = n.2.2.2.1.length := hrw.2 _ (getD_mem (by omega))
      refine ⟨o0, ho, ⟨(0, ys), ⟨⟨⟨k0, hk⟩, ⟨o0, ho⟩, Int.le_refl _, Int.natCast_nonneg _⟩, by rw [st3_zero]; exact ox, on⟩, rfl, rfl⟩, fun ⟨d, zs⟩ ⟨⟨_, _, d0, d1⟩, dx, dn⟩ => ⟨fun hd => ?_, fun hd => ?_⟩⟩
      · have hd : d < (cellsD p k o).length := hd
        have d0 : 0 ≤ d := d0
        have offO : offIn n o := ⟨o0, by show o < _; omega⟩
        have offD : offIn n d := ⟨d0, by omega⟩
        have cla : claIn n k := ⟨k0, by show k < _; omega⟩
        refine ⟨d0, hd, fun hm1 => ⟨in_big (by omega), ⟨(d + 1, zs), ⟨⟨⟨k0, hk⟩, ⟨o0, ho⟩, by show 0 ≤ d + 1; omega, by show d + 1 ≤ _; omega⟩, by rw [st3_skip d0 hm1]; exact dx, dn⟩, ⟨rfl, rfl⟩, by show (_ - (d + 1)).toNat < _; omega⟩⟩, fun hm1 => ⟨⟨⟨hu, hpl⟩, offO, cla⟩, ⟨(0, zs), ⟨Int.le_refl _, by show st4 n p r k o d 0 = _; rw [st4_zero]; exact dx, dn⟩, rfl, rfl⟩, fun ⟨j, us⟩ y ⟨j0, jx, jn⟩ hy => ?_, fun ⟨j, us⟩ ⟨j0, jx, jn⟩ hj => ?_⟩⟩
        · have hy : (cutsF n p k o)[j.toNat]? = some y := hy
          obtain ⟨jl, _⟩ := List.getElem?_eq_some_iff.1 hy
          have hyd : (cutsF n p k o).getD j.toNat 0 = y := by rw [List.getD_eq_getElem?_getD, hy]; rfl
          have hin : cutIn p y = true := by
            have := List.mem_of_getElem? hy
            unfold cutsF at this
            exact (List.mem_filter.1 this).2
          have hin2 : 1440 * p.1 ≤ y ∧ y < 1440 * p.2.1 := by
            unfold cutIn at hin
            rwa [Bool.and_eq_true, decide_eq_true_eq, decide_eq_true_eq] at hin
          have hf : folP n p o d y us := ⟨⟨⟨hu, hpl⟩, offO, offD⟩, ⟨by omega, by omega⟩, jn⟩
          have jx : st4 n p r k o d j.toNat = some us := jx
          have ju : st4 n p r k o d (j.toNat + 1) = if proOk n p k o d y us = true then some (folR n p o d y us) else none := by
            rw [st4_succ, jx]
            show oneRun n p k o d j.toNat us = _
            unfold oneRun
            rw [hyd]
          refine ⟨⟨⟨hf, cla⟩, fun hno => two ?_⟩, fun hok => ⟨⟨⟨hf, cla⟩, hok⟩, ⟨(j + 1, folR n p o d y us), ⟨by show 0 ≤ j + 1; have : 0 ≤ j := j0; omega, by rw [show ((j + 1, folR n p o d y us).1).toNat = j.toNat + 1 by show (j + 1).toNat = _; have : 0 ≤ j := j0; omega, ju, if_pos hok], (folF_ok 19 hf).2⟩, by show (j + 1).toNat = _; have : 0 ≤ j := j0; omega, rfl⟩⟩⟩
          rw [if_neg (by rw [hno]; exact Bool.noConfusion)] at ju
          rw [st_fail ju (by omega) hm1 d0 hd o0 ho k0 hk]
          exact (if_neg (fun h => by cases h)).symm
        · have hj : j.toNat = (cutsF n p k o).length := hj
          have jx : st4 n p r k o d j.toNat = some us := jx
          refine ⟨in_big (by omega), ⟨(d + 1, us), ⟨⟨⟨k0, hk⟩, ⟨o0, ho⟩, by show 0 ≤ d + 1; omega, by show d + 1 ≤ _; omega⟩, by rw [st3_succ d0 hm1, ← hj]; exact jx, jn⟩, ⟨rfl, rfl⟩, by show (_ - (d + 1)).toNat < _; omega⟩⟩
      · have d1 : d ≤ (cellsD p k o).length := d1
        have hd : ¬ d < (cellsD p k o).length := hd
        have de : d = (cellsD p k o).length := by omega
        have o0 : 0 ≤ o := o0
        refine ⟨in_big (by omega), ⟨(o + 1, zs), ⟨⟨⟨k0, hk⟩, by show 0 ≤ o + 1; omega, by show o + 1 ≤ _; omega⟩, by rw [st2_succ o0, ← de]; exact dx, dn⟩, ⟨rfl, rfl⟩, by show (_ - (o + 1)).toNat < _; omega⟩⟩
    · have o1 : o ≤ (rowsD p k).length := o1
      have ho : ¬ o < (rowsD p k).length := ho
      have oe : o = (rowsD p k).length := by omega
      have k0 : 0 ≤ k := k0
      refine ⟨in_big (by omega), ⟨(k + 1, ys), ⟨⟨by show 0 ≤ k + 1; omega, by show k + 1 ≤ _; omega⟩, by rw [st1_succ k0, ← oe]; exact ox, on⟩, ⟨rfl, rfl⟩, by show (_ - (k + 1)).toNat < _; omega⟩⟩
  · have k1 : k ≤ p.2.2.2.length := k1
    have hk : ¬ k < p.2.2.2.length := hk
    have ke : k = p.2.2.2.length := by omega
    have ka : allRun n p r = some xs := by unfold allRun; rw [← ke]; exact kx
    rw [ka]
    have xl : ∀ xs : List Int, (some xs = some []) ↔ xs.length = 0 := fun xs => by
      rw [Option.some.injEq, List.length_eq_zero_iff]
    refine ⟨fun h => two ?_, fun h => ⟨h, (fun h => by cases h), ?_⟩⟩
    · have h : (xs.length : Int) ≠ 0 := h
      rw [if_neg (by rw [xl]; omega)]
    · have h : (xs.length : Int) = 0 := h
      rw [if_pos (by rw [xl]; omega)]
end Go.Eng.In
