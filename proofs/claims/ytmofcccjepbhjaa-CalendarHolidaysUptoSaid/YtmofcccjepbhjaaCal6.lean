/- PeCal6: counts and weeks. -/
import Derived.Test.YtmofcccjepbhjaaCal5
set_option linter.unusedSimpArgs false
set_option linter.unusedVariables false
namespace Go.Eng.Cal
open Go.Proofs

theorem cnt_split {w : List Bool} {h : List Int} {a b : Int} (h1 : a ≤ b) : ∀ k : Nat, cntTo w h a (b + k) = cntTo w h a b + cntTo w h b (b + k)
  | 0 => by
    rw [show b + ((0 : Nat) : Int) = b by omega, cnt_zero]; rfl
  | k + 1 => by
    have e : b + ((k + 1 : Nat) : Int) = b + (k : Int) + 1 := by omega
    rw [e, cnt_succ (by omega), cnt_succ (by omega), cnt_split h1 k]
    omega
theorem cnt_add {w : List Bool} {h : List Int} {a b c : Int} (h1 : a ≤ b) (h2 : b ≤ c) : cntTo w h a c = cntTo w h a b + cntTo w h b c := by
  have := cnt_split (w := w) (h := h) h1 (c - b).toNat
  rwa [show b + ((c - b).toNat : Int) = c by omega] at this
theorem cnt_none {w : List Bool} {h : List Int} {a : Int} : ∀ k : Nat, (∀ y, a ≤ y → y < a + k → workF w h y = false) → cntTo w h a (a + k) = 0
  | 0, _ => by rw [show a + ((0 : Nat) : Int) = a by omega, cnt_zero]
  | k + 1, hn => by
    have e : a + ((k + 1 : Nat) : Int) = a + (k : Int) + 1 := by omega
    rw [e, cnt_succ (by omega), cnt_none k fun y h1 h2 => hn y h1 (by omega), hn (a + k) (by omega) (by omega)]
    rfl
theorem count_eq {w : List Bool} {h : List Int} {a b : Int} (h1 : a ≤ b) (h2 : b ≤ a + 2000) : countF w h a b = (cntTo w h (a + 1) (b + 1) : Int) := by
  unfold countF
  rw [if_pos h2]
  have := cnt_end (w := w) (h := h) (a := a + 1) (n := b - a) (x := b + 1) ⟨by omega, .inl (by omega)⟩ (by omega)
  rw [this]
theorem count_back {w : List Bool} {h : List Int} {a b : Int} (h1 : b ≤ a) : countF w h a b = 0 := by
  unfold countF
  rw [if_pos (by omega)]
  have := listF_len w h (a + 1) (b - a)
  omega
theorem cnt_adds {w : List Bool} {h : List Int} : ∀ {n : Nat} {d e : Int}, addO w h n d = some e → cntTo w h (d + 1) (e + 1) = n
  | 0, d, e, he => by
    simp only [addO, Option.some.injEq] at he
    subst he
    exact cnt_zero _ _ _
  | n + 1, d, e, he => by
    simp only [addO] at he
    cases ho : nextO w h (d + 1) with
    | none => rw [ho] at he; cases he
    | some y =>
      rw [ho] at he
      simp only [Option.bind_some] at he
      obtain ⟨s1, s2, s3, s4⟩ := nextO_some ho
      obtain ⟨g1, _, _⟩ := addO_spec he
      have ih := cnt_adds he
      rw [cnt_add (b := y + 1) (by omega) (by omega), ih, cnt_succ (by omega), s3]
      have := cnt_none (w := w) (h := h) (a := d + 1) (y - (d + 1)).toNat fun q q1 q2 => s4 q q1 (by omega)
      rw [show d + 1 + ((y - (d + 1)).toNat : Int) = y by omega] at this
      rw [this]
      simp only [if_true]
      omega

theorem s_lcounts (z : Int) (w : List Bool) (h : List Int) (r p q n : Int) : SoundC Try.prog G0 6 [cal z w h, .dat S32 r, .dat U8 p, .dat U8 q, .dat U8 n] [] ⟨r32 r ∧ r8 p ∧ r8 q ∧ r8 n, .dat .bool true, []⟩ := by
  refine sound_of_ev (c := mkc K7) KS7 KI0s hm (vc_lcounts z w h r p q n ⟨rfl, fun ⟨⟨r1, r2⟩, ⟨p1, p2⟩, ⟨q1, q2⟩, ⟨n1, n2⟩⟩ => ?_⟩)
  obtain ⟨t1, t2⟩ := tm r (show (0 : Int) < 900001 by omega)
  obtain ⟨_, a2⟩ := tm p (show (0 : Int) < 128 by omega)
  obtain ⟨_, b2⟩ := tm q (show (0 : Int) < 128 by omega)
  obtain ⟨_, c2⟩ := tm n (show (0 : Int) < 31 by omega)
  have a1 := tm0 p1 (show (0 : Int) < 128 by omega)
  have b1 := tm0 q1 (show (0 : Int) < 128 by omega)
  have c1 := tm0 n1 (show (0 : Int) < 31 by omega)
  generalize hd : D.rem r 900001 = d
  generalize hda : D.rem p 128 = a
  generalize hdb : D.rem q 128 = b
  generalize hdc : D.rem n 31 = c
  have hd : r.tmod 900001 = d := hd
  have hda : p.tmod 128 = a := hda
  have hdb : q.tmod 128 = b := hdb
  have hdc : n.tmod 31 = c := hdc
  rw [hd] at t1 t2
  rw [hda] at a1 a2
  rw [hdb] at b1 b2
  rw [hdc] at c1 c2
  cases hf : fineF z w h with
  | false => simp only [cnd_or, cnd_and, D.and, D.not, D.eq, D.ne, D.beq, D.rem, Bool.true_and, eq_self, true_and, and_true, imp_self, implies_true, Bool.not_true, Bool.not_false, Bool.false_or, Bool.true_or, Bool.or_true, Bool.or_false, Bool.or_self, Bool.and_self, Bool.and_true, Bool.false_and, Bool.and_false, Bool.not_eq_true', Bool.not_eq_false', Bool.false_eq_true, Bool.true_eq_false, reduceCtorEq, false_implies, forall_const, D.lt, D.gt, D.ge, D.le, D.sub, D.add, D.nlt, D.nat, D.len, D.ofN, D.nadd, D.ine, decide_eq_true_eq, decide_eq_false_iff_not, decide_false, decide_true, okLocal, okTime, argP, addP, countP, hf]; simp only [inR]; omega
  | true =>
    have hv := fine_valid hf
    generalize hm1 : D.add d a = m
    have hm1 : d + a = m := hm1
    generalize he1 : D.add m b = e
    have he1 : m + b = e := he1
    simp only [cnd_or, cnd_and, D.and, D.not, D.eq, D.ne, D.beq, D.rem, Bool.true_and, eq_self, true_and, and_true, imp_self, implies_true, Bool.not_true, Bool.not_false, Bool.false_or, Bool.true_or, Bool.or_true, Bool.or_false, Bool.or_self, Bool.and_self, Bool.and_true, Bool.false_and, Bool.and_false, Bool.not_eq_true', Bool.not_eq_false', Bool.false_eq_true, Bool.true_eq_false, reduceCtorEq, false_implies, forall_const, D.lt, D.gt, D.ge, D.le, D.sub, D.add, D.nlt, D.nat, D.len, D.ofN, D.nadd, D.ine, decide_eq_true_eq, decide_eq_false_iff_not, decide_false, decide_true, okLocal, okTime, argP, addP, countP, hf, hv]
    have hdd : inDays d = true := inDays_of (by omega) (by omega)
    have hmm : inDays m = true := inDays_of (by omega) (by omega)
    have hee : inDays e = true := inDays_of (by omega) (by omega)
    refine ⟨by simp only [inR]; omega, by omega, by simp only [inR]; omega, by omega, by simp only [inR]; omega, by simp only [inR]; omega, by omega, by simp only [inR]; omega, by simp only [inR]; omega,
      ⟨d + 1, ⟨by omega, .inr rfl⟩, by rw [cnt_zero]; rfl, rfl⟩, fun x hx => ⟨fun hle => ?_, fun hgt => ?_⟩⟩
    · have hx1 := hx.1
      have hx2 := hx.2
      have hc9 : cntTo w h (d + 1) x ≤ 1000 := by
        have := List.length_filter_le (fun d => workF w h d) ((List.range (x - (d + 1)).toNat).map fun (i : Nat) => d + 1 + (i : Int))
        unfold cntTo
        simp only [List.length_map, List.length_range] at this
        omega
      refine ⟨inDays_of (by omega) (by omega), fun hw => ⟨by simp only [inR]; omega, by simp only [inR]; omega, x + 1, ⟨by omega, .inl (by omega)⟩, ⟨?_, rfl⟩, by omega⟩, fun hw => ⟨by simp only [inR]; omega, x + 1, ⟨by omega, .inl (by omega)⟩, ⟨?_, rfl⟩, by omega⟩⟩
      · rw [cnt_succ hx1, hw]; simp
      · rw [cnt_succ hx1, hw]; simp
    · have hxe : x = e + 1 := by
        have hx1 := hx.1
        have hx2 := hx.2
        omega
      subst hxe
      have k1 := count_eq (w := w) (h := h) (a := d) (b := m) (by omega) (by omega)
      have k2 := count_eq (w := w) (h := h) (a := m) (b := e) (by omega) (by omega)
      have k3 := count_eq (w := w) (h := h) (a := d) (b := e) (by omega) (by omega)
      have k4 := cnt_add (w := w) (h := h) (a := d + 1) (b := m + 1) (c := e + 1) (by omega) (by omega)
      have k5 := count_back (w := w) (h := h) (a := e) (b := d) (by omega)
      have hc9 : cntTo w h (d + 1) (e + 1) ≤ 1000 := by
        have := List.length_filter_le (fun d => workF w h d) ((List.range (e + 1 - (d + 1)).toNat).map fun (i : Nat) => d + 1 + (i : Int))
        unfold cntTo
        simp only [List.length_map, List.length_range] at this
        omega
      refine ⟨⟨hdd, hmm⟩, ⟨hmm, hee⟩, by simp only [inR]; omega, fun _ => ⟨hdd, hee⟩, fun _ => ⟨hee, hdd⟩, fun hb => ?_, fun _ => ⟨by simp only [inR]; omega, by omega, ⟨hdd, by omega, by omega⟩, ?_⟩⟩
      · simp only [Bool.or_eq_true, Bool.or_eq_false_iff, Bool.and_eq_true, Bool.and_eq_false_iff, bne_iff_ne, bne_eq_false_iff_eq, beq_iff_eq, beq_eq_false_iff_ne, decide_eq_true_eq, decide_eq_false_iff_not, ne_eq, Bool.not_eq_true', Bool.not_eq_false'] at hb
        omega
      · cases ho : addO w h c.toNat d with
        | none =>
          have hE : addE w h d c = 20 := by simp [addE, ho]
          rw [hE]
          exact ⟨fun hb => (by cases hb), fun hb => (by cases hb), fun hb => (by cases hb), by simp⟩
        | some y =>
          obtain ⟨g1, g2, g3⟩ := addO_spec ho
          have hE : addE w h d c = 0 := by simp [addE, ho]
          have hD : addD w h d c = y := by simp [addD, ho]
          have hc := cnt_adds ho
          have k6 := count_eq (w := w) (h := h) (a := d) (b := y) (by omega) (by omega)
          rw [hE, hD, k6, hc]
          refine ⟨fun _ => ⟨hdd, inDays_of (by omega) (by omega)⟩, fun _ => by simp only [inR]; omega, fun _ => by omega, ?_⟩
          simp only [Bool.or_eq_true, Bool.or_eq_false_iff, Bool.and_eq_true, Bool.and_eq_false_iff, bne_iff_ne, bne_eq_false_iff_eq, beq_iff_eq, beq_eq_false_iff_ne, decide_eq_true_eq, decide_eq_false_iff_not, ne_eq, Bool.not_eq_true', Bool.not_eq_false']
          right; omega

theorem work_nil (w : List Bool) (d : Int) : workF w [] d = w.getD (d % 7).toNat false := by
  simp [workF]

theorem week_count {w : List Bool} (hw : w.length = 7) (d : Int) : cntTo w [] (d + 1) (d + 8) = (w.filter id).length := by
  match w, hw with
  | [w0, w1, w2, w3, w4, w5, w6], _ =>
    have e1 : d + 8 = d + 1 + 1 + 1 + 1 + 1 + 1 + 1 + 1 := by omega
    rw [e1, cnt_succ (by omega), cnt_succ (by omega), cnt_succ (by omega), cnt_succ (by omega), cnt_succ (by omega), cnt_succ (by omega), cnt_succ (by omega), cnt_zero]
    simp only [work_nil]
    have fl : ([w0, w1, w2, w3, w4, w5, w6].filter id).length = (if w0 then 1 else 0) + (if w1 then 1 else 0) + (if w2 then 1 else 0) + (if w3 then 1 else 0) + (if w4 then 1 else 0) + (if w5 then 1 else 0) + (if w6 then 1 else 0) := by
      cases w0 <;> cases w1 <;> cases w2 <;> cases w3 <;> cases w4 <;> cases w5 <;> cases w6 <;> rfl
    rw [fl]
    have g : ∀ (i : Int) (k : Nat), i % 7 = k → (i % 7).toNat = k := fun i k hk => by omega
    have hcase : d % 7 = 0 ∨ d % 7 = 1 ∨ d % 7 = 2 ∨ d % 7 = 3 ∨ d % 7 = 4 ∨ d % 7 = 5 ∨ d % 7 = 6 := by omega
    rcases hcase with hd | hd | hd | hd | hd | hd | hd
    · rw [g (d + 1) 1 (by omega), g (d + 1 + 1) 2 (by omega), g (d + 1 + 1 + 1) 3 (by omega), g (d + 1 + 1 + 1 + 1) 4 (by omega), g (d + 1 + 1 + 1 + 1 + 1) 5 (by omega), g (d + 1 + 1 + 1 + 1 + 1 + 1) 6 (by omega), g (d + 1 + 1 + 1 + 1 + 1 + 1 + 1) 0 (by omega)]
      simp only [List.getD_cons_zero, List.getD_cons_succ]; omega
    · rw [g (d + 1) 2 (by omega), g (d + 1 + 1) 3 (by omega), g (d + 1 + 1 + 1) 4 (by omega), g (d + 1 + 1 + 1 + 1) 5 (by omega), g (d + 1 + 1 + 1 + 1 + 1) 6 (by omega), g (d + 1 + 1 + 1 + 1 + 1 + 1) 0 (by omega), g (d + 1 + 1 + 1 + 1 + 1 + 1 + 1) 1 (by omega)]
      simp only [List.getD_cons_zero, List.getD_cons_succ]; omega
    · rw [g (d + 1) 3 (by omega), g (d + 1 + 1) 4 (by omega), g (d + 1 + 1 + 1) 5 (by omega), g (d + 1 + 1 + 1 + 1) 6 (by omega), g (d + 1 + 1 + 1 + 1 + 1) 0 (by omega), g (d + 1 + 1 + 1 + 1 + 1 + 1) 1 (by omega), g (d + 1 + 1 + 1 + 1 + 1 + 1 + 1) 2 (by omega)]
      simp only [List.getD_cons_zero, List.getD_cons_succ]; omega
    · rw [g (d + 1) 4 (by omega), g (d + 1 + 1) 5 (by omega), g (d + 1 + 1 + 1) 6 (by omega), g (d + 1 + 1 + 1 + 1) 0 (by omega), g (d + 1 + 1 + 1 + 1 + 1) 1 (by omega), g (d + 1 + 1 + 1 + 1 + 1 + 1) 2 (by omega), g (d + 1 + 1 + 1 + 1 + 1 + 1 + 1) 3 (by omega)]
      simp only [List.getD_cons_zero, List.getD_cons_succ]; omega
    · rw [g (d + 1) 5 (by omega), g (d + 1 + 1) 6 (by omega), g (d + 1 + 1 + 1) 0 (by omega), g (d + 1 + 1 + 1 + 1) 1 (by omega), g (d + 1 + 1 + 1 + 1 + 1) 2 (by omega), g (d + 1 + 1 + 1 + 1 + 1 + 1) 3 (by omega), g (d + 1 + 1 + 1 + 1 + 1 + 1 + 1) 4 (by omega)]
      simp only [List.getD_cons_zero, List.getD_cons_succ]; omega
    · rw [g (d + 1) 6 (by omega), g (d + 1 + 1) 0 (by omega), g (d + 1 + 1 + 1) 1 (by omega), g (d + 1 + 1 + 1 + 1) 2 (by omega), g (d + 1 + 1 + 1 + 1 + 1) 3 (by omega), g (d + 1 + 1 + 1 + 1 + 1 + 1) 4 (by omega), g (d + 1 + 1 + 1 + 1 + 1 + 1 + 1) 5 (by omega)]
      simp only [List.getD_cons_zero, List.getD_cons_succ]; omega
    · rw [g (d + 1) 0 (by omega), g (d + 1 + 1) 1 (by omega), g (d + 1 + 1 + 1) 2 (by omega), g (d + 1 + 1 + 1 + 1) 3 (by omega), g (d + 1 + 1 + 1 + 1 + 1) 4 (by omega), g (d + 1 + 1 + 1 + 1 + 1 + 1) 5 (by omega), g (d + 1 + 1 + 1 + 1 + 1 + 1 + 1) 6 (by omega)]
      simp only [List.getD_cons_zero, List.getD_cons_succ]; omega

theorem trueTo_succ {w : List Bool} {i : Int} (h0 : 0 ≤ i) (h1 : i < w.length) : trueTo w (i + 1) = trueTo w i + (if w.getD i.toNat false then 1 else 0) := by
  unfold trueTo
  have hlt : i.toNat < w.length := by omega
  rw [show (i + 1).toNat = i.toNat + 1 by omega, List.take_add_one, List.getElem?_eq_getElem hlt, List.getD_eq_getElem?_getD, List.getElem?_eq_getElem hlt]
  simp only [Option.toList_some, List.filter_append, List.length_append, Option.getD_some]
  cases w[i.toNat] <;> rfl

theorem s_lweeks (z : Int) (w : List Bool) (h : List Int) (r : Int) : SoundC Try.prog G0 7 [cal z w h, .dat S32 r] [] ⟨r32 r, .dat .bool true, []⟩ := by
  refine sound_of_ev (c := { mkc K7 with mb := fun t => t == 2 }) KS7 KI0s hm (vc_lweeks z w h r ⟨rfl, fun ⟨r1, r2⟩ => ?_⟩)
  obtain ⟨t1, t2⟩ := tm r (show (0 : Int) < 900001 by omega)
  generalize hd : D.rem r 900001 = d
  have hd : r.tmod 900001 = d := hd
  rw [hd] at t1 t2
  cases hf : fineF z w [] with
  | false => simp only [cnd_or, cnd_and, D.and, D.not, D.eq, D.ne, D.beq, D.rem, Bool.true_and, eq_self, true_and, and_true, imp_self, implies_true, Bool.not_true, Bool.not_false, Bool.false_or, Bool.true_or, Bool.or_true, Bool.or_false, Bool.or_self, Bool.and_self, Bool.and_true, Bool.false_and, Bool.and_false, Bool.not_eq_true', Bool.not_eq_false', Bool.false_eq_true, Bool.true_eq_false, reduceCtorEq, false_implies, forall_const, D.lt, D.gt, D.ge, D.le, D.sub, D.add, D.nlt, D.nat, D.len, D.ofN, D.nadd, D.ine, decide_eq_true_eq, decide_eq_false_iff_not, decide_false, decide_true, okLocal, okTime, argP, addP, countP, hf]; simp only [inR]; omega
  | true =>
    have hv := fine_valid hf
    obtain ⟨⟨_, _, w7, _⟩, _⟩ := validF_iff.1 hv
    simp only [cnd_or, cnd_and, D.and, D.not, D.eq, D.ne, D.beq, D.rem, Bool.true_and, eq_self, true_and, and_true, imp_self, implies_true, Bool.not_true, Bool.not_false, Bool.false_or, Bool.true_or, Bool.or_true, Bool.or_false, Bool.or_self, Bool.and_self, Bool.and_true, Bool.false_and, Bool.and_false, Bool.not_eq_true', Bool.not_eq_false', Bool.false_eq_true, Bool.true_eq_false, reduceCtorEq, false_implies, forall_const, D.lt, D.gt, D.ge, D.le, D.sub, D.add, D.nlt, D.nat, D.len, D.ofN, D.nadd, D.ine, decide_eq_true_eq, decide_eq_false_iff_not, decide_false, decide_true, okLocal, okTime, argP, addP, countP, hf, hv]
    simp only [D.ilen, D.ile, D.ilt, D.get]
    refine ⟨by simp only [inR]; omega, by omega, ⟨0, ⟨by omega, by omega⟩, rfl, rfl⟩, fun x hx => ⟨fun hlt => ?_, fun hge => ?_⟩⟩
    · have hx1 := hx.1
      have hle : trueTo w x ≤ 1000 := by
        unfold trueTo
        have := List.length_filter_le id (w.take x.toNat)
        rw [List.length_take] at this
        omega
      refine ⟨hx1, hlt, fun hw => ⟨by simp only [inR]; omega, by simp only [inR]; omega, x + 1, ⟨by omega, by omega⟩, ⟨?_, rfl⟩, by omega⟩, fun hw => ⟨by simp only [inR]; omega, x + 1, ⟨by omega, by omega⟩, ⟨?_, rfl⟩, by omega⟩⟩
      · have hw : w.getD x.toNat false = true := hw
        rw [trueTo_succ hx1 hlt, hw]; simp
      · have hw : w.getD x.toNat false = false := hw
        rw [trueTo_succ hx1 hlt, hw]; simp
    · have hx7 : trueTo w x = (w.filter id).length := by
        have := hx.2
        unfold trueTo
        rw [List.take_of_length_le (by omega)]
      rw [hx7]
      have hdd : inDays d = true := inDays_of (by omega) (by omega)
      have hd7 : inDays (d + 7) = true := inDays_of (by omega) (by omega)
      have same : workF w [] d = workF w [] (d + 7) := by
        rw [work_nil, work_nil, show (d + 7) % 7 = d % 7 by omega]
      have hcnt := week_count w7 d
      have k1 := count_eq (w := w) (h := []) (a := d) (b := d + 7) (by omega) (by omega)
      rw [show d + 7 + 1 = d + 8 by omega, hcnt] at k1
      have hE : (nextE w [] d == 0) = decide (((w.filter id).length : Int) > 0) := by
        cases ho : nextO w [] d with
        | none =>
          have e0 : nextE w [] d = 20 := by simp [nextE, ho]
          have : cntTo w [] (d + 1) (d + 8) = 0 := by
            have := cnt_none (w := w) (h := []) (a := d + 1) 7 fun y y1 y2 => nextO_none ho (by omega) (by omega)
            rwa [show d + 1 + ((7 : Nat) : Int) = d + 8 by omega] at this
          rw [hcnt] at this
          rw [e0, this]; rfl
        | some y =>
          obtain ⟨s1, s2, s3, _⟩ := nextO_some ho
          have e0 : nextE w [] d = 0 := by simp [nextE, ho]
          rw [work_nil] at s3
          have hm : true ∈ w := by
            rw [List.getD_eq_getElem?_getD] at s3
            cases hq : w[(y % 7).toNat]? with
            | none => rw [hq] at s3; cases s3
            | some v =>
              rw [hq] at s3
              simp only [Option.getD_some] at s3
              subst s3
              exact List.mem_of_getElem? hq
          have : 0 < (w.filter id).length := List.length_pos_of_mem (List.mem_filter.2 ⟨hm, rfl⟩)
          rw [e0]
          simp [this]
      refine ⟨hdd, hdd, by simp only [inR]; omega, hd7, fun _ => by simp only [inR]; omega, fun _ => ⟨hdd, hd7⟩, ?_⟩
      show (workF w [] d == workF w [] (d + 7) && countF w [] d (d + 7) == ((w.filter id).length : Int) && (nextE w [] d == 0) == decide (((w.filter id).length : Int) > 0)) = true
      rw [same, k1, hE]
      simp
end Go.Eng.Cal
