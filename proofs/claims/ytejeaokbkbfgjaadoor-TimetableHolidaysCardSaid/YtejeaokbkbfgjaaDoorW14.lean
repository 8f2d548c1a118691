/- The engine, part 14: a state that says less: blocks, and the whole. -/
import Derived.Test.YtejeaokbkbfgjaaDoorW13
set_option linter.unusedSimpArgs false
set_option linter.unusedVariables false
namespace Go.Eng
open Go.RowKit

theorem leL_length {m m' : Mem} : ∀ {xs ys : List AV} {ns : List Prop}, leL m m' xs ys = some ns → xs.length = ys.length
  | [], [], _, _ => rfl
  | x :: xs, y :: ys, ns, h => by
    simp only [leL] at h
    split at h
    · rename_i p q h1 h2; simp [leL_length h2]
    · cases h
  | [], _ :: _, _, h => by simp [leL] at h
  | _ :: _, [], _, h => by simp [leL] at h

theorem leL_at {m m' : Mem} : ∀ {xs ys : List AV} {ns : List Prop} {i : Nat} {y : AV}, leL m m' xs ys = some ns → ys[i]? = some y → ∃ x p, xs[i]? = some x ∧ leA m m' x y = some p ∧ ∀ q ∈ p, q ∈ ns
  | [], [], _, i, y, _, h => by simp at h
  | x :: xs, y :: ys, ns, i, z, h, hi => by
    simp only [leL] at h
    split at h
    · rename_i p q h1 h2
      cases h
      cases i with
      | zero => simp at hi; subst hi; exact ⟨x, p, rfl, h1, fun z hz => List.mem_append.2 (.inl hz)⟩
      | succ i =>
        simp at hi
        obtain ⟨x', p', g1, g2, g3⟩ := leL_at h2 hi
        exact ⟨x', p', by simpa using g1, g2, fun z hz => List.mem_append.2 (.inr (g3 z hz))⟩
    · cases h
  | [], _ :: _, _, _, _, h, _ => by simp [leL] at h
  | _ :: _, [], _, _, _, h, _ => by simp [leL] at h

theorem leB_len {m m' : Mem} {b b' : Blk} {ns : List Prop} (h : leB m m' b b' = some ns) (hn : ∀ q ∈ ns, q) : b.len = b'.len ∧ b.es = b'.es := by
  unfold leB at h
  split at h
  · exact ⟨rfl, leL_length h⟩
  · split at h
    case isFalse => cases h
    split at h
    case isFalse => cases h
    rename_i ht
    subst ht
    split at h
    · cases h
      have e := hn _ (List.mem_singleton.2 rfl)
      simp only at e
      subst e
      exact ⟨rfl, rfl⟩
    · split at h
      · cases h
        have e := hn _ (List.mem_cons_self)
        simp only at e
        subst e
        exact ⟨rfl, rfl⟩
      · cases h
    · unfold leOv at h
      split at h
      · split at h
        · cases h
          have e := hn _ (List.mem_append.2 (.inr (List.mem_singleton.2 rfl)))
          subst e
          exact ⟨by simp [Blk.len, D.set], rfl⟩
        · cases h
      · cases h
    · cases h
  · cases h

section
variable {S : Base} {s s' : St} {a : Act} {w : World} {D : Nat → Prop} {E : Nat → Ent}

theorem leM_at {m m' : Mem} : ∀ {l : Mem} {ns : List Prop} {nm : Nat} {b' : Blk}, leM m m' l = some ns → l.lookup nm = some b' → (∀ q ∈ ns, q) →
    (∃ b p, m.lookup nm = some b ∧ leB m m' b b' = some p ∧ ∀ q ∈ p, q) ∨ (m.lookup nm = none ∧ ∃ el t, b' = .buf el t [] [])
  | [], _, _, _, _, h, _ => by simp at h
  | (k, bk) :: r, ns, nm, b', h, hl, hn => by
    simp only [leM] at h
    split at h
    case h_2 => cases h
    rename_i p q h1 h2
    cases h
    simp only [List.lookup] at hl
    split at hl
    · rename_i e
      cases hl
      have e : nm = k := by simpa using e
      subst e
      split at h1
      · rename_i b hb
        exact .inl ⟨b, p, hb, h1, fun z hz => hn z (List.mem_append.2 (.inl hz))⟩
      · rename_i hb
        split at h1
        · cases h1
          have e : _ = [] := hn _ (List.mem_append.2 (.inl (List.mem_singleton.2 rfl)))
          subst e
          exact .inr ⟨hb, _, _, rfl⟩
        · cases h1
    · exact leM_at h2 hl (fun z hz => hn z (List.mem_append.2 (.inr hz)))

theorem names_of {p : List Prop} (h : leM s.mem s'.mem s'.mem = some p) (hn : ∀ q ∈ p, q) : Names s.mem s'.mem := by
  intro nm b b' hb hb'
  rcases leM_at h hb' hn with ⟨c, ps, h1, h2, h3⟩ | ⟨h1, _⟩
  · rw [hb] at h1; cases h1
    exact leB_len h2 h3
  · rw [hb] at h1; cases h1

theorem leOv_rel (h : SimD S s.sig a w D E) {t : Ty} {xs ys : List t.den} {i : Nat} {v : AV} {ns : List Prop} {e : Ent} {el : TypeId} {raw : List Value} (hc : leOv s.mem s'.mem t xs ys i v = some ns) (hn : ∀ q ∈ ns, q)
    (r1 : w.ownsRow 0 el t.sz (e.handle xs.length) xs.length raw) (r2 : relElems S.P (ctx0 s w D E) t xs [(i, v)] raw) :
    BlkRel S.P 0 (ctx1 s s' w D E) e (.buf el t ys []) := by
  cases t with
  | sl e' =>
    cases v with
    | buf nm2 n2 =>
      simp only [leOv] at hc
      split at hc
      case h_2 => cases hc
      rename_i ns' zs hz
      cases hc
      have ex : Go.Eng.D.set (α := List e'.den) xs i zs = ys := hn _ (List.mem_append.2 (.inr (List.mem_singleton.2 rfl)))
      subst ex
      refine ⟨raw, by rw [Go.Eng.D.set, List.length_set]; exact r1, fun k y hy => ?_⟩
      have hy' : (List.set xs i zs)[k]? = some y := hy
      have hk : k < xs.length := by have := (List.getElem?_eq_some_iff.1 hy').1; rwa [List.length_set] at this
      have hx := r2 k _ (List.getElem?_eq_getElem hk)
      simp only [List.lookup]
      rw [List.getElem?_set] at hy'
      split at hy'
      · rename_i eik
        subst eik
        rw [if_pos hk] at hy'
        cases hy'
        simp only [List.lookup, beq_self_eq_true] at hx
        obtain ⟨_, u, hu, _, hur⟩ := hx
        have e4 : (raw.drop (i * (Ty.sl e').sz)).take (Ty.sl e').sz = [u] := by
          simp only [Ty.sz, Nat.mul_one]
          apply List.ext_getElem?
          intro q
          rw [List.getElem?_take]
          cases q with
          | zero => simp [hu]
          | succ q => simp
        rw [e4]
        exact bufDat_rel h hz (fun q hq => hn q (List.mem_append.2 (.inl hq))) hur
      · rename_i hne
        have hb : (k == i) = false := by simpa using fun e => hne e.symm
        simp only [List.lookup, hb] at hx
        have : y = xs[k] := by rw [List.getElem?_eq_getElem hk] at hy'; exact (Option.some.inj hy').symm
        rw [this]
        exact relCells_mono frzD_mono (fun _ _ => rfl) hx
    | _ => simp [leOv] at hc
  | _ => simp [leOv] at hc

theorem leB_rel (h : SimD S s.sig a w D E) (hN : Names s.mem s'.mem) {e : Ent} {b b' : Blk} {ns : List Prop} (hc : leB s.mem s'.mem b b' = some ns) (hn : ∀ q ∈ ns, q)
    (hb : BlkRel S.P 0 (ctx0 s w D E) e b) : BlkRel S.P 0 (ctx1 s s' w D E) e b' := by
  unfold leB at hc
  split at hc
  · obtain ⟨h0, us, el, h1, h2⟩ := hb
    exact ⟨h0, us, el, h1, leL_rel h hN hc hn h2⟩
  · split at hc
    case isFalse => cases hc
    rename_i he
    subst he
    split at hc
    case isFalse => cases hc
    rename_i ht
    subst ht
    obtain ⟨raw, r1, r2⟩ := hb
    split at hc
    · cases hc
      have ex := hn _ (List.mem_singleton.2 rfl)
      simp only at ex
      subst ex
      refine ⟨raw, r1, fun i y hy => ?_⟩
      have g := r2 i y hy
      simp only [List.lookup] at g ⊢
      exact relCells_mono frzD_mono (fun _ _ => rfl) g
    · rename_i i v i' v'
      split at hc
      · rename_i ns' hv
        cases hc
        have ex := hn _ (List.mem_cons_self)
        have ei : i = i' := hn _ (by simp)
        simp only at ex
        subst ex ei
        refine ⟨raw, r1, fun k y hy => ?_⟩
        have g := r2 k y hy
        by_cases hki : (k == i) = true
        · simp only [List.lookup, hki] at g ⊢
          obtain ⟨g1, u, g2, g3, g4⟩ := g
          exact ⟨g1, u, g2, g3, leA_rel h hN hv (fun q hq => hn q (by simp [hq])) g4⟩
        · have hki : (k == i) = false := by simpa using hki
          simp only [List.lookup, hki] at g ⊢
          exact relCells_mono frzD_mono (fun _ _ => rfl) g
      · cases hc
    · exact leOv_rel h hc hn r1 r2
    · cases hc
  · cases hc

/-- A state may be let go for one that says less. -/
theorem simD_le {ns : List Prop} (h : SimD S s.sig a w D E) (hc : leSt s s' = some ns) (hn : ∀ q ∈ ns, q) :
    ∃ D' E', SimD S s'.sig a w D' E' ∧ (∀ b, D b → D' b) ∧ (∀ b, D' b → D b ∨ blocksOf s.sig.m E b) ∧ ∀ b, blocksOf s'.sig.m E' b → blocksOf s.sig.m E b := by
  unfold leSt at hc
  split at hc
  case isFalse => cases hc
  split at hc
  case h_2 => cases hc
  rename_i p q r hp hq hsv
  cases hc
  have hnp : ∀ z ∈ p, z := fun z hz => hn z (List.mem_append.2 (.inl (List.mem_append.2 (.inl hz))))
  have hnq : ∀ z ∈ q, z := fun z hz => hn z (List.mem_append.2 (.inl (List.mem_append.2 (.inr hz))))
  have hnr : ∀ z ∈ r, z := fun z hz => hn z (List.mem_append.2 (.inr hz))
  have hN := names_of hq hnq
  have keep : ∀ nm, (frzE s.mem E nm).isNil = false → frzE s.mem E nm = E nm ∧ ∃ b, s.mem.lookup nm = some b := fun nm hm => by
    unfold frzE at hm ⊢
    split at hm
    · rename_i b hb; exact ⟨rfl, b, hb⟩
    · cases hm
  refine ⟨frzD s.mem s'.mem D E, frzE s.mem E, ⟨h.sz, ⟨h.df.1, fun d hd => ?_⟩, fun t => ?_, fun nm b' hb' => ?_, fun nm b' hb' hi => ?_, fun nm nm' b b' hb hb' hi hi' e => ?_, h.low, fun b hb => ?_, fun b hb => .inl (h.dlo b hb), fun b hb => ?_, relG.mono (C := ⟨w, D, s.sig.m, E⟩) ⟨fun b hb => .inl hb, fun _ _ => rfl⟩ h.gl, leL_rel h hN hsv hnr h.svr⟩, fun b hb => .inl hb, fun b hb => ?_, fun b hb => ?_⟩
  · obtain ⟨k, g1, g2, g3, g4⟩ := h.df.2 d hd
    exact ⟨k, g1, g2, .inl g3, g4⟩
  · show (s'.tm.getD t .top).rel S.P (ctx1 s s' w D E) (a.tmps.getD t undef)
    rw [List.getD_eq_getElem?_getD]
    cases ht : s'.tm[t]? with
    | none => trivial
    | some y =>
      obtain ⟨x, ps, g1, g2, g3⟩ := leL_at hp ht
      have hx : (s.tm.getD t .top).rel S.P (ctx0 s w D E) (a.tmps.getD t undef) := h.tm t
      rw [List.getD_eq_getElem?_getD, g1] at hx
      exact leA_rel h hN g2 (fun z hz => hnp z (g3 z hz)) hx
  · rcases leM_at hq hb' hnq with ⟨b, ps, h1, h2, h3⟩ | ⟨h1, el, t, rfl⟩
    · have ek : frzE s.mem E nm = E nm := by unfold frzE; rw [h1]
      rw [ek]
      exact leB_rel h hN h2 h3 (h.bl nm b h1)
    · have ek : frzE s.mem E nm = ⟨0, 0, true⟩ := by unfold frzE; rw [h1]
      rw [ek]
      exact ⟨[], ⟨by simp, .inl ⟨rfl, rfl⟩⟩, fun i y hy => by simp at hy⟩
  · obtain ⟨e1, b, hb⟩ := keep nm hi
    rw [e1] at hi ⊢
    obtain ⟨g1, g2, g3⟩ := h.own nm b hb hi
    refine ⟨g1, g2, fun hd => ?_⟩
    rcases hd with hd | ⟨nm2, b2, k1, k2, k3, k4⟩
    · exact g3 hd
    · have : nm = nm2 := h.inj nm nm2 b b2 hb k1 hi k3 k4
      subst this
      have hb2 : s'.mem.lookup nm = some b' := hb'
      rw [k2] at hb2; cases hb2
  · obtain ⟨e1, c1, h1⟩ := keep nm hi
    obtain ⟨e2, c2, h2⟩ := keep nm' hi'
    rw [e1] at hi e; rw [e2] at hi' e
    exact h.inj nm nm' c1 c2 h1 h2 hi hi' e
  · rcases hb with hb | ⟨nm2, b2, k1, k2, k3, k4⟩
    · exact h.dlt b hb
    · rw [k4]; exact (h.own nm2 b2 k1 k3).2.1
  · rcases hb with hb | ⟨nm2, b2, k1, k2, k3, k4⟩
    · exact h.dhi b hb
    · rw [k4]; exact .inr (h.own nm2 b2 k1 k3).1
  · rcases hb with hb | ⟨nm2, b2, k1, k2, k3, k4⟩
    · exact .inl hb
    · exact .inr ⟨nm2, b2, k1, k3, k4⟩
  · obtain ⟨nm, blk, g1, g2, g3⟩ := hb
    obtain ⟨e1, c1, h1⟩ := keep nm g2
    rw [e1] at g2 g3
    exact ⟨nm, c1, h1, g2, g3⟩

theorem sim_le {ns : List Prop} (h : Sim S s.sig a w) (hc : leSt s s' = some ns) (hn : ∀ q ∈ ns, q) : Sim S s'.sig a w := by
  obtain ⟨D, E, h⟩ := h
  obtain ⟨D', E', h', _⟩ := simD_le h hc hn
  exact ⟨D', E', h'⟩

end

end Go.Eng
