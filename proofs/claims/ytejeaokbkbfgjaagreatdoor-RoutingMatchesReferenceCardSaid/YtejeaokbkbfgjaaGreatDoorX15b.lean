/- The engine, part 15b: the code does what was evaluated. -/
import Derived.Test.YtejeaokbkbfgjaaGreatDoorX15
set_option linter.unusedSimpArgs false
set_option linter.unusedVariables false
namespace Go.Eng
open Go.RowKit
structure OkS (c : Cfg) (S : Base) : Prop where
  P : c.P = S.P
  G : c.G = S.G
  K : KSound S.P S.G c.K
  I : KISound S.P S.G c.KI
  m : S.P.follows .mixedOrders = true
  rd : S.rd ≠ none → S.sv ≠ []
  nod : S.rd = none → S.nod = !c.rng
theorem SimD.mark {S : Base} {σ : Sig} {a : Act} {w : World} {D : Nat → Prop} {E : Nat → Ent} (h : SimD S σ a w D E) (hn : S.nod = false) {k : Nat} (hk : S.w0.heap.size ≤ k) (hD : D k) (hw : w.heap[k]? = some (.deferred (some []))) (hne : ∀ d ∈ a.defers, d.target ≠ .collected k) :
    SimD S σ { a with defers := { target := .collected k, args := #[] } :: a.defers } w D E :=
  ⟨h.sz, ⟨⟨fun e => (by rw [hn] at e; cases e), List.Pairwise.cons (fun d hd => (hne d hd).symm) h.df.1.2⟩, fun d hd => by
    rcases List.mem_cons.1 hd with e | e
    · exact ⟨k, e, hk, hD, hw⟩
    · exact h.df.2 d e⟩, h.tm, h.bl, h.own, h.inj, h.low, h.dlt, h.dlo, h.dhi, h.gl, h.svr, h.pv⟩
theorem stepR_scope {P : Program} {b : Frame} {a : Act} {k : List Item} {cs : List Frame} {w : World} {c : Code} : step P (lone (b.atR a (.code (.scope c) :: k)) cs w) = .next (lone (b.atR a (.code c :: .inScope c :: k)) cs w) :=
  step_lone_go (by simp [stepG, stepG.exec, Frame.atR])
theorem stepR_inScope {P : Program} {b : Frame} {a : Act} {k : List Item} {cs : List Frame} {w : World} {c : Code} : step P (lone (b.atR a (.inScope c :: k)) cs w) = .next (lone (b.atR a k) cs w) :=
  step_lone_go (by simp [stepG, stepG.exec, Frame.atR])
theorem wpIn_scope {F : Fence} {n : Nat} {P : Program} {Q : Exit → Act → World → Prop} {a : Act} {w : World} {c : Code}
    (h : c.wpIn F n P (fun e a w => match e with | .goto _ => False | e => Q e a w) a w) : (Code.scope c).wpIn F n P Q a w := by
  intro b k cs hro hb hr
  have h0 : (lone (b.atR a (.code (.scope c) :: k)) cs w).fenced P F := fenced_calm hb hr rfl
  obtain ⟨e, a₁, w₁, hq, harr⟩ := h b (.inScope c :: k) cs hro hb hr
  cases e with
  | normal => exact ⟨.normal, a₁, w₁, hq, .head h0 stepR_scope (StepsIn.trans harr (.one (fenced_calm hb hr rfl) stepR_inScope))⟩
  | exit id' =>
    have hx : exitTo id' (.inScope c :: k) = exitTo id' k := by simp [exitTo]
    exact ⟨.exit id', a₁, w₁, hq, fun k' hk => .head h0 stepR_scope (harr.1 k' (by rw [hx]; exact hk)),
      fun hr' hk => let ⟨k₁, h1, h2⟩ := harr.2 hr' (by rw [hx]; exact hk); ⟨k₁, h1, .head h0 stepR_scope h2⟩⟩
  | goto l => exact hq.elim
  | ret => exact ⟨_, a₁, w₁, hq, .of_steps (.one h0 stepR_scope) harr⟩
  | panic ch => exact ⟨_, a₁, w₁, hq, .of_steps (.one h0 stepR_scope) harr⟩
  | outgrown => exact ⟨_, a₁, w₁, hq, .of_steps (.one h0 stepR_scope) harr⟩
def EvOk (c : Cfg) (A : Ann) (x : Code) : Prop := ∀ (S : Base) (s : St) (Q : Exit → St → Prop) (R : Exit → Act → World → Prop), OkS c S →
    ev c A x s Q → s.tm.length = S.N → (∀ e s', Q e s' → s'.tm.length = S.N → ∀ a w, Sim S s'.sig a w → R e a w) → ∀ a w, Sim S s.sig a w → x.wpIn S.F 0 S.P R a w
theorem rng_ok {c : Cfg} {A : Ann} {g : Operand} {ps : Array Tmp} {as b : Code} (iha : EvOk c A as) (ihb : EvOk c A b) : EvOk c A (.rangeFunc g ps as b) := by
  intro S s Q R H h hl hR a w hs
  unfold ev at h
  split at h
  case h_2 => exact h.elim
  rename_i gf caps p rid hev hps hid
  split at h
  case h_2 => exact h.elim
  rename_i it sp hki hsp
  split at h
  case isFalse => exact h.elim
  rename_i hc
  obtain ⟨hpre, ⟨x0, i1, i2, i3⟩, hround, hdone⟩ := h
  simp only [Bool.and_eq_true, decide_eq_true_eq, List.isEmpty_iff] at hc
  obtain ⟨⟨⟨⟨⟨hgoes, hnm⟩, hsv⟩, hrng⟩, hone⟩, hp⟩ := hc
  have hone : it.t.sz = 1 := by unfold one1 at hone; simpa using hone
  obtain ⟨D, E, hd⟩ := hs
  have hSsv : S.sv = [] := by
    have := AV.relL_length hd.svr
    have e : s.sig.sv = [] := hsv
    rw [e] at this
    exact List.eq_nil_of_length_eq_zero (by simpa using this.symm)
  have hrd : S.rd = none := by
    cases hr : S.rd with
    | none => rfl
    | some l => exact (H.rd (by rw [hr]; simp) hSsv).elim
  have hF : S.F = Fence.wide := by unfold Base.F; rw [hrd]
  have hnod : S.nod = false := by rw [H.nod hrd, hrng]; rfl
  have hgv := evT_rel hd g
  rw [← H.G, hev] at hgv
  obtain ⟨cs, hga, hcaps⟩ := hgv
  -- the state as the loop is told it
  unfold leP at i3
  split at i3
  case h_2 => exact i3.elim
  rename_i ns0 hle0
  have hlen0 := leSt_len hle0
  obtain ⟨D1, E1, hd1, up1, dn1, bl1⟩ := simD_le hd hle0 (all_out i3).1
  obtain ⟨dk, hdk⟩ : ∃ dk, dk = w.heap.size := ⟨_, rfl⟩
  rw [hF]
  refine wpIn_rangeFunc fun fn _ => ?_
  rw [show Fence.wide.round = none from rfl]
  obtain ⟨rec, hrec⟩ : ∃ rec : LoopState → Option Code → Loop, rec = fun st pe => { state := st, pending := pe, fn, tmps := a.tmps, params := ps, assign := as, body := b, defers := w.heap.size } := ⟨_, rfl⟩
  obtain ⟨W1, hW1⟩ : ∃ W1, (w.alloc (.deferred (some []))).alloc (.loop (rec .ready none)) = W1 := ⟨_, rfl⟩
  have hsz1 : W1.heap.size = w.heap.size + 2 := by rw [← hW1]; simp
  have hL1 : W1.heap[w.heap.size + 1]? = some (.loop (rec .ready none)) := by
    rw [← hW1]; have := World.alloc_heap_new (w.alloc (.deferred (some []))) (.loop (rec .ready none)); rwa [World.size_alloc] at this
  have hK1 : W1.heap[w.heap.size]? = some (.deferred (some [])) := by
    rw [← hW1]; exact (Below.heap_alloc _ _ _ (by simp)).trans (World.alloc_heap_new w _)
  have hb1 : Below w.heap.size w W1 := by
    rw [← hW1]; exact ((Below.refl _ w).alloc (Nat.le_refl _) _).alloc (by simp) _
  have hbase : S.w0.heap.size ≤ w.heap.size := hd1.low.size
  have hne1 : ∀ d ∈ a.defers, d.target ≠ .collected w.heap.size := fun d hd e => by
    obtain ⟨k, g1, _, g3, _⟩ := hd1.df.2 d hd
    rw [g1] at e
    injection e with e
    have := hd1.dlt k g3
    omega
  -- the state behind the entry
  have hd2 : SimD S (sp.st x0).sig { a with defers := { target := .collected w.heap.size, args := #[] } :: a.defers } W1 (fun b => D1 b ∨ b = w.heap.size) E1 := by
    refine (hd1.world (D' := fun b => D1 b ∨ b = w.heap.size) hb1 (fun b => ⟨fun g => ?_, fun g => ?_⟩) (fun b g => ?_)).mark hnod hbase (.inr rfl) hK1 hne1
    · rcases g with g | g
      · exact .inl g
      · exact .inr ⟨⟨by omega, by omega⟩, .inr g⟩
    · rcases g with g | ⟨_, g⟩
      · exact .inl g
      · exact g
    · rcases g with g | g
      · have := hd1.dlt b g; omega
      · omega
  refine ⟨w.heap.size + 1, [{ target := .collected w.heap.size, args := #[] }], W1, { target := .fn (.func gf) cs.toArray, args := #[.func (.yield (w.heap.size + 1)) #[] #[]] }, W1, gf,
    #[.func (.yield (w.heap.size + 1)) #[] #[]] ++ cs.toArray, W1, ?_, ?_, ?_, ?_, fun h => (by cases h), ?_⟩
  · rw [← hW1, hrec]; exact run_enterLoop_outer _ _ _ _ _
  · simp only [resolve, hga]
    simp [go_sem]
  · intro f' _; trivial
  · have := goes_spec (P := S.P) (by rw [← H.P]; exact hgoes) W1 (#[.func (.yield (w.heap.size + 1)) #[] #[]] ++ cs.toArray)
    simp only [invoke]
    exact this
  have hcaps1 : AV.relL S.P ⟨W1, (fun b => D1 b ∨ b = w.heap.size), noM, noE⟩ caps cs :=
    AV.relL_mono (C := ⟨w, D, s.sig.m, E⟩) (C' := ⟨W1, (fun b => D1 b ∨ b = w.heap.size), noM, noE⟩) ⟨fun b g => .inl (up1 b g), fun b g => hb1.block b (hd.dlt b g)⟩ (fun k hk => by rw [hnm] at hk; cases hk) hcaps
  have hl2 : ∀ b, D1 b ∨ b = w.heap.size → b ≠ w.heap.size + 1 := fun b g e => by
    rcases g with g | g
    · have := hd1.dlt b g; omega
    · omega
  have he2 : ¬ blocksAll (sp.st x0).sig.m E1 (w.heap.size + 1) := fun g0 => by
    have := (hd1.ownAll g0).2.1; omega
  have hsz0 : a.tmps.size = S.N := hd.sz
  obtain ⟨J, hJ⟩ : ∃ J : Nat → World → (Nat → Prop) → Prop, J = fun k W Dit => ∃ x D E, sp.inv x ∧ sp.μ x = k ∧
      SimD S (sp.st x).sig { a with defers := { target := .collected w.heap.size, args := #[] } :: a.defers } W D E ∧ (∀ b, Dit b → D b) ∧
      W.heap[w.heap.size + 1]? = some (.loop (rec .ready none)) ∧ ¬ D (w.heap.size + 1) ∧ ¬ blocksAll (sp.st x).sig.m E (w.heap.size + 1) ∧ (sp.st x).tm.length = S.N := ⟨_, rfl⟩
  obtain ⟨JX, hJX⟩ : ∃ JX : World → (Nat → Prop) → Prop, JX = fun W Dit => ∃ cc s2 D E, ((cc = Code.ret ∧ Q .ret s2) ∨ ∃ i, cc = Code.exit i ∧ Q (.exit i) s2) ∧ s2.tm.length = S.N ∧
      SimD S s2.sig { a with defers := { target := .collected w.heap.size, args := #[] } :: a.defers } W D E ∧ (∀ b, Dit b → D b) ∧
      W.heap[w.heap.size + 1]? = some (.loop (rec .done (some cc))) ∧ ¬ D (w.heap.size + 1) ∧ ¬ blocksAll s2.sig.m E (w.heap.size + 1) := ⟨_, rfl⟩
  have grow : ∀ {W W2 : World} {σ : Sig} {D : Nat → Prop} {E : Nat → Ent}, SimD S σ { a with defers := { target := .collected w.heap.size, args := #[] } :: a.defers } W D E → Below W.heap.size W W2 →
      SimD S σ { a with defers := { target := .collected w.heap.size, args := #[] } :: a.defers } W2 (fun b => D b ∨ Fresh W W2 b) E := fun h hb =>
    h.pureCall hb
  refine (H.I gf caps it hki hpre (w.heap.size + 1) J JX W1 (fun b => D1 b ∨ b = w.heap.size) cs (fun b g => ?_) ?_ hcaps1 ?_ ?_ ?_ ?_ ?_ ?_).mono ?_
  · rcases g with g | g
    · have := hd1.dlt b g; omega
    · omega
  · exact relG.mono (C := ⟨w, D, s.sig.m, E⟩) (C' := ⟨W1, (fun b => D1 b ∨ b = w.heap.size), noM, noE⟩) ⟨fun b g => .inl (up1 b g), fun b g => hb1.block b (hd.dlt b g)⟩ hd.gl
  · subst hJ
    rintro k W W2 Dit ⟨x, D', E', j1, j2, j3, j4, j5, j6, j7, j8⟩ hb
    have hlt : w.heap.size + 1 < W.heap.size := (Array.getElem?_eq_some_iff.1 j5).1
    refine ⟨x, _, E', j1, j2, grow j3 hb, fun b g => g.imp (j4 b) (fun g => g), (hb.block _ hlt).trans j5, fun g => ?_, j7, j8⟩
    rcases g with g | g
    · exact j6 g
    · have := g.1; omega
  · subst hJ
    rintro k W Dit Dit2 ⟨x, D', E', j1, j2, j3, j4, j5, j6, j7, j8⟩ hsub
    exact ⟨x, D', E', j1, j2, j3, fun b g => j4 b (hsub b g), j5, j6, j7, j8⟩
  · subst hJX
    rintro W W2 Dit ⟨cc, s2, D', E', j1, j2, j3, j4, j5, j6, j7⟩ hb
    have hlt : w.heap.size + 1 < W.heap.size := (Array.getElem?_eq_some_iff.1 j5).1
    refine ⟨cc, s2, _, E', j1, j2, grow j3 hb, fun b g => g.imp (j4 b) (fun g => g), (hb.block _ hlt).trans j5, fun g => ?_, j7⟩
    rcases g with g | g
    · exact j6 g
    · have := g.1; omega
  · subst hJX
    rintro W Dit Dit2 ⟨cc, s2, D', E', j1, j2, j3, j4, j5, j6, j7⟩ hsub
    exact ⟨cc, s2, D', E', j1, j2, j3, fun b g => j4 b (hsub b g), j5, j6, j7⟩
  · -- one round
    intro k y W Dit u hy hj hltd hu
    rw [hJ] at hj
    obtain ⟨x, D', E', j1, j2, j3, j4, j5, j6, j7, j8⟩ := hj
    have hlt : w.heap.size + 1 < W.heap.size := (Array.getElem?_eq_some_iff.1 j5).1
    have hpsz : ps.size = 1 := by have := congrArg List.length hps; simpa using this
    have hyl := run_yield (P := S.P) (args := #[u]) j5 (by rw [hrec]; simp [hpsz])
    rw [hrec] at hyl
    have htm : (ps.zip #[u]).foldl (fun t (p, v) => t.setIfInBounds p v) a.tmps = a.tmps.setIfInBounds p u := by
      have e : ps = #[p] := by apply Array.ext'; exact hps
      rw [e]; simp
    have xsv : (sp.st x).sig.sv = [] := by
      have := AV.relL_length j3.svr
      rw [hSsv] at this
      exact List.eq_nil_of_length_eq_zero (by simpa using this)
    refine ⟨fn, _, as, b, hyl, ?_⟩
    rw [htm]
    refine roundIn_of_wpIn trivial ?_
    -- the round's frame
    have hpN : p < S.N := by rw [← hl]; exact hp
    have tms : ∀ t, ((roundSt p it.t y (sp.st x)).sig.T t).rel S.P ⟨W, D', (sp.st x).sig.m, E'⟩ ((a.tmps.setIfInBounds p u).getD t undef) := by
      intro t
      show (((sp.st x).tm.set p (.dat it.t y)).getD t .top).rel S.P _ _
      by_cases e : t = p
      · subst e
        have h1 : ((sp.st x).tm.set t (.dat it.t y)).getD t .top = .dat it.t y := by
          rw [List.getD_eq_getElem?_getD, List.getElem?_set_self (by rw [j8]; exact hpN)]; rfl
        have h2 : (a.tmps.setIfInBounds t u).getD t undef = u := by simp [Array.getD, hsz0, hpN]
        rw [h1, h2]
        exact relCells_mono j4 (fun _ _ => rfl) hu
      · have h1 : ((sp.st x).tm.set p (.dat it.t y)).getD t .top = (sp.st x).tm.getD t .top := by
          simp only [List.getD_eq_getElem?_getD]
          rw [List.getElem?_set_ne (fun h => e h.symm)]
        have h2 : (a.tmps.setIfInBounds p u).getD t undef = a.tmps.getD t undef := by
          simp only [Array.getD_eq_getD_getElem?, Array.getElem?_setIfInBounds]
          rw [if_neg (fun h => e h.symm)]
        rw [h1, h2]
        exact j3.tm t
    have svs : AV.relL S.P ⟨W, D', (sp.st x).sig.m, E'⟩ (sp.st x).tm a.tmps.toList := by
      refine AV.relL_mk (by rw [j8, Array.length_toList, hsz0]) fun i av v hi hv => ?_
      have := j3.tm i
      have e1 : (sp.st x).sig.T i = av := by show (sp.st x).tm.getD i .top = av; rw [List.getD_eq_getElem?_getD, hi]; rfl
      have e2 : a.tmps.getD i undef = v := by
        rw [Array.getD_eq_getD_getElem?]
        simp only [Array.getElem?_toList] at hv
        rw [hv]; rfl
      rw [e1] at this
      simpa only [e2] using this
    have hent := j3.enter xsv (w.heap.size + 1) (tm := (roundSt p it.t y (sp.st x)).sig.T) (tmps := a.tmps.setIfInBounds p u) (by simpa using hsz0) tms svs
    obtain ⟨Sr, hSr⟩ : ∃ Sr : Base, Sr = { P := S.P, w0 := W, D0 := D', N := S.N, O := blocksAll (sp.st x).sig.m E', G := S.G, sv := a.tmps.toList, rd := some (w.heap.size + 1), nod := true } := ⟨_, rfl⟩
    rw [← hSr] at hent
    have hNpos : a.tmps.toList ≠ [] := fun e => by
      have h0 : a.tmps.size = 0 := by rw [← Array.length_toList, e]; rfl
      rw [hsz0] at h0
      exact absurd hpN (by rw [h0]; exact Nat.not_lt_zero _)
    have HOr : OkS c Sr := by
      subst hSr
      exact ⟨H.P, H.G, H.K, H.I, H.m, fun _ => hNpos, fun h => (by cases h)⟩
    have hFr : Sr.F = Fence.wide.inRound (w.heap.size + 1) := by subst hSr; rfl
    have hrx := hround x y j1 (by rw [j2]; exact hy)
    have hlr : (roundSt p it.t y (sp.st x)).tm.length = Sr.N := by
      subst hSr
      show ((sp.st x).tm.set p (.dat it.t y)).length = S.N
      rw [List.length_set]; exact j8
    rw [← hFr]
    have hPr : Sr.P = S.P := by rw [hSr]
    rw [← hPr]
    refine iha Sr _ _ _ HOr hrx hlr (fun e s1 hq hl1 a1 w1 hs1 => ?_) _ W ⟨D', E', hent⟩
    cases e <;> first
      | exact hq.elim
      | skip
    obtain ⟨D3, E3, h3⟩ := hs1
    have nl3 : ¬ D3 (w.heap.size + 1) := fun g => by
      have := h3.dhi _ g
      rw [hSr] at this
      rcases this with g1 | g1 | g1
      · exact j6 g1
      · simp only at g1; omega
      · exact j7 g1
    have ne3 : ¬ blocksAll s1.sig.m E3 (w.heap.size + 1) := fun g0 => by
      have := (h3.ownAll g0).1
      rw [hSr] at this
      rcases this with g4 | g4
      · simp only at g4; omega
      · exact j7 g4
    have hl3 : w1.heap[w.heap.size + 1]? = some (.loop (rec .ready none)) := by
      have := h3.low.block (w.heap.size + 1) (by rw [hSr]; exact hlt) (by rw [hSr]; exact j7)
      rw [this, hSr]; exact j5
    have hdef3 : a1.defers = [] := h3.df.1.1 (by rw [hSr])
    have hlt3 : w.heap.size + 1 < w1.heap.size := (Array.getElem?_eq_some_iff.1 hl3).1
    have hbr := run_beginRound (P := S.P) hl3 (by rw [hrec])
    refine ⟨_, hPr ▸ hbr, ?_⟩
    have h4 := h3.again (.loop { rec .ready none with state := .busy }) hdef3 nl3 ne3
    obtain ⟨Sq, hSq⟩ : ∃ Sq : Base, Sq = { Sr with w0 := w1.putObj (w.heap.size + 1) (.loop { rec .ready none with state := .busy }), D0 := D3, O := blocksAll s1.sig.m E3 } := ⟨_, rfl⟩
    rw [← hSq] at h4
    have HOq : OkS c Sq := by
      rw [hSq]
      exact ⟨HOr.P, HOr.G, HOr.K, HOr.I, HOr.m, HOr.rd, HOr.nod⟩
    have hFq : Sq.F = Sr.F := by rw [hSq]; rfl
    have hPq : Sq.P = Sr.P := by rw [hSq]
    rw [← hFq, ← hPq]
    have hlq : s1.tm.length = Sq.N := by rw [hSq]; exact hl1
    refine ihb Sq _ _ _ HOq hq hlq (fun e s2 hq2 hl2 a2 w2 hs2 => ?_) _ _ ⟨D3, E3, h4⟩
    obtain ⟨D5, E5, h5⟩ := hs2
    -- what lay there, lies there
    have nl5 : ¬ D5 (w.heap.size + 1) := fun g => by
      have := h5.dhi _ g
      rw [hSq] at this
      rcases this with g1 | g1 | g1
      · exact nl3 g1
      · simp only [World.putObj_size] at g1; omega
      · exact ne3 g1
    have ne5 : ¬ blocksAll s2.sig.m E5 (w.heap.size + 1) := fun g0 => by
      have := (h5.ownAll g0).1
      rw [hSq] at this
      rcases this with g4 | g4
      · simp only [World.putObj_size] at g4; omega
      · exact ne3 g4
    have hl5 : w2.heap[w.heap.size + 1]? = some (.loop { rec .ready none with state := .busy }) := by
      have := h5.low.block (w.heap.size + 1) (by rw [hSq]; simpa using hlt3) (by rw [hSq]; exact ne3)
      rw [this, hSq]; exact World.putObj_heap_same hlt3
    have keepD : ∀ bk, D' bk → w2.heap[bk]? = W.heap[bk]? := fun bk hbk => by
      have hbl : bk < W.heap.size := j3.dlt bk hbk
      have no1 : ¬ blocksAll (sp.st x).sig.m E' bk := fun g0 => (j3.ownAll g0).2.2 hbk
      have e1 : w1.heap[bk]? = W.heap[bk]? := by
        have := h3.low.block bk (by rw [hSr]; exact hbl) (by rw [hSr]; exact no1)
        rw [this, hSr]
      have hd3 : D3 bk := h3.dlo bk (by rw [hSr]; exact hbk)
      have no3 : ¬ blocksAll s1.sig.m E3 bk := fun g0 => (h3.ownAll g0).2.2 hd3
      have hb3 : bk < w1.heap.size := h3.dlt bk hd3
      have e2 : w2.heap[bk]? = (w1.putObj (w.heap.size + 1) (.loop { rec .ready none with state := .busy })).heap[bk]? := by
        have := h5.low.block bk (by rw [hSq]; simpa using hb3) (by rw [hSq]; exact no3)
        rw [this, hSq]
      rw [e2, World.putObj_heap_other (fun e => j6 (by rw [← e]; exact hbk)), e1]
    have subD : ∀ bk, D' bk → D5 bk := fun bk hbk => h5.dlo bk (by rw [hSq]; exact h3.dlo bk (by rw [hSr]; exact hbk))
    have own1 : ∀ bk, blocksAll (sp.st x).sig.m E' bk → S.w0.heap.size ≤ bk ∨ S.O bk := fun bk g0 => (j3.ownAll g0).1
    have hbW : S.w0.heap.size ≤ W.heap.size := j3.low.size
    have own3 : ∀ bk, blocksAll s1.sig.m E3 bk → S.w0.heap.size ≤ bk ∨ S.O bk := fun bk g0 => by
      have := (h3.ownAll g0).1
      rw [hSr] at this
      rcases this with g4 | g4
      · simp only at g4; exact .inl (by omega)
      · exact own1 bk g4
    have sz31 : W.heap.size ≤ w1.heap.size := by have := h3.low.size; rw [hSr] at this; exact this
    have sz52 : w1.heap.size ≤ w2.heap.size := by have := h5.low.size; rw [hSq] at this; simpa using this
    have low1 : Chg S.O S.w0 w1 := j3.low.step (by have := h3.low.os; rw [hSr] at this; exact this) (by have := h3.low.tape; rw [hSr] at this; exact this) (by have := h3.low.output; rw [hSr] at this; exact this) sz31 fun q hq hno => by
      have := h3.low.block q (by rw [hSr]; exact Nat.lt_of_lt_of_le hq hbW) (by
        rw [hSr]; intro g
        rcases own1 q g with g | g
        · omega
        · exact hno g)
      rw [this, hSr]
    have low2 : Chg S.O S.w0 w2 := low1.step (by have := h5.low.os; rw [hSq] at this; exact this) (by have := h5.low.tape; rw [hSq] at this; exact this) (by have := h5.low.output; rw [hSq] at this; exact this) sz52 fun q hq hno => by
      have := h5.low.block q (by rw [hSq]; simpa using (by omega : q < w1.heap.size)) (by
        rw [hSq]; intro g
        rcases own3 q g with g | g
        · omega
        · exact hno g)
      rw [this, hSq]
      exact World.putObj_heap_other (by omega)
    have dh : ∀ bk, D5 bk → S.D0 bk ∨ S.w0.heap.size ≤ bk ∨ S.O bk := fun bk hbk => by
      have h6 := h5.dhi bk hbk
      rw [hSq] at h6
      rcases h6 with g | g | g
      · have h7 := h3.dhi bk g
        rw [hSr] at h7
        rcases h7 with g | g | g
        · exact j3.dhi bk g
        · simp only at g; exact .inr (.inl (by omega))
        · exact (own1 bk g).elim (fun g => .inr (.inl g)) (fun g => .inr (.inr g))
      · simp only [World.putObj_size] at g; exact .inr (.inl (by omega))
      · exact (own3 bk g).elim (fun g => .inr (.inl g)) (fun g => .inr (.inr g))
    have hmarks : Marks S.nod S.w0.heap.size D5 w2 ({ target := .collected w.heap.size, args := #[] } :: a.defers) :=
      ⟨j3.df.1, fun d hd => by
        obtain ⟨q, q1, q2, q3, q4⟩ := j3.df.2 d hd
        exact ⟨q, q1, q2, subD q q3, (keepD q q3).trans q4⟩⟩
    have hout : SimD S (unround s2).sig { a with defers := { target := .collected w.heap.size, args := #[] } :: a.defers } w2 D5 E5 :=
      h5.leave (S := S) (a0 := { a with defers := { target := .collected w.heap.size, args := #[] } :: a.defers }) (by rw [hSq, hSr]) (by rw [hSq, hSr]) (by rw [hSq, hSr]) hsz0 (fun bk g => by
        rw [hSq] at g
        rcases g with g | g
        · simp only [World.putObj_size] at g; exact .inl (by omega)
        · exact own3 bk g) low2 (fun bk g => subD bk (j3.dlo bk g)) dh hmarks hSsv
    have hlun : (unround s2).tm.length = S.N := by
      have := AV.relL_length h5.svr
      show s2.sv.length = S.N
      have e : s2.sig.sv = s2.sv := rfl
      rw [e] at this
      rw [this, hSq, hSr, Array.length_toList]; exact hsz0
    have hbase2 : S.w0.heap.size ≤ w.heap.size + 1 := by omega
    have hput := fun (o : Obj) => hout.putL (l := w.heap.size + 1) o hbase2 nl5 ne5
    have hlt5 : w.heap.size + 1 < w2.heap.size := (Array.getElem?_eq_some_iff.1 hl5).1
    have sameD : ∀ (o : Obj) (bk : Nat), D' bk → (w2.putObj (w.heap.size + 1) o).heap[bk]? = W.heap[bk]? := fun o bk hbk => by
      rw [World.putObj_heap_other (fun e => j6 (by rw [← e]; exact hbk))]; exact keepD bk hbk
    have szo : ∀ o : Obj, W.heap.size ≤ (w2.putObj (w.heap.size + 1) o).heap.size := fun o => by simp; omega
    have fin : ∀ (jump : Option Code), (Instr.endRound (w.heap.size + 1) jump).run S.P w2 = .ok (.bool jump.isNone) (w2.putObj (w.heap.size + 1) (.loop (rec (if jump.isNone then .ready else .done) jump))) := fun jump => by
      have := run_endRound (P := S.P) jump hl5
      rw [hrec] at this ⊢
      exact this
    have stop : ∀ cc, ((cc = Code.ret ∧ Q .ret (unround s2)) ∨ ∃ i, cc = Code.exit i ∧ Q (.exit i) (unround s2)) →
        ∃ v w', (Instr.endRound (w.heap.size + 1) (some cc)).run S.P w2 = .ok v w' ∧ (W.heap.size ≤ w'.heap.size ∧ (∀ b, Dit b → w'.heap[b]? = W.heap[b]?) ∧
          ((Ending.returned v = .returned (.bool true) ∧ J (k + 1) w' Dit) ∨ (Ending.returned v = .returned (.bool false) ∧ JX w' Dit))) := fun cc hcc => by
      refine ⟨_, _, fin (some cc), szo _, fun bk hbk => sameD _ bk (j4 bk hbk), .inr ⟨rfl, ?_⟩⟩
      rw [hJX]
      exact ⟨cc, unround s2, D5, E5, hcc, hlun, hput _, fun bk hbk => subD bk (j4 bk hbk), World.putObj_heap_same hlt5, nl5, ne5⟩
    have hPP : Sq.P = S.P := by rw [hPq, hPr]
    rw [hPP]
    cases e with
    | normal =>
      obtain ⟨z, z1, z2, z3⟩ := hq2
      unfold leP at z3
      split at z3
      case h_2 => exact z3.elim
      rename_i nsz hlez
      obtain ⟨D6, E6, h6, u6, n6, b6⟩ := simD_le (hput (.loop (rec .ready none))) hlez (all_out z3).1
      refine ⟨_, _, fin none, szo _, fun bk hbk => sameD _ bk (j4 bk hbk), .inl ⟨rfl, ?_⟩⟩
      rw [hJ]
      refine ⟨z, D6, E6, z1, by omega, h6, fun bk hbk => u6 bk (subD bk (j4 bk hbk)), World.putObj_heap_same hlt5, fun g => ?_, fun g => ne5 (b6 _ g), ?_⟩
      · rcases n6 _ g with g | g
        · exact nl5 g
        · exact ne5 g
      · rw [← leSt_len hlez]; exact hlun
    | ret => exact stop .ret (.inl ⟨rfl, hq2⟩)
    | exit i => exact stop (.exit i) (.inr ⟨i, rfl, hq2⟩)
    | goto t => exact hq2.elim
    | panic ch => exact hq2.elim
    | outgrown => exact hq2.elim
  · rw [hJ]
    exact ⟨x0, _, E1, i1, i2, hd2, fun _ g => g, hL1, fun g => hl2 _ g rfl, he2, by rw [← hlen0]; exact hl⟩
  · -- behind the function that was ranged over
    rintro e W2 ⟨⟨v, rfl⟩, hj⟩
    rcases hj with ⟨D2, hj⟩ | ⟨D2, hj⟩
    · rw [hJ] at hj
      obtain ⟨x, D', E', j1, j2, j3, j4, j5, j6, j7, j8⟩ := hj
      have hel := run_endLoop (P := S.P) j5 (by rw [hrec]; simp)
      refine ⟨none, _, (by rw [hrec] at hel; exact hel), ?_⟩
      exact hR .normal (sp.st x) (hdone x j1 j2) j8 _ _ ⟨D', E', j3.putL _ (by omega) j6 j7⟩
    · rw [hJX] at hj
      obtain ⟨cc, s2, D', E', j1, j2, j3, j4, j5, j6, j7⟩ := hj
      have hel := run_endLoop (P := S.P) j5 (by rw [hrec]; simp)
      refine ⟨some cc, _, (by rw [hrec] at hel; exact hel), ?_⟩
      rcases j1 with ⟨rfl, hq⟩ | ⟨i, rfl, hq⟩
      · exact wpIn_ret (hR .ret s2 hq j2 _ _ ⟨D', E', j3.putL _ (by omega) j6 j7⟩)
      · exact wpIn_exit (hR (.exit i) s2 hq j2 _ _ ⟨D', E', j3.putL _ (by omega) j6 j7⟩)
theorem ev_ok {c : Cfg} {A : Ann} : ∀ (x : Code), EvOk c A x
  | .skip, S, s, Q, R, H, h, hl, hR, a, w, hs => wpIn_skip (hR _ s h hl a w hs)
  | .region id ops draw, S, s, Q, R, H, h, hl, hR, a, w, hs => by
    have key : ∀ s1 : St, s1.tm.length = S.N → Sim S s1.sig a w → regP c ops draw s1 (Q .normal) → (Code.region id ops draw).wpIn S.F 0 S.P R a w := by
      intro s1 hl1 hs1 hreg
      unfold regP at hreg
      split at hreg
      · rename_i ns s' he
        obtain ⟨g1, g2⟩ := all_out hreg
        exact reg_ok H.P H.G H.K H.m he g1 hl1 hs1 fun a' w' hs' => hR _ s' g2 ((reg_len he).trans hl1) a' w' hs'
      · exact hreg.elim
    unfold ev at h
    split at h
    · exact key s hl hs h
    · rename_i s1 _
      split at h
      · rename_i ms hms
        obtain ⟨g1, g2⟩ := all_out h
        exact key s1 ((leSt_len hms).symm.trans hl) (sim_le hs hms g1) g2
      · exact h.elim
  | .seq x y, S, s, Q, R, H, h, hl, hR, a, w, hs => by
    have key : ev c A x s (fun e s' => match e with | .normal => ev c A y s' Q | e => Q e s') → (Code.seq x y).wpIn S.F 0 S.P R a w := by
      intro h
      refine wpIn_seq (ev_ok x S s _ _ H h hl (fun e s' hq hl' a' w' hs' => ?_) a w hs)
      cases e <;> first
        | exact ev_ok y S s' Q R H hq hl' hR a' w' hs'
        | exact hR _ s' hq hl' a' w' hs'
    unfold ev at h
    split at h
    · split at h
      · rename_i sp _
        obtain ⟨h1, h2⟩ := h
        refine wpIn_seq (ev_ok x S s _ _ H h1 hl (fun e s' hq hl' a' w' hs' => ?_) a w hs)
        cases e <;> first
          | (obtain ⟨y', g1, g2⟩ := hq; exact ev_ok y S _ Q R H (h2 y' g1) ((leP_len g2).symm.trans hl') hR a' w' (leP_sim g2 hs'))
          | exact hR _ s' hq hl' a' w' hs'
      · exact key h
    · exact key h
  | .cond t x y, S, s, Q, R, H, h, hl, hR, a, w, hs => by
    unfold ev at h
    split at h
    case h_2 => exact h.elim
    rename_i ns b hc
    obtain ⟨g1, g2, g3⟩ := all_out h
    obtain ⟨D, E, hs0⟩ := id hs
    have hrel := evT_rel hs0 t
    rw [← H.G] at hrel
    have hb : a.eval t = .bool b := by
      unfold condV at hc
      split at hc
      · rename_i b' hv
        cases hc
        rw [hv] at hrel
        simpa only [AV.rel, relCells, List.cons.injEq, and_true] using hrel
      · rename_i g b' hv
        cases hc
        rw [hv] at hrel
        have hg : g = true := g1 _ (by simp)
        simpa only [AV.rel, relCells, List.cons.injEq, and_true] using hrel.1 hg
      · cases hc
    exact wpIn_cond_split hb (fun e => ev_ok x S s Q R H (g2 e) hl hR a w hs) (fun e => ev_ok y S s Q R H (g3 e) hl hR a w hs)
  | .block id x, S, s, Q, R, H, h, hl, hR, a, w, hs => by
    unfold ev at h
    refine wpIn_block (ev_ok x S s _ _ H h hl (fun e s' hq hl' a' w' hs' => ?_) a w hs)
    cases e <;> first
      | exact hR _ s' hq hl' a' w' hs'
      | (rename_i id'
         simp only [Exit.inBlock]
         simp only at hq
         split at hq
         · rename_i e; rw [if_pos e]; exact hR _ s' hq hl' a' w' hs'
         · rename_i e; rw [if_neg e]; exact hR _ s' hq hl' a' w' hs')
  | .exit id, S, s, Q, R, H, h, hl, hR, a, w, hs => wpIn_exit (hR _ s h hl a w hs)
  | .ret, S, s, Q, R, H, h, hl, hR, a, w, hs => wpIn_ret (hR _ s h hl a w hs)
  | .loop x, S, s, Q, R, H, h, hl, hR, a, w, hs => by
    unfold ev at h
    split at h
    case h_2 => exact h.elim
    split at h
    case h_2 => exact h.elim
    rename_i sp _
    obtain ⟨⟨x0, i1, i2⟩, h2⟩ := h
    refine wpIn_loop_ghost (fun n a w => ∃ y, sp.inv y ∧ sp.μ y = n ∧ (sp.st y).tm.length = S.N ∧ Sim S (sp.st y).sig a w) (sp.μ x0) ⟨x0, i1, rfl, (leP_len i2).symm.trans hl, leP_sim i2 hs⟩ ?_
    rintro n a w ⟨y, j1, rfl, j2, j3⟩
    refine ev_ok x S (sp.st y) _ _ H (h2 y j1) j2 (fun e s' hq hl' a' w' hs' => ?_) a w j3
    cases e <;> first
      | (obtain ⟨z, k1, k2, k3⟩ := hq; exact ⟨sp.μ z, k3, z, k1, rfl, (leP_len k2).symm.trans hl', leP_sim k2 hs'⟩)
      | exact hR _ s' hq hl' a' w' hs'
  | .rangeFunc g ps x y, S, s, Q, R, H, h, hl, hR, a, w, hs => rng_ok (ev_ok x) (ev_ok y) S s Q R H h hl hR a w hs
  | .scope x, S, s, Q, R, H, h, hl, hR, a, w, hs => by
    unfold ev at h
    refine wpIn_scope (ev_ok x S s _ _ H h hl (fun e s' hq hl' a' w' hs' => ?_) a w hs)
    cases e <;> first
      | exact hq.elim
      | exact hR _ s' hq hl' a' w' hs'
  | .label _, S, s, Q, R, H, h, hl, hR, a, w, hs => by
    unfold ev at h
    exact wpIn_label (hR _ s h hl a w hs)
  | .goto _, S, s, Q, R, _, h, _, _, _, _, _ => by unfold ev at h; exact h.elim
  | .refuse _, S, s, Q, R, _, h, _, _, _, _, _ => by unfold ev at h; exact h.elim
end Go.Eng
