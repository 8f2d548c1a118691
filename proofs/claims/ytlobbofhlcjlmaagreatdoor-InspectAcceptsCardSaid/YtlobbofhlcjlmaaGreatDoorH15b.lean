/- The engine, part 15b: the code does what was evaluated. -/
import Derived.Test.YtlobbofhlcjlmaaGreatDoorH15
set_option linter.unusedSimpArgs false
set_option linter.unusedVariables false
namespace Go.Eng
open Go.RowKit
structure OkS (c : Cfg) (S : Base) : Prop where
  P : c.P = S.P
  G : c.G = S.G
  K : aQ S.P S.G c.K
  I : dF S.P S.G c.KI
  m : S.P.follows .mixedOrders = true
  rd : S.rd ≠ none → S.N ≤ S.sv.length
  nod : S.rd = none → S.nod = !c.rng
  KP : fB S.P S.G c.KP
theorem aZ.mark {S : Base} {σ : Sig} {a : Act} {w : World} {D : Nat → Prop} {E : Nat → Ent} (h : aZ S σ a w D E) (hn : S.nod = false) {k : Nat} (hk : S.w0.heap.size ≤ k) (hD : D k) (hw : w.heap[k]? = some (.deferred (some []))) (hne : ∀ d ∈ a.defers, d.target ≠ .collected k) :
    aZ S σ { a with defers := { target := .collected k, args := #[] } :: a.defers } w D E :=
  ⟨h.sz, ⟨⟨fun e => (by rw [hn] at e; cases e), ⟨_ :: h.df.1.2.1.choose, congrArg (_ :: ·) h.df.1.2.1.choose_spec⟩, List.Pairwise.cons (fun d hd => (hne d hd).symm) h.df.1.2.2⟩, fun d hd => by
    rcases List.mem_cons.1 hd with e | e
    · exact .inr ⟨k, e, hk, hD, hw⟩
    · exact h.df.2 d e⟩, h.tm, h.bl, h.own, h.inj, h.low, h.dlt, h.dlo, h.dhi, h.gl, h.svr, h.pv⟩
theorem aOt {S : Base} {x : Code} {R : Exit → Act → World → Prop} {a : Act} {w : World} (h : x.wpIn S.F 0 S.P R a w) : At S.P S.rd x R a w := aLu S.F_round S.F_fn S.F_depth h
def aUm (c : Cfg) (A : Ann) (x : Code) : Prop := ∀ (S : Base) (s : St) (Q : Exit → St → Prop) (R : Exit → Act → World → Prop), OkS c S →
    ev c A x s Q → s.tm.length = S.N → (∀ e s', Q e s' → s'.tm.length = S.N → ∀ a w, Sim S s'.sig a w → R e a w) → ∀ a w, Sim S s.sig a w → At S.P S.rd x R a w
mutual
theorem aE0 {S : Base} {s : St} {a : Act} {w : World} {D : Nat → Prop} {E : Nat → Ent} (h : aZ S s.sig a w D E) : ∀ {x : AV} {v : Value}, x.rel S.P ⟨w, D, s.sig.m, E⟩ v → (aNM s.mem x).rel S.P ⟨w, xK s.sig.m E D, noM, noE⟩ v := fun {x v} hx => by
  have L : Later ⟨w, D, s.sig.m, E⟩ ⟨w, xK s.sig.m E D, noM, noE⟩ := ⟨fun _ g => .inl g, fun _ _ => rfl⟩
  have forg : ∀ {y : AV} {u : Value}, y.rel S.P ⟨w, D, s.sig.m, E⟩ u → (oL y).rel S.P ⟨w, xK s.sig.m E D, noM, noE⟩ u := fun {y u} hy =>
    AV.rel_mono L (fun nm hn => by rw [jT] at hn; cases hn) (AV.rel_forg hy)
  unfold aNM
  split
  · rename_i nm
    split
    · rename_i cs hm
      obtain ⟨_, q⟩ := hx _ hm
      obtain ⟨_, q2, q3⟩ := q rfl
      obtain ⟨_, us, el, r1, r2⟩ := h.bl nm _ hm
      refine ⟨(E nm).b, 0, us.toList, ?_, .inr ⟨nm, _, hm, q2, rfl⟩, fun j u hj => ?_, ?_⟩
      · rw [q3]; show Value.pointer (some ⟨(E nm).b, 0 * _ + 0, none⟩) = _; rw [Nat.zero_mul]
      · have r1' : w.heap[(E nm).b]? = some (.cells us el (0, 0)) := r1
        show w.cell? ⟨(E nm).b, 0 + j, none⟩ = some u
        rw [cell_of_row w _ _ us el (0, 0) r1', Nat.zero_add]
        simpa using hj
      · exact AV.relL_mono L (fun nm hn => by rw [iY] at hn; cases hn) (AV.relL_forg r2)
    · trivial
  · rename_i y
    obtain ⟨b, off, u, h1, h2, h3, h5⟩ := hx
    exact ⟨b, off, u, h1, .inl h2, h3, aE0 h h5⟩
  · exact forg hx
end
theorem aEZ {S : Base} {s : St} {a : Act} {w : World} {D : Nat → Prop} {E : Nat → Ent} (h : aZ S s.sig a w D E) : ∀ {xs : List AV} {vs : List Value}, AV.relL S.P ⟨w, D, s.sig.m, E⟩ xs vs → AV.relL S.P ⟨w, xK s.sig.m E D, noM, noE⟩ (aGp s.mem xs) vs
  | [], _, hx => hx
  | _ :: _, _, ⟨u, us, e, h1, h2⟩ => ⟨u, us, e, aE0 h h1, aEZ h h2⟩
theorem aIC {G : List (Nat × AV)} {g : Operand} {gf : FuncId} {s : St} {l : List AV} (h : aHt G g gf s = some l) : ∃ caps, evT G s.sig.T g = .fn gf caps ∧ aGp s.mem caps = l := by
  unfold aHt at h
  split at h
  · rename_i gf' caps e
    split at h
    · rename_i e2; subst e2; cases h; exact ⟨caps, e, rfl⟩
    · cases h
  · cases h
theorem aIB {G : List (Nat × AV)} {g : Operand} {gf : FuncId} {caps : List AV} {m : Mem} {α : Type} {inv : α → Prop} {st : α → St} {t : Ty} {X : Prop} (h : aKF G g gf caps m inv st t X) :
    X ∧ (AV.namesL caps ≠ [] → aK4 t = true ∧ ∀ x, inv x → aHt G g gf (st x) = some (aGp m caps)) := by
  unfold aKF at h
  split at h
  · rename_i e; exact ⟨h, fun g => (g (List.isEmpty_iff.1 e)).elim⟩
  · exact ⟨h.2.2, fun _ => ⟨h.1, h.2.1⟩⟩
theorem aNQ {c : Cfg} {G : List (Nat × AV)} {P : Program} (hI : dF P G c.KI) {m : Mem} {gf : FuncId} {caps : List AV} {it : oW} (hgf : gf < aCh) (hki : aVq c m gf caps = some it)
    (hpre : it.pre) (l : Nat) (J : Nat → World → (Nat → Prop) → (Nat → Prop) → Prop) (JX : World → (Nat → Prop) → (Nat → Prop) → Prop) (JP : List PanicEntry → World → (Nat → Prop) → (Nat → Prop) → Prop) (w : World) (D : Nat → Prop) (us : List Value)
    (hD : ∀ b, D b → b < w.heap.size) (hG : rU P ⟨w, D, noM, noE⟩ G) (hcaps : AV.namesL caps = [] → AV.relL P ⟨w, D, noM, noE⟩ caps us)
    (hlent : AV.namesL caps ≠ [] → (∀ k w1 D1 V, J k w1 D1 V → ∃ D : Nat → Prop, (∀ b, D b → b < w1.heap.size) ∧ rU P ⟨w1, D, noM, noE⟩ G ∧ AV.relL P ⟨w1, D, noM, noE⟩ (aGp m caps) us) ∧ ∀ w1 D1 V, JX w1 D1 V → ∃ D : Nat → Prop, (∀ b, D b → b < w1.heap.size) ∧ rU P ⟨w1, D, noM, noE⟩ G)
    (c1 : ∀ k w1 w2 D1 V, J k w1 D1 V → Below w1.heap.size w1 w2 → ∀ X : Nat → Prop, J k w2 (fun b => D1 b ∨ (lI w1 w2 b ∧ ¬ X b)) (fun b => V b ∨ (lI w1 w2 b ∧ X b)))
    (c2 : ∀ k w1 (D1 D2 V V2 : Nat → Prop), J k w1 D1 V → (∀ b, D2 b → D1 b) → (∀ b, V2 b → V b) → J k w1 D2 V2)
    (c3 : ∀ k w1 w2 D1 V, J k w1 D1 V → Chg V w1 w2 → w2.heap.size = w1.heap.size → J k w2 D1 V)
    (x1 : ∀ w1 w2 D1 V, JX w1 D1 V → Below w1.heap.size w1 w2 → ∀ X : Nat → Prop, JX w2 (fun b => D1 b ∨ (lI w1 w2 b ∧ ¬ X b)) (fun b => V b ∨ (lI w1 w2 b ∧ X b)))
    (x2 : ∀ w1 (D1 D2 V V2 : Nat → Prop), JX w1 D1 V → (∀ b, D2 b → D1 b) → (∀ b, V2 b → V b) → JX w1 D2 V2)
    (x3 : ∀ w1 w2 D1 V, JX w1 D1 V → Chg V w1 w2 → w2.heap.size = w1.heap.size → JX w2 D1 V)
    (p3 : ∀ ch w1 w2 D1 V, JP ch w1 D1 V → Chg V w1 w2 → w2.heap.size = w1.heap.size → JP ch w2 D1 V)
    (hy : ∀ k y W D1 V u, it.L[k]? = some y → J k W D1 V → (∀ b, D1 b → b < W.heap.size) → aF W D1 it.t y [u] → YieldAt Fence.wide 0 P l #[u] W fun e W' =>
      W.heap.size ≤ W'.heap.size ∧ (∀ b, D1 b ∨ V b → W'.heap[b]? = W.heap[b]?) ∧ ((e = .returned (.bool true) ∧ J (k + 1) W' D1 V) ∨ (e = .returned (.bool false) ∧ JX W' D1 V) ∨ ∃ ch, e = .panicked ch ∧ JP ch W' D1 V))
    (h0 : J 0 w D noV) :
    CallsIn Fence.wide 0 P gf (#[.func (.yield l) #[] #[]] ++ us.toArray) w fun e W' => ((∃ v, e = .returned v) ∧ ((∃ D2, J it.L.length W' D2 noV) ∨ ∃ D2, JX W' D2 noV)) ∨ ∃ ch, e = .panicked ch ∧ ∃ D2 V2, JP ch W' D2 V2 := by
  unfold aVq at hki
  split at hki
  · rename_i e
    exact hI.at hgf hki hpre l J JX JP w D us hD hG (hcaps (List.isEmpty_iff.1 e)) c1 c2 c3 x1 x2 x3 p3 hy h0
  · rename_i e
    obtain ⟨l1, l2⟩ := hlent fun g => e (List.isEmpty_iff.2 g)
    refine (hI.lent hki hpre l (fun k W => J k W noV noV) (fun W => JX W noV noV) (fun ch W => JP ch W noV noV) w us (fun k w1 h => l1 k w1 _ _ h) (fun w1 h => l2 w1 _ _ h)
      (fun k w1 w2 h hb => c2 _ _ _ _ _ _ (c1 k w1 w2 _ _ h hb noV) (fun _ g => g.elim) fun _ g => g.elim) (fun w1 w2 h hb => x2 _ _ _ _ _ (x1 w1 w2 _ _ h hb noV) (fun _ g => g.elim) fun _ g => g.elim)
      (fun k y W u h1 h2 h3 => ?_) (c2 _ _ _ _ _ _ h0 (fun _ g => g.elim) fun _ g => g)).mono ?_
    · obtain ⟨fn, tmps, as, body, g1, g2⟩ := hy k y W noV noV u h1 h2 (fun _ g => g.elim) h3
      exact ⟨fn, tmps, as, body, g1, g2.mono fun e W' g => ⟨g.1, g.2.2⟩⟩
    · rintro e W' (⟨g1, g2⟩ | ⟨ch, g1, g2⟩)
      · exact .inl ⟨g1, g2.imp (fun g => ⟨_, g⟩) fun g => ⟨_, g⟩⟩
      · exact .inr ⟨ch, g1, _, _, g2⟩
theorem aTd {c : Cfg} {A : Ann} {g : Operand} {ps : Array Tmp} {as b : Code} (iha : aUm c A as) (ihb : aUm c A b) : aUm c A (.rangeFunc g ps as b) := by
  intro S s Q R H h hl hR a w hs
  unfold ev at h
  split at h
  case h_2 => exact h.elim
  rename_i gf caps p rid hev hps hid
  split at h
  case h_2 => exact h.elim
  rename_i it sp hki hsp
  split at h
  case isFalse => exact h.elim
  rename_i hc
  obtain ⟨⟨hpre, ⟨x0, i1, i2, i3⟩, hround, hdone⟩, hlo⟩ := aIB h
  simp only [aNY, Bool.and_eq_true, decide_eq_true_eq] at hc
  obtain ⟨⟨⟨⟨⟨hgoes, hgf⟩, hsv⟩, hrng⟩, hone⟩, hp⟩ := hc
  have hone : it.t.sz = 1 := by unfold one1 at hone; simpa using hone
  obtain ⟨D, E, hd⟩ := hs
  have hrd : S.rd = none := by
    cases hr : S.rd with
    | none => rfl
    | some l =>
      have h1 := H.rd (by rw [hr]; simp)
      have h2 := AV.relL_length hd.svr
      have e : s.sig.sv = s.sv := rfl
      rw [e] at h2
      omega
  have hnod : S.nod = false := by rw [H.nod hrd, hrng]; rfl
  have hgv := iZ hd g
  rw [← H.G, hev] at hgv
  obtain ⟨cs, hga, hcaps⟩ := hgv
  -- the state as the loop is told it
  unfold leP at i3
  split at i3
  case h_2 => exact i3.elim
  rename_i ns0 hle0
  have hlen0 := uJ hle0
  obtain ⟨D1, E1, hd1, up1, dn1, bl1⟩ := aC9 hd hle0 (dO i3).1
  obtain ⟨dk, hdk⟩ : ∃ dk, dk = w.heap.size := ⟨_, rfl⟩
  rw [hrd]
  refine at_range fun fn hfn => ?_
  obtain ⟨rec, hrec⟩ : ∃ rec : LoopState → Option Code → Loop, rec = fun st pe => { state := st, pending := pe, fn, tmps := a.tmps, params := ps, assign := as, body := b, defers := w.heap.size } := ⟨_, rfl⟩
  obtain ⟨W1, hW1⟩ : ∃ W1, (w.alloc (.deferred (some []))).alloc (.loop (rec .ready none)) = W1 := ⟨_, rfl⟩
  have hsz1 : W1.heap.size = w.heap.size + 2 := by rw [← hW1]; simp
  have hL1 : W1.heap[w.heap.size + 1]? = some (.loop (rec .ready none)) := by
    rw [← hW1]; have := World.alloc_heap_new (w.alloc (.deferred (some []))) (.loop (rec .ready none)); rwa [World.size_alloc] at this
  have hK1 : W1.heap[w.heap.size]? = some (.deferred (some [])) := by
    rw [← hW1]; exact (Below.heap_alloc _ _ _ (by simp)).trans (World.alloc_heap_new w _)
  have hb1 : Below w.heap.size w W1 := by
    rw [← hW1]; exact ((Below.refl _ w).alloc (Nat.le_refl _) _).alloc (by simp) _
  have hbase : S.w0.heap.size ≤ w.heap.size := hd1.low.size
  have hne1 : ∀ d ∈ a.defers, d.target ≠ .collected w.heap.size := fun d hd e => by
    rcases hd1.df.2 d hd with ⟨_, g⟩ | ⟨k, g1, _, g3, _⟩
    · exact g _ e
    rw [g1] at e
    injection e with e
    have := hd1.dlt k g3
    omega
  -- the state behind the entry
  have hd2 : aZ S (sp.st x0).sig { a with defers := { target := .collected w.heap.size, args := #[] } :: a.defers } W1 (fun b => D1 b ∨ b = w.heap.size) E1 := by
    refine (hd1.world (D' := fun b => D1 b ∨ b = w.heap.size) hb1 (fun b => ⟨fun g => ?_, fun g => ?_⟩) (fun b g => ?_)).mark hnod hbase (.inr rfl) hK1 hne1
    · rcases g with g | g
      · exact .inl g
      · exact .inr ⟨⟨by omega, by omega⟩, .inr g⟩
    · rcases g with g | ⟨_, g⟩
      · exact .inl g
      · exact g
    · rcases g with g | g
      · have := hd1.dlt b g; omega
      · omega
  refine ⟨w.heap.size + 1, [{ target := .collected w.heap.size, args := #[] }], W1, { target := .fn (.func gf) cs.toArray, args := #[.func (.yield (w.heap.size + 1)) #[] #[]] }, W1, gf,
    #[.func (.yield (w.heap.size + 1)) #[] #[]] ++ cs.toArray, W1, ?_, ?_, ?_, ?_⟩
  · rw [← hW1, hrec]; exact run_enterLoop_outer _ _ _ _ _
  · simp only [resolve, hga]
    simp [go_sem]
  · have := oK (P := S.P) (by rw [← H.P]; exact hgoes) W1 (#[.func (.yield (w.heap.size + 1)) #[] #[]] ++ cs.toArray)
    simp only [invoke]
    exact this
  have hcaps1 : AV.namesL caps = [] → AV.relL S.P ⟨W1, (fun b => D1 b ∨ b = w.heap.size), noM, noE⟩ caps cs := fun hnm =>
    AV.relL_mono (C := ⟨w, D, s.sig.m, E⟩) (C' := ⟨W1, (fun b => D1 b ∨ b = w.heap.size), noM, noE⟩) ⟨fun b g => .inl (up1 b g), fun b g => hb1.block b (hd.dlt b g)⟩ (fun k hk => by rw [hnm] at hk; cases hk) hcaps
  have hl2 : ∀ b, D1 b ∨ b = w.heap.size → b ≠ w.heap.size + 1 := fun b g e => by
    rcases g with g | g
    · have := hd1.dlt b g; omega
    · omega
  have he2 : ¬ aV (sp.st x0).sig.m E1 (w.heap.size + 1) := fun g0 => by
    have := (hd1.ownAll g0).2.1; omega
  have hsz0 : a.tmps.size = S.N := hd.sz
  obtain ⟨J, hJ⟩ : ∃ J : Nat → World → (Nat → Prop) → (Nat → Prop) → Prop, J = fun k W Dit V => ∃ x D E, sp.inv x ∧ sp.μ x = k ∧
      aZ S (sp.st x).sig { a with defers := { target := .collected w.heap.size, args := #[] } :: a.defers } W D E ∧ (∀ b, Dit b → D b) ∧
      W.heap[w.heap.size + 1]? = some (.loop (rec .ready none)) ∧ ¬ D (w.heap.size + 1) ∧ ¬ aV (sp.st x).sig.m E (w.heap.size + 1) ∧ (sp.st x).tm.length = S.N ∧ (∀ b, V b → w.heap.size + 1 < b ∧ b < W.heap.size ∧ ¬ D b ∧ ¬ aV (sp.st x).sig.m E b) := ⟨_, rfl⟩
  obtain ⟨JX, hJX⟩ : ∃ JX : World → (Nat → Prop) → (Nat → Prop) → Prop, JX = fun W Dit V => ∃ cc s2 D E, ((cc = Code.ret ∧ Q .ret s2) ∨ ∃ i, cc = Code.exit i ∧ Q (.exit i) s2) ∧ s2.tm.length = S.N ∧
      aZ S s2.sig { a with defers := { target := .collected w.heap.size, args := #[] } :: a.defers } W D E ∧ (∀ b, Dit b → D b) ∧
      W.heap[w.heap.size + 1]? = some (.loop (rec .done (some cc))) ∧ ¬ D (w.heap.size + 1) ∧ ¬ aV s2.sig.m E (w.heap.size + 1) ∧ (∀ b, V b → w.heap.size + 1 < b ∧ b < W.heap.size ∧ ¬ D b ∧ ¬ aV s2.sig.m E b) := ⟨_, rfl⟩
  obtain ⟨JP, hJP⟩ : ∃ JP : List PanicEntry → World → (Nat → Prop) → (Nat → Prop) → Prop, JP = fun ch W _ V => ∃ s2 D E, Q (.panic ch) s2 ∧ s2.tm.length = S.N ∧
      aZ S s2.sig { a with defers := { target := .collected w.heap.size, args := #[] } :: a.defers } W D E ∧ (∀ b, V b → w.heap.size + 1 < b ∧ b < W.heap.size ∧ ¬ D b ∧ ¬ aV s2.sig.m E b) := ⟨_, rfl⟩
  have grow : ∀ {W W2 : World} {σ : Sig} {D : Nat → Prop} {E : Nat → Ent}, aZ S σ { a with defers := { target := .collected w.heap.size, args := #[] } :: a.defers } W D E → Below W.heap.size W W2 → ∀ X : Nat → Prop,
      aZ S σ { a with defers := { target := .collected w.heap.size, args := #[] } :: a.defers } W2 (fun b => D b ∨ (lI W W2 b ∧ ¬ X b)) E := fun {W W2 σ D E} h hb X =>
    h.world (D' := fun b => D b ∨ (lI W W2 b ∧ ¬ X b)) hb (fun b => ⟨fun g => g.imp id fun g => ⟨g.1, .inr g⟩, fun g => g.elim .inl (·.2)⟩) fun b g => by
      rcases g with g | g
      · exact Nat.lt_of_lt_of_le (h.dlt b g) hb.size
      · exact g.1.2
  have notAll : ∀ {W : World} {σ : Sig} {D : Nat → Prop} {E : Nat → Ent}, aZ S σ { a with defers := { target := .collected w.heap.size, args := #[] } :: a.defers } W D E → ∀ b, W.heap.size ≤ b → ¬ aV σ.m E b := fun h b hb g => by
    have := (h.ownAll g).2.1; omega
  have hbase0 : S.w0.heap.size ≤ w.heap.size := hbase
  refine (aNQ H.I hgf hki hpre (w.heap.size + 1) J JX JP W1 (fun b => D1 b ∨ b = w.heap.size) cs (fun b g => ?_) ?_ hcaps1 (fun hnm => ⟨?_, ?_⟩) ?_ ?_ ?_ ?_ ?_ ?_ ?_ ?_ ?_).mono ?_
  · rcases g with g | g
    · have := hd1.dlt b g; omega
    · omega
  · exact rU.mono (C := ⟨w, D, s.sig.m, E⟩) (C' := ⟨W1, (fun b => D1 b ∨ b = w.heap.size), noM, noE⟩) ⟨fun b g => .inl (up1 b g), fun b g => hb1.block b (hd.dlt b g)⟩ hd.gl
  · subst hJ
    rintro k W Dit V ⟨x, D', E', j1, j2, j3, _⟩
    obtain ⟨capx, q1, q2⟩ := aIC ((hlo hnm).2 x j1)
    have hv := iZ j3 g
    rw [← H.G, q1] at hv
    obtain ⟨cs', g1, g2⟩ := hv
    have g1' : a.eval g = .func (.func gf) #[] cs'.toArray := g1
    rw [hga] at g1'
    have e : cs = cs' := by
      have := (Value.func.injEq .. ▸ g1' : _ ∧ _ ∧ _).2.2
      simpa using congrArg Array.toList this
    subst e
    refine ⟨xK (sp.st x).sig.m E' D', fun b hb => ?_, rU.mono (C := ⟨W, D', (sp.st x).sig.m, E'⟩) (C' := ⟨W, xK (sp.st x).sig.m E' D', noM, noE⟩) ⟨fun _ g => .inl g, fun _ _ => rfl⟩ j3.gl, q2 ▸ aEZ j3 g2⟩
    rcases hb with hb | ⟨nm, blk, b1, b2, rfl⟩
    · exact j3.dlt b hb
    · exact (j3.own nm blk b1 b2).2.1
  · subst hJX
    rintro W Dit V ⟨cc, s2, D', E', j1, j2, j3, _⟩
    exact ⟨D', j3.dlt, rU.mono (C := ⟨W, D', s2.sig.m, E'⟩) (C' := ⟨W, D', noM, noE⟩) ⟨fun _ g => g, fun _ _ => rfl⟩ j3.gl⟩
  · subst hJ
    rintro k W W2 Dit V ⟨x, D', E', j1, j2, j3, j4, j5, j6, j7, j8, j9⟩ hb X
    have hlt : w.heap.size + 1 < W.heap.size := (Array.getElem?_eq_some_iff.1 j5).1
    refine ⟨x, _, E', j1, j2, grow j3 hb X, fun b g => g.imp (j4 b) (fun g => g), (hb.block _ hlt).trans j5, fun g => ?_, j7, j8, fun b g => ?_⟩
    · rcases g with g | g
      · exact j6 g
      · have := g.1.1; omega
    · rcases g with g | ⟨g, gx⟩
      · obtain ⟨v1, v2, v3, v4⟩ := j9 b g
        refine ⟨v1, Nat.lt_of_lt_of_le v2 hb.size, fun g2 => ?_, v4⟩
        rcases g2 with g2 | g2
        · exact v3 g2
        · have := g2.1.1; omega
      · refine ⟨Nat.lt_of_lt_of_le hlt g.1, g.2, fun g2 => ?_, notAll j3 b g.1⟩
        rcases g2 with g2 | g2
        · have := j3.dlt b g2; have := g.1; omega
        · exact g2.2 gx
  · subst hJ
    rintro k W Dit Dit2 V V2 ⟨x, D', E', j1, j2, j3, j4, j5, j6, j7, j8, j9⟩ hsub hsubV
    exact ⟨x, D', E', j1, j2, j3, fun b g => j4 b (hsub b g), j5, j6, j7, j8, fun b g => j9 b (hsubV b g)⟩
  · subst hJ
    rintro k W W2 Dit V ⟨x, D', E', j1, j2, j3, j4, j5, j6, j7, j8, j9⟩ hc hsz
    have hlt : w.heap.size + 1 < W.heap.size := (Array.getElem?_eq_some_iff.1 j5).1
    refine ⟨x, D', E', j1, j2, j3.lay hc hsz fun b g => ?_, j4, (hc.block _ hlt fun g => ?_).trans j5, j6, j7, j8, fun b g => ?_⟩
    · obtain ⟨v1, v2, v3, v4⟩ := j9 b g
      exact ⟨by omega, v3, v4⟩
    · have := (j9 _ g).1; omega
    · rw [hsz]; exact j9 b g
  · subst hJX
    rintro W W2 Dit V ⟨cc, s2, D', E', j1, j2, j3, j4, j5, j6, j7, j9⟩ hb X
    have hlt : w.heap.size + 1 < W.heap.size := (Array.getElem?_eq_some_iff.1 j5).1
    refine ⟨cc, s2, _, E', j1, j2, grow j3 hb X, fun b g => g.imp (j4 b) (fun g => g), (hb.block _ hlt).trans j5, fun g => ?_, j7, fun b g => ?_⟩
    · rcases g with g | g
      · exact j6 g
      · have := g.1.1; omega
    · rcases g with g | ⟨g, gx⟩
      · obtain ⟨v1, v2, v3, v4⟩ := j9 b g
        refine ⟨v1, Nat.lt_of_lt_of_le v2 hb.size, fun g2 => ?_, v4⟩
        rcases g2 with g2 | g2
        · exact v3 g2
        · have := g2.1.1; omega
      · refine ⟨Nat.lt_of_lt_of_le hlt g.1, g.2, fun g2 => ?_, notAll j3 b g.1⟩
        rcases g2 with g2 | g2
        · have := j3.dlt b g2; have := g.1; omega
        · exact g2.2 gx
  · subst hJX
    rintro W Dit Dit2 V V2 ⟨cc, s2, D', E', j1, j2, j3, j4, j5, j6, j7, j9⟩ hsub hsubV
    exact ⟨cc, s2, D', E', j1, j2, j3, fun b g => j4 b (hsub b g), j5, j6, j7, fun b g => j9 b (hsubV b g)⟩
  · subst hJX
    rintro W W2 Dit V ⟨cc, s2, D', E', j1, j2, j3, j4, j5, j6, j7, j9⟩ hc hsz
    have hlt : w.heap.size + 1 < W.heap.size := (Array.getElem?_eq_some_iff.1 j5).1
    refine ⟨cc, s2, D', E', j1, j2, j3.lay hc hsz fun b g => ?_, j4, (hc.block _ hlt fun g => ?_).trans j5, j6, j7, fun b g => ?_⟩
    · obtain ⟨v1, v2, v3, v4⟩ := j9 b g
      exact ⟨by omega, v3, v4⟩
    · have := (j9 _ g).1; omega
    · rw [hsz]; exact j9 b g
  · subst hJP
    rintro ch W W2 Dit V ⟨s2, D', E', j1, j2, j3, j9⟩ hc hsz
    refine ⟨s2, D', E', j1, j2, j3.lay hc hsz fun b g => ?_, fun b g => ?_⟩
    · obtain ⟨v1, v2, v3, v4⟩ := j9 b g
      exact ⟨by omega, v3, v4⟩
    · rw [hsz]; exact j9 b g
  · -- one round
    intro k y W Dit V u hy hj hltd hu
    rw [hJ] at hj
    obtain ⟨x, D', E', j1, j2, j3, j4, j5, j6, j7, j8, j9⟩ := hj
    have hlt : w.heap.size + 1 < W.heap.size := (Array.getElem?_eq_some_iff.1 j5).1
    have hpsz : ps.size = 1 := by have := congrArg List.length hps; simpa using this
    have hyl := run_yield (P := S.P) (args := #[u]) j5 (by rw [hrec]; simp [hpsz])
    rw [hrec] at hyl
    have htm : (ps.zip #[u]).foldl (fun t (p, v) => t.setIfInBounds p v) a.tmps = a.tmps.setIfInBounds p u := by
      have e : ps = #[p] := by apply Array.ext'; exact hps
      rw [e]; simp
    refine ⟨fn, _, as, b, hyl, ?_⟩
    rw [htm]
    refine aHe hfn ?_
    -- the round's frame
    have hpN : p < S.N := by rw [← hl]; exact hp
    have tms : ∀ t, ((aHf p it.t y (sp.st x)).sig.T t).rel S.P ⟨W, D', (sp.st x).sig.m, E'⟩ ((a.tmps.setIfInBounds p u).getD t undef) := by
      intro t
      show (((sp.st x).tm.set p (.dat it.t y)).getD t .top).rel S.P _ _
      by_cases e : t = p
      · subst e
        have h1 : ((sp.st x).tm.set t (.dat it.t y)).getD t .top = .dat it.t y := by
          rw [List.getD_eq_getElem?_getD, List.getElem?_set_self (by rw [j8]; exact hpN)]; rfl
        have h2 : (a.tmps.setIfInBounds t u).getD t undef = u := by simp [Array.getD, hsz0, hpN]
        rw [h1, h2]
        exact aH j4 (fun _ _ => rfl) hu
      · have h1 : ((sp.st x).tm.set p (.dat it.t y)).getD t .top = (sp.st x).tm.getD t .top := by
          simp only [List.getD_eq_getElem?_getD]
          rw [List.getElem?_set_ne (fun h => e h.symm)]
        have h2 : (a.tmps.setIfInBounds p u).getD t undef = a.tmps.getD t undef := by
          simp only [Array.getD_eq_getD_getElem?, Array.getElem?_setIfInBounds]
          rw [if_neg (fun h => e h.symm)]
        rw [h1, h2]
        exact j3.tm t
    have svs : AV.relL S.P ⟨W, D', (sp.st x).sig.m, E'⟩ (sp.st x).tm a.tmps.toList := by
      refine AV.relL_mk (by rw [j8, Array.length_toList, hsz0]) fun i av v hi hv => ?_
      have := j3.tm i
      have e1 : (sp.st x).sig.T i = av := by show (sp.st x).tm.getD i .top = av; rw [List.getD_eq_getElem?_getD, hi]; rfl
      have e2 : a.tmps.getD i undef = v := by
        rw [Array.getD_eq_getD_getElem?]
        simp only [Array.getElem?_toList] at hv
        rw [hv]; rfl
      rw [e1] at this
      simpa only [e2] using this
    have hent := j3.enter (w.heap.size + 1) (tm := (aHf p it.t y (sp.st x)).sig.T) (tmps := a.tmps.setIfInBounds p u) (by simpa using hsz0) tms (AV.relL_append svs j3.svr)
    obtain ⟨Sr, hSr⟩ : ∃ Sr : Base, Sr = { P := S.P, w0 := W, D0 := D', N := S.N, O := aV (sp.st x).sig.m E', G := S.G, sv := a.tmps.toList ++ S.sv, rd := some (w.heap.size + 1), nod := true } := ⟨_, rfl⟩
    rw [← hSr] at hent
    have hNpos : S.N ≤ (a.tmps.toList ++ S.sv).length := by
      rw [List.length_append, Array.length_toList, hsz0]; omega
    have HOr : OkS c Sr := by
      subst hSr
      exact ⟨H.P, H.G, H.K, H.I, H.m, fun _ => hNpos, fun h => (by cases h), H.KP⟩
    have hrr : Sr.rd = some (w.heap.size + 1) := by rw [hSr]
    have hrx := hround x y j1 (by rw [j2]; exact hy)
    have hlr : (aHf p it.t y (sp.st x)).tm.length = Sr.N := by
      subst hSr
      show ((sp.st x).tm.set p (.dat it.t y)).length = S.N
      rw [List.length_set]; exact j8
    rw [← hrr]
    have hPr : Sr.P = S.P := by rw [hSr]
    rw [← hPr]
    refine iha Sr _ _ _ HOr hrx hlr (fun e s1 hq hl1 a1 w1 hs1 => ?_) _ W ⟨D', E', hent⟩
    cases e <;> first
      | exact hq.elim
      | skip
    obtain ⟨D3, E3, h3⟩ := hs1
    have nl3 : ¬ D3 (w.heap.size + 1) := fun g => by
      have := h3.dhi _ g
      rw [hSr] at this
      rcases this with g1 | g1 | g1
      · exact j6 g1
      · simp only at g1; omega
      · exact j7 g1
    have ne3 : ¬ aV s1.sig.m E3 (w.heap.size + 1) := fun g0 => by
      have := (h3.ownAll g0).1
      rw [hSr] at this
      rcases this with g4 | g4
      · simp only at g4; omega
      · exact j7 g4
    have hl3 : w1.heap[w.heap.size + 1]? = some (.loop (rec .ready none)) := by
      have := h3.low.block (w.heap.size + 1) (by rw [hSr]; exact hlt) (by rw [hSr]; exact j7)
      rw [this, hSr]; exact j5
    have out3 : ∀ q, q < W.heap.size → ¬ D' q → ¬ aV (sp.st x).sig.m E' q → ¬ D3 q ∧ ¬ aV s1.sig.m E3 q ∧ w1.heap[q]? = W.heap[q]? := fun q q1 q2 q3 => by
      refine ⟨fun g => ?_, fun g => ?_, ?_⟩
      · have := h3.dhi _ g
        rw [hSr] at this
        rcases this with g1 | g1 | g1
        · exact q2 g1
        · simp only at g1; omega
        · exact q3 g1
      · have := (h3.ownAll g).1
        rw [hSr] at this
        rcases this with g4 | g4
        · simp only at g4; omega
        · exact q3 g4
      · have := h3.low.block q (by rw [hSr]; exact q1) (by rw [hSr]; exact q3)
        rw [this, hSr]
    have hdef3 : a1.defers = [] := (h3.df.1.1 (by rw [hSr])).trans (by rw [hSr])
    have hlt3 : w.heap.size + 1 < w1.heap.size := (Array.getElem?_eq_some_iff.1 hl3).1
    have hbr := run_beginRound (P := S.P) hl3 (by rw [hrec])
    refine ⟨_, hPr ▸ hbr, ?_⟩
    have h4 := h3.again (.loop { rec .ready none with state := .busy }) (by rw [hSr]) hdef3 nl3 ne3
    obtain ⟨Sq, hSq⟩ : ∃ Sq : Base, Sq = { Sr with w0 := w1.putObj (w.heap.size + 1) (.loop { rec .ready none with state := .busy }), D0 := D3, O := aV s1.sig.m E3 } := ⟨_, rfl⟩
    rw [← hSq] at h4
    have HOq : OkS c Sq := by
      rw [hSq]
      exact ⟨HOr.P, HOr.G, HOr.K, HOr.I, HOr.m, HOr.rd, HOr.nod, HOr.KP⟩
    have hrq : Sq.rd = Sr.rd := by rw [hSq]
    have hPq : Sq.P = Sr.P := by rw [hSq]
    rw [← hrq, ← hPq]
    have hlq : s1.tm.length = Sq.N := by rw [hSq]; exact hl1
    refine ihb Sq _ _ _ HOq hq hlq (fun e s2 hq2 hl2 a2 w2 hs2 => ?_) _ _ ⟨D3, E3, h4⟩
    obtain ⟨D5, E5, h5⟩ := hs2
    -- what lay there, lies there
    have nl5 : ¬ D5 (w.heap.size + 1) := fun g => by
      have := h5.dhi _ g
      rw [hSq] at this
      rcases this with g1 | g1 | g1
      · exact nl3 g1
      · simp only [World.putObj_size] at g1; omega
      · exact ne3 g1
    have ne5 : ¬ aV s2.sig.m E5 (w.heap.size + 1) := fun g0 => by
      have := (h5.ownAll g0).1
      rw [hSq] at this
      rcases this with g4 | g4
      · simp only [World.putObj_size] at g4; omega
      · exact ne3 g4
    have hl5 : w2.heap[w.heap.size + 1]? = some (.loop { rec .ready none with state := .busy }) := by
      have := h5.low.block (w.heap.size + 1) (by rw [hSq]; simpa using hlt3) (by rw [hSq]; exact ne3)
      rw [this, hSq]; exact World.putObj_heap_same hlt3
    have out5 : ∀ q, q < W.heap.size → ¬ D' q → ¬ aV (sp.st x).sig.m E' q → q ≠ w.heap.size + 1 → ¬ D5 q ∧ ¬ aV s2.sig.m E5 q ∧ w2.heap[q]? = W.heap[q]? := fun q q1 q2 q3 q4 => by
      obtain ⟨o1, o2, o3⟩ := out3 q q1 q2 q3
      have sz1 : W.heap.size ≤ w1.heap.size := by have := h3.low.size; rw [hSr] at this; exact this
      refine ⟨fun g => ?_, fun g => ?_, ?_⟩
      · have := h5.dhi _ g
        rw [hSq] at this
        rcases this with g1 | g1 | g1
        · exact o1 g1
        · simp only [World.putObj_size] at g1; omega
        · exact o2 g1
      · have := (h5.ownAll g).1
        rw [hSq] at this
        rcases this with g4 | g4
        · simp only [World.putObj_size] at g4; omega
        · exact o2 g4
      · have := h5.low.block q (by rw [hSq]; simpa using Nat.lt_of_lt_of_le q1 sz1) (by rw [hSq]; exact o2)
        rw [this, hSq, ← o3]; exact World.putObj_heap_other q4
    have outV : ∀ q, V q → w.heap.size + 1 < q ∧ q < W.heap.size ∧ ¬ D5 q ∧ ¬ aV s2.sig.m E5 q ∧ w2.heap[q]? = W.heap[q]? := fun q g => by
      obtain ⟨v1, v2, v3, v4⟩ := j9 q g
      exact ⟨v1, v2, out5 q v2 v3 v4 (by omega)⟩
    have keepD : ∀ bk, D' bk → w2.heap[bk]? = W.heap[bk]? := fun bk hbk => by
      have hbl : bk < W.heap.size := j3.dlt bk hbk
      have no1 : ¬ aV (sp.st x).sig.m E' bk := fun g0 => (j3.ownAll g0).2.2 hbk
      have e1 : w1.heap[bk]? = W.heap[bk]? := by
        have := h3.low.block bk (by rw [hSr]; exact hbl) (by rw [hSr]; exact no1)
        rw [this, hSr]
      have hd3 : D3 bk := h3.dlo bk (by rw [hSr]; exact hbk)
      have no3 : ¬ aV s1.sig.m E3 bk := fun g0 => (h3.ownAll g0).2.2 hd3
      have hb3 : bk < w1.heap.size := h3.dlt bk hd3
      have e2 : w2.heap[bk]? = (w1.putObj (w.heap.size + 1) (.loop { rec .ready none with state := .busy })).heap[bk]? := by
        have := h5.low.block bk (by rw [hSq]; simpa using hb3) (by rw [hSq]; exact no3)
        rw [this, hSq]
      rw [e2, World.putObj_heap_other (fun e => j6 (by rw [← e]; exact hbk)), e1]
    have subD : ∀ bk, D' bk → D5 bk := fun bk hbk => h5.dlo bk (by rw [hSq]; exact h3.dlo bk (by rw [hSr]; exact hbk))
    have own1 : ∀ bk, aV (sp.st x).sig.m E' bk → S.w0.heap.size ≤ bk ∨ S.O bk := fun bk g0 => (j3.ownAll g0).1
    have hbW : S.w0.heap.size ≤ W.heap.size := j3.low.size
    have own3 : ∀ bk, aV s1.sig.m E3 bk → S.w0.heap.size ≤ bk ∨ S.O bk := fun bk g0 => by
      have := (h3.ownAll g0).1
      rw [hSr] at this
      rcases this with g4 | g4
      · simp only at g4; exact .inl (by omega)
      · exact own1 bk g4
    have sz31 : W.heap.size ≤ w1.heap.size := by have := h3.low.size; rw [hSr] at this; exact this
    have sz52 : w1.heap.size ≤ w2.heap.size := by have := h5.low.size; rw [hSq] at this; simpa using this
    have low1 : Chg S.O S.w0 w1 := j3.low.step (by have := h3.low.os; rw [hSr] at this; exact this) (by have := h3.low.tape; rw [hSr] at this; exact this) (by have := h3.low.output; rw [hSr] at this; exact this) sz31 fun q hq hno => by
      have := h3.low.block q (by rw [hSr]; exact Nat.lt_of_lt_of_le hq hbW) (by
        rw [hSr]; intro g
        rcases own1 q g with g | g
        · omega
        · exact hno g)
      rw [this, hSr]
    have low2 : Chg S.O S.w0 w2 := low1.step (by have := h5.low.os; rw [hSq] at this; exact this) (by have := h5.low.tape; rw [hSq] at this; exact this) (by have := h5.low.output; rw [hSq] at this; exact this) sz52 fun q hq hno => by
      have := h5.low.block q (by rw [hSq]; simpa using (by omega : q < w1.heap.size)) (by
        rw [hSq]; intro g
        rcases own3 q g with g | g
        · omega
        · exact hno g)
      rw [this, hSq]
      exact World.putObj_heap_other (by omega)
    have dh : ∀ bk, D5 bk → S.D0 bk ∨ S.w0.heap.size ≤ bk ∨ S.O bk := fun bk hbk => by
      have h6 := h5.dhi bk hbk
      rw [hSq] at h6
      rcases h6 with g | g | g
      · have h7 := h3.dhi bk g
        rw [hSr] at h7
        rcases h7 with g | g | g
        · exact j3.dhi bk g
        · simp only at g; exact .inr (.inl (by omega))
        · exact (own1 bk g).elim (fun g => .inr (.inl g)) (fun g => .inr (.inr g))
      · simp only [World.putObj_size] at g; exact .inr (.inl (by omega))
      · exact (own3 bk g).elim (fun g => .inr (.inl g)) (fun g => .inr (.inr g))
    have hmarks : Marks S.nod S.w0.heap.size D5 w2 S.gd ({ target := .collected w.heap.size, args := #[] } :: a.defers) :=
      ⟨j3.df.1, fun d hd => by
        rcases j3.df.2 d hd with g | ⟨q, q1, q2, q3, q4⟩
        · exact .inl g
        refine .inr ?_
        exact ⟨q, q1, q2, subD q q3, (keepD q q3).trans q4⟩⟩
    have hNS : s2.tm.length = S.N := by rw [hl2, hSq, hSr]
    have hout : aZ S (aAU s2).sig { a with defers := { target := .collected w.heap.size, args := #[] } :: a.defers } w2 D5 E5 :=
      by
      have h9 := h5.leaveN (S := S) (a0 := { a with defers := { target := .collected w.heap.size, args := #[] } :: a.defers }) (by rw [hSq, hSr]) (by rw [hSq, hSr]) (by rw [hSq, hSr]) hsz0 (fun bk g => by
        rw [hSq] at g
        rcases g with g | g
        · simp only [World.putObj_size] at g; exact .inl (by omega)
        · exact own3 bk g) low2 (fun bk g => subD bk (j3.dlo bk g)) dh hmarks
      unfold aAU
      rw [hNS]
      exact h9
    have hlun : (aAU s2).tm.length = S.N := by
      have := AV.relL_length h5.svr
      show (s2.sv.take s2.tm.length).length = S.N
      have e : s2.sig.sv = s2.sv := rfl
      rw [e] at this
      rw [List.length_take, this, hNS, hSq, hSr, List.length_append, Array.length_toList, hsz0]
      omega
    have hbase2 : S.w0.heap.size ≤ w.heap.size + 1 := by omega
    have hput := fun (o : Obj) => hout.putL (l := w.heap.size + 1) o hbase2 nl5 ne5
    have hlt5 : w.heap.size + 1 < w2.heap.size := (Array.getElem?_eq_some_iff.1 hl5).1
    have sameD : ∀ (o : Obj) (bk : Nat), D' bk → (w2.putObj (w.heap.size + 1) o).heap[bk]? = W.heap[bk]? := fun o bk hbk => by
      rw [World.putObj_heap_other (fun e => j6 (by rw [← e]; exact hbk))]; exact keepD bk hbk
    have szo : ∀ o : Obj, W.heap.size ≤ (w2.putObj (w.heap.size + 1) o).heap.size := fun o => by simp; omega
    have sameV : ∀ (o : Obj) (bk : Nat), Dit bk ∨ V bk → (w2.putObj (w.heap.size + 1) o).heap[bk]? = W.heap[bk]? := fun o bk hbk => by
      rcases hbk with hbk | hbk
      · exact sameD o bk (j4 bk hbk)
      · obtain ⟨v1, _, _, _, v5⟩ := outV bk hbk
        rw [World.putObj_heap_other (by omega)]; exact v5
    have fin : ∀ (jump : Option Code), (Instr.endRound (w.heap.size + 1) jump).run S.P w2 = .ok (.bool jump.isNone) (w2.putObj (w.heap.size + 1) (.loop (rec (if jump.isNone then .ready else .done) jump))) := fun jump => by
      have := run_endRound (P := S.P) jump hl5
      rw [hrec] at this ⊢
      exact this
    have stop : ∀ cc, ((cc = Code.ret ∧ Q .ret (aAU s2)) ∨ ∃ i, cc = Code.exit i ∧ Q (.exit i) (aAU s2)) →
        ∃ v w', (Instr.endRound (w.heap.size + 1) (some cc)).run S.P w2 = .ok v w' ∧ (W.heap.size ≤ w'.heap.size ∧ (∀ b, Dit b ∨ V b → w'.heap[b]? = W.heap[b]?) ∧
          ((Ending.returned v = .returned (.bool true) ∧ J (k + 1) w' Dit V) ∨ (Ending.returned v = .returned (.bool false) ∧ JX w' Dit V) ∨ ∃ ch, Ending.returned v = .panicked ch ∧ JP ch w' Dit V)) := fun cc hcc => by
      refine ⟨_, _, fin (some cc), szo _, sameV _, .inr (.inl ⟨rfl, ?_⟩)⟩
      rw [hJX]
      exact ⟨cc, aAU s2, D5, E5, hcc, hlun, hput _, fun bk hbk => subD bk (j4 bk hbk), World.putObj_heap_same hlt5, nl5, ne5, fun b g => by
        obtain ⟨v1, v2, v3, v4, _⟩ := outV b g
        exact ⟨v1, Nat.lt_of_lt_of_le v2 (szo _), v3, v4⟩⟩
    have hPP : Sq.P = S.P := by rw [hPq, hPr]
    rw [hPP]
    cases e with
    | normal =>
      obtain ⟨z, z1, z2, z3⟩ := hq2
      unfold leP at z3
      split at z3
      case h_2 => exact z3.elim
      rename_i nsz hlez
      obtain ⟨D6, E6, h6, u6, n6, b6⟩ := aC9 (hput (.loop (rec .ready none))) hlez (dO z3).1
      refine ⟨_, _, fin none, szo _, sameV _, .inl ⟨rfl, ?_⟩⟩
      rw [hJ]
      refine ⟨z, D6, E6, z1, by omega, h6, fun bk hbk => u6 bk (subD bk (j4 bk hbk)), World.putObj_heap_same hlt5, fun g => ?_, fun g => ne5 (b6 _ g), ?_, fun b g => ?_⟩
      · rcases n6 _ g with g | g
        · exact nl5 g
        · exact ne5 g
      · rw [← uJ hlez]; exact hlun
      · obtain ⟨v1, v2, v3, v4, _⟩ := outV b g
        refine ⟨v1, Nat.lt_of_lt_of_le v2 (szo _), fun g2 => ?_, fun g2 => v4 (b6 _ g2)⟩
        rcases n6 _ g2 with g2 | g2
        · exact v3 g2
        · exact v4 g2
    | ret => exact stop .ret (.inl ⟨rfl, hq2⟩)
    | exit i => exact stop (.exit i) (.inr ⟨i, rfl, hq2⟩)
    | goto t => exact hq2.elim
    | panic ch =>
      refine ⟨(h5.df.1.1 (by rw [hSq, hSr])).trans (by rw [hSq, hSr]), Nat.le_trans sz31 sz52, fun bk hbk => hbk.elim (fun g => keepD bk (j4 bk g)) fun g => (outV bk g).2.2.2.2, .inr (.inr ⟨ch, rfl, ?_⟩)⟩
      rw [hJP]
      exact ⟨aAU s2, D5, E5, hq2, hlun, hout, fun b g => by
        obtain ⟨v1, v2, v3, v4, _⟩ := outV b g
        exact ⟨v1, Nat.lt_of_lt_of_le v2 (Nat.le_trans sz31 sz52), v3, v4⟩⟩
    | outgrown => exact hq2.elim
  · rw [hJ]
    exact ⟨x0, _, E1, i1, i2, hd2, fun _ g => g, hL1, fun g => hl2 _ g rfl, he2, by rw [← hlen0]; exact hl, fun _ g => g.elim⟩
  · -- behind the function that was ranged over
    rintro e W2 (⟨⟨v, rfl⟩, hj⟩ | ⟨ch, rfl, D2, V2, hj⟩)
    case inr =>
      rw [hJP] at hj
      obtain ⟨s2, D', E', q1, q2, q3, _⟩ := hj
      exact hR (.panic ch) s2 q1 q2 _ _ ⟨D', E', q3⟩
    rcases hj with ⟨D2, hj⟩ | ⟨D2, hj⟩
    · rw [hJ] at hj
      obtain ⟨x, D', E', j1, j2, j3, j4, j5, j6, j7, j8, _⟩ := hj
      have hel := run_endLoop (P := S.P) j5 (by rw [hrec]; simp)
      refine ⟨none, _, (by rw [hrec] at hel; exact hel), ?_⟩
      exact hR .normal (sp.st x) (hdone x j1 j2) j8 _ _ ⟨D', E', j3.putL _ (by omega) j6 j7⟩
    · rw [hJX] at hj
      obtain ⟨cc, s2, D', E', j1, j2, j3, j4, j5, j6, j7, _⟩ := hj
      have hel := run_endLoop (P := S.P) j5 (by rw [hrec]; simp)
      refine ⟨some cc, _, (by rw [hrec] at hel; exact hel), ?_⟩
      rcases j1 with ⟨rfl, hq⟩ | ⟨i, rfl, hq⟩
      · exact aLu (F := Fence.wide) (n := 0) rfl (fun _ => trivial) rfl (wpIn_ret (hR .ret s2 hq j2 _ _ ⟨D', E', j3.putL _ (by omega) j6 j7⟩))
      · exact aLu (F := Fence.wide) (n := 0) rfl (fun _ => trivial) rfl (wpIn_exit (hR (.exit i) s2 hq j2 _ _ ⟨D', E', j3.putL _ (by omega) j6 j7⟩))
theorem aZ.slot {S : Base} {s : St} {a : Act} {w : World} {D : Nat → Prop} {E : Nat → Ent} (h : aZ S s.sig a w D E) {d : Option Tmp} {v : Value} {x : AV} (hl : s.tm.length = S.N) (hd : vT d s.tm.length = true)
    (hx : x.rel S.P ⟨w, D, s.sig.m, E⟩ v) : aZ S (setSlot d x s).sig (a.put d v) w D E := by
  have hd' : ∀ t, d = some t → t < S.N := fun t e => by subst e; unfold vT at hd; rw [← hl]; simpa using hd
  have h1 := h.put (d := d) (v := v) (x := x) hd' hx
  have e : (setSlot d x s).sig = ⟨upT s.sig.T d x, s.sig.m, s.sig.sv⟩ := by
    unfold St.sig setSlot
    congr 1
    funext t
    cases d with
    | none => simp [upT]
    | some d =>
      unfold upT
      have hdl : d < s.tm.length := by rw [hl]; exact hd' d rfl
      by_cases e : t = d
      · subst e; simp [List.getD_eq_getElem?_getD, hdl]
      · have : ¬ d = t := fun g => e g.symm
        simp [List.getD_eq_getElem?_getD, this, e]
  rw [e]; exact h1
theorem aIp {c : Cfg} {T : Nat → AV} {m : Nat → Option Blk} {g : Bool} {o : Op} {ns : List Prop} {r : aC1} {nms : List Nat} (h : aCc c T m g o = some (ns, r, nms)) : ∀ d, o ≠ .defer d := fun d e => by rw [e] at h; cases h
theorem aF8 {c : Cfg} {T T' : Nat → AV} {m : Nat → Option Blk} {g : Bool} {o : Op} (h : ∀ x ∈ o.operands.toList, evT c.G T' x = evT c.G T x) : aCc c T' m g o = aCc c T m g o := by
  unfold aCc
  split
  · rename_i x
    rw [h x (by simp [Op.operands])]
  · rename_i f args _
    have e : nV c T' g args.toList = nV c T g args.toList := by
      unfold nV
      apply List.map_congr_left
      intro x hx
      rw [h x (by simp [Op.operands, Call.operands]; exact .inr (by simpa using hx))]
    rw [e]
  · rfl
theorem aCq {c : Cfg} {S : Base} {σ : Sig} {a : Act} {w : World} {D : Nat → Prop} {E : Nat → Ent} (hG : c.G = S.G) (h : aZ S σ a w D E) : ∀ {args : List Operand}, (∀ q ∈ (nV c σ.T true args).flatMap (·.2), q) →
    AV.relL S.P ⟨w, D, σ.m, E⟩ ((nV c σ.T true args).map (·.1)) (args.map a.eval)
  | [], _ => rfl
  | x :: args, hn => by
    have hx := iZ h x
    rw [← hG] at hx
    refine ⟨_, _, rfl, vC (g := true) rfl (fun q hq => hn q ?_) hx, aCq hG h fun q hq => hn q ?_⟩
    · simp only [nV, List.map_cons, List.flatMap_cons, List.mem_append]; exact .inl hq
    · simp only [nV, List.map_cons, List.flatMap_cons, List.mem_append]; exact .inr hq
theorem aMH {P : Program} {C : Ctx} {a : AV} {v u : Value} (h : valOf a = some v) (hr : a.rel P C u) : u = v := by
  unfold valOf at h
  split at h
  · split at h
    · cases h
      simpa only [AV.rel, aF, List.cons.injEq, and_true] using hr
    · cases h
  · cases h; exact hr
  · cases h
theorem aKr {S : Base} {c : Cfg} (H : OkS c S) {σ : Sig} {a : Act} {w : World} {D : Nat → Prop} {E : Nat → Ent} (hd : aZ S σ a w D E) {o : Oper} {ns : List Prop} {r : aC1} {nms : List Nat} (hp : aCc c σ.T σ.m true o.op = some (ns, r, nms)) (hns : ∀ q ∈ ns, q) (hpre : r.pre)
    (hrk : r.ok = false) {K : Act → World → Prop} {R : Exit → Act → World → Prop} (hR : ∀ w', Sim S (aDN nms σ) a w' → R (.panic (chainOf r.pan)) a w') : o.wpIn S.F 0 S.P a w K R := by
  unfold Oper.wpIn
  refine ⟨fun f _ => S.F_fn f, ?_⟩
  rw [Oper.semAt_eq _ _ _ (aIp hp)]
  unfold aCc at hp
  split at hp
  · rename_i x hop
    split at hp
    case h_2 => cases hp
    rename_i t av ns' hx
    split at hp
    case h_2 => cases hp
    rename_i v hv
    cases hp
    have hrel := iZ hd x
    rw [← H.G] at hrel
    have hrel := vC (g := true) rfl (fun q hq => hns q (by rw [hx] at hq; exact hq)) hrel
    rw [hx] at hrel
    obtain ⟨u, hu, hur⟩ := hrel
    have hur := aMH hv hur
    subst hur
    have hexec : (execOp a.eval o).run S.P w = .halt (.panic (.iface t u)) w := by
      obtain ⟨dst, op, ty, pos, after, guard⟩ := o
      simp only at hop
      subst hop
      simp only [execOp, hu]
      rfl
    rw [hexec]
    refine hR w ⟨D, E, ?_⟩
    exact hd.dropped (ns := []) ⟨rfl, rfl, rfl, Nat.le_refl _, fun _ _ _ => rfl⟩
  · rename_i f args at_ hop
    split at hp
    case isFalse => cases hp
    rename_i hc
    simp only [Bool.and_eq_true] at hc
    obtain ⟨_, hgo⟩ := hc
    split at hp
    case h_2 => cases hp
    rename_i r' hkp
    cases hp
    have hargs := aBo (ts := pR c.P f) (aCq H.G hd hns)
    rw [← H.P] at hargs
    have hargs0 := aCB (fH σ.m (AV.namesL (aCf c.P (pR c.P f) ((nV c σ.T true args.toList).map (·.1))))) hargs
    have hG0 : rU S.P ⟨w, D, dI (iU σ.m (fH σ.m (AV.namesL (aCf c.P (pR c.P f) ((nV c σ.T true args.toList).map (·.1)))))), E⟩ S.G := rU.mono (C := ⟨w, D, σ.m, E⟩) ⟨fun _ g => g, fun _ _ => rfl⟩ hd.gl
    rw [H.P] at hargs0
    have hcall := H.KP _ _ _ _ (by rw [H.P] at hkp; exact hkp) hpre hrk w D E (args.toList.map a.eval) hd.dlt (by rw [H.P] at hG0; exact hG0) hargs0 (hd.heldOf _)
    have hexec : (execOp a.eval o).run S.P w = .ok (.enter f (args.toList.map a.eval).toArray) w := by
      obtain ⟨dst, op, ty, pos, after, guard⟩ := o
      simp only at hop
      subst hop
      have hg2 := oK (P := S.P) (by rw [← H.P]; exact hgo) w (args.map a.eval)
      have e1 : (args.toList.map a.eval).toArray = args.map a.eval := by rw [toList_map]
      rw [e1]
      simp only [execOp, resolve, Act.eval, Deferred.ofValue, Sem.run_bind, Sem.run_pure, Result.andThen_ok, invoke, Array.append_empty, Array.empty_append]
      simpa using hg2
    rw [hexec, Oper.uponIn_enter]
    refine ⟨fun h => (by rw [S.F_depth] at h; cases h), Base.callsIn (hcall.mono fun e2 w2 he => ?_)⟩
    obtain ⟨rfl, hb⟩ := he
    refine hR w2 ⟨D, E, ?_⟩
    rw [H.P]
    exact hd.dropped hb
  · cases hp
theorem aFX {S : Base} {c : Cfg} (H : OkS c S) {ops : Array Oper} {Q : Exit → St → Prop} {R : Exit → Act → World → Prop} (hR : ∀ e s', Q e s' → s'.tm.length = S.N → ∀ a w, Sim S s'.sig a w → R e a w) :
    ∀ (os : List Oper) (j : Nat) (s : St), (∀ i o, os[i]? = some o → ops[j + i]? = some o) → aOO c ops os s Q → s.tm.length = S.N → ∀ a w, Sim S s.sig a w → wpOpsIn S.F 0 S.P ops R (List.range' j os.length) a w
  | [], j, s, _, h, hl, a, w, hs => by
    simp only [List.length_nil, List.range'_zero, wpOpsIn]
    simp only [aOO] at h
    exact hR _ s h hl a w hs
  | o :: os, j, s, hops, h, hl, a, w, hs => by
    have ho : ops[j]? = some o := by simpa using hops 0 o rfl
    have hos : ∀ i o', os[i]? = some o' → ops[j + 1 + i]? = some o' := fun i o' hi => by
      have := hops (i + 1) o' (by simpa using hi)
      rw [show j + 1 + i = j + (i + 1) by omega]; exact this
    obtain ⟨D, E, hd⟩ := hs
    simp only [aOO] at h
    split at h
    case h_2 => exact h.elim
    rename_i g hge
    have hwant := aDL (o := o) hd hge
    rw [List.length_cons, List.range'_succ, wpOpsIn_cons]
    have step : ∀ {q : Rec}, lF c.P c.G c.K (c.mt o) ops s.nx s.sig o = some q → kU q s.tm.length = true ∧ aES q s = true → all q.need (aOO c ops os (fU q s) Q) → wpOpIn S.F 0 S.P ops R j (wpOpsIn S.F 0 S.P ops R (List.range' (j + 1) os.length)) a w := by
      intro q hq hok hall
      obtain ⟨hns, hcont⟩ := dO hall
      have hdst : ∀ d, o.dst = some d → d < S.N := by
        intro d hdd
        have e : q.dst = o.dst := by
          unfold lF at hq
          split at hq
          · split at hq
            · unfold aGg at hq
              split at hq
              · cases hq; rfl
              · split at hq
                · cases hq; rfl
                · cases hq
            · cases hq
          · cases hq
        have h2 := hok.1
        unfold kU at h2
        simp only [Bool.and_eq_true] at h2
        have := h2.1
        rw [e, hdd] at this
        rw [← hl]; simpa using this
      have hq' : lF S.P S.G c.K (c.mt o) ops s.nx s.sig o = some q := by rw [← H.P, ← H.G]; exact hq
      have := wJ (Q := R) H.K ho ⟨D, E, hd⟩ hdst hq' hns (fun k hk => by
        have := hok.2
        unfold aES at this
        rw [hk] at this
        exact aG1 this)
      refine wpOpIn_mono (fun a' w' h' => aFX H hR os (j + 1) _ hos hcont (by rw [mQ]; exact hl) a' w' ?_) this
      show Sim S (fU q s).sig a' w'
      rw [kW hok.1]
      exact h'
    split at h
    · -- it may panic
      rename_i ns r nms hp
      obtain ⟨h1, h2⟩ := h
      by_cases hpan : g = true ∧ r.ok = false
      · obtain ⟨rfl, hrk⟩ := hpan
        obtain ⟨hns, hpre, hcont⟩ := dO (h1 rfl)
        have hcont := hcont hrk
        unfold wpOpIn
        rw [ho]
        simp only
        rw [hwant]
        simp only [if_true]
        exact aKr H hd hp hns hpre hrk fun w' hs' => hR _ (aDM nms s) hcont hl a w' (by rw [aFl]; exact hs')
      · have hgo : g = true → r.ok = true := fun e => by
          cases hk : r.ok with
          | true => rfl
          | false => exact (hpan ⟨e, hk⟩).elim
        split at h2
        · -- a panic that is not wanted
          rename_i hisp
          have hg : g = false := by
            cases hg : g with
            | false => rfl
            | true =>
              have := hgo hg
              unfold aCc at hp
              split at hp
              · split at hp
                · split at hp
                  · cases hp; cases this
                  · cases hp
                · cases hp
              · rename_i hop; rw [hop] at hisp; cases hisp
              · cases hp
          split at h2
          · rename_i hnone
            have : o.guard = none := by simpa using hnone
            rw [this] at hge
            simp only [aJh, Option.some.injEq] at hge
            rw [← hge] at hg; cases hg
          · obtain ⟨hdo, hcont⟩ := h2
            unfold wpOpIn
            rw [ho]
            simp only
            rw [hwant, hg]
            simp only [Bool.false_eq_true, if_false]
            refine ⟨fun f _ => S.F_fn f, aFX H hR os (j + 1) _ hos (hcont hg) (by simp [setSlot]; split <;> simp [hl]) _ _ ⟨D, E, ?_⟩⟩
            exact hd.slot hl hdo ⟨fun e => (by rw [hg] at e; cases e), fun _ => rfl⟩
        · split at h2
          case h_2 => exact h2.elim
          rename_i q hq
          split at h2
          case isFalse => exact h2.elim
          rename_i hok
          exact step hq hok (h2 hgo)
    · split at h
      case h_2 => exact h.elim
      rename_i q hq
      split at h
      case isFalse => exact h.elim
      rename_i hok
      exact step hq hok h
theorem aD9 (t : Nat) : ∀ (ts : List Tmp) (l : List AV), (wC ts l).getD t .top = if t ∈ ts then .top else l.getD t .top
  | [], l => by simp [wC]
  | d :: ts, l => by
    simp only [wC]
    rw [aD9 t ts]
    by_cases h1 : t ∈ ts
    · rw [if_pos h1, if_pos (List.mem_cons_of_mem _ h1)]
    · rw [if_neg h1]
      by_cases h2 : t = d
      · subst h2
        rw [if_pos List.mem_cons_self, List.getD_eq_getElem?_getD, List.getElem?_set]
        split
        · split <;> rfl
        · rename_i hne; exact (hne rfl).elim
      · rw [if_neg (fun h => (List.mem_cons.1 h).elim h2 h1), List.getD_eq_getElem?_getD, List.getD_eq_getElem?_getD, List.getElem?_set_ne (fun e => h2 e.symm)]
theorem aQo {S : Base} {σ : Sig} {s : St} {ops : Array Oper} {a : Act} {w : World} (h : Sim S σ a w) (hm : σ.m = s.sig.m) (hv : σ.sv = s.sig.sv) (hT : ∀ t, σ.T t = s.sig.T t ∨ t ∈ ops.toList.filterMap (·.dst)) : Sim S (aPV ops s).sig a w := by
  obtain ⟨D, E, hd⟩ := h
  obtain ⟨T, m, sv⟩ := σ
  simp only at hm hv hT
  subst hm hv
  refine ⟨D, E, hd.sz, hd.df, fun t => ?_, hd.bl, hd.own, hd.inj, hd.low, hd.dlt, hd.dlo, hd.dhi, hd.gl, hd.svr, hd.pv⟩
  show ((wC (ops.toList.filterMap (·.dst)) s.tm).getD t .top).rel S.P _ _
  rw [aD9]
  split
  · trivial
  · rename_i hn
    rcases hT t with e | e
    · have h2 := hd.tm t
      show (s.sig.T t).rel S.P ⟨w, D, s.sig.m, E⟩ _
      rw [← e]
      exact h2
    · exact (hn e).elim
theorem nZ {P : Program} {G : List (Nat × AV)} {K : Kt} {mt : Bool} {ops : Array Oper} {nx : Nat} {σ : Sig} {o : Oper} {r : Rec} (h : lF P G K mt ops nx σ o = some r) : r.dst = o.dst ∧ ∀ x ∈ o.op.operands.toList, ∀ t, x = .tmp t → t ∈ r.reads := by
  have this : r.dst = o.dst ∧ r.reads = o.op.operands.toList.flatMap aJG ++ aAK ops o.guard := by
    unfold lF at h
    split at h
    · split at h
      · unfold aGg at h
        split at h
        · cases h; exact ⟨rfl, rfl⟩
        · split at h
          · cases h; exact ⟨rfl, rfl⟩
          · cases h
      · cases h
    · cases h
  refine ⟨this.1, fun x hx t e => ?_⟩
  rw [this.2, List.mem_append, List.mem_flatMap]
  exact .inl ⟨x, hx, by rw [e]; simp [aJG]⟩
theorem aCy {rs : List Rec} {done : Nat → Bool} {dsts : List Tmp} {s : Sig} : ∀ n, (∀ j r, j < n → done j = true → rs[j]? = some r → r.upd = [] ∧ ∀ d, r.dst = some d → d ∈ dsts) →
    (jR (dU rs) done n s).m = s.m ∧ (jR (dU rs) done n s).sv = s.sv ∧ ∀ t, (jR (dU rs) done n s).T t = s.T t ∨ t ∈ dsts
  | 0, _ => ⟨rfl, rfl, fun _ => .inl rfl⟩
  | n + 1, h => by
    obtain ⟨i1, i2, i3⟩ := aCy n fun j r hj => h j r (by omega)
    simp only [jR]
    split
    · rename_i hd
      unfold dU
      cases hr : rs[n]? with
      | none => exact ⟨i1, i2, i3⟩
      | some r =>
        obtain ⟨h1, h2⟩ := h n r (by omega) hd hr
        simp only [jA]
        refine ⟨?_, i2, fun t => ?_⟩
        · rw [h1]
          exact i1
        · unfold upT
          split
          · rename_i e; exact .inr (h2 t e.symm)
          · exact i3 t
    · exact ⟨i1, i2, i3⟩
theorem aN7 {S : Base} {c : Cfg} (H : OkS c S) {ops : Array Oper} {s : St} {Q : Exit → St → Prop} {R : Exit → Act → World → Prop} (hR : ∀ e s', Q e s' → s'.tm.length = S.N → ∀ a w, Sim S s'.sig a w → R e a w)
    (h : aRe c ops s Q) (hl : s.tm.length = S.N) {a : Act} {w : World} (hs : Sim S s.sig a w) {id : Nat} : (Code.region id ops true).wpIn S.F 0 S.P R a w := by
  unfold aRe at h
  split at h
  case h_2 => exact h.elim
  rename_i rs o hrs ho
  obtain ⟨q, hq⟩ : ∃ q, q = ops.toList.findIdx (aCH c) := ⟨_, rfl⟩
  obtain ⟨tbl, htbl⟩ : ∃ tbl, tbl = mV [] ops.toList := ⟨_, rfl⟩
  rw [← hq] at ho
  rw [← hq, ← htbl] at h
  split at h
  case isFalse => exact h.elim
  rename_i hc
  obtain ⟨k1, k2, k3, k4⟩ := hc
  split at h
  case h_2 => exact h.elim
  rename_i ns r nms hp
  obtain ⟨hlive, h⟩ := dO h
  obtain ⟨hns, hpre, hyes, hno⟩ := dO h
  obtain ⟨hlen, hat⟩ := aA7 hrs
  have hlen : rs.length = ops.size := by simpa using hlen
  have hat' : ∀ (j : Nat) o r, ops[j]? = some o → rs[j]? = some r → lF S.P S.G c.K (aRJ c.mb o) ops (kF rs s j).nx (kF rs s j).sig o = some r ∧ kU r s.tm.length = true := fun j o r ho hr => by
    have := hat j o r (by simpa using ho) hr
    rw [H.P, H.G] at this
    exact this
  have hok : ∀ (j : Nat) (r : Rec), rs[j]? = some r → kU r s.tm.length = true := fun j r hr => by
    have hj : j < ops.size := by rw [← hlen]; exact (List.getElem?_eq_some_iff.1 hr).1
    exact (hat' j _ r (Array.getElem?_eq_getElem hj) hr).2
  have hqs : q < ops.size := (Array.getElem?_eq_some_iff.1 ho).1
  have hdst : ∀ (j : Nat) o r, ops[j]? = some o → rs[j]? = some r → ∀ d, o.dst = some d → d < S.N := fun j o r ho hr d hd => by
    obtain ⟨h1, h2⟩ := hat' j o r ho hr
    unfold kU at h2
    simp only [Bool.and_eq_true] at h2
    have h3 := h2.1
    rw [(nZ h1).1, hd] at h3
    rw [← hl]; simpa using h3
  cases hk : r.ok with
  | true =>
    obtain ⟨g1, g2⟩ := dO (hyes hk)
    have HR : aFG S c.K c.mb ops s rs := ⟨hlen, hat', hl, fun j r hr p hp => g1 p (List.mem_flatMap.2 ⟨r, List.mem_of_getElem? hr, hp⟩)⟩
    exact aBf H.K H.m HR k1 k2 hs.draw fun a' w' hs' => hR _ _ g2 ((pI _ _ _).trans hl) a' w' hs'
  | false =>
    refine wpIn_region_any H.m ?_
    have notLive : ∀ j r, rs[j]? = some r → j ≠ q → (tbl.getD j 0).testBit q = false → (∀ p ∈ r.need, p) ∧ r.upd = [] := fun j r hr hjq hb => by
      have hj := (List.getElem?_eq_some_iff.1 hr).1
      have e : rs.getD j dflt = r := aBO hr
      refine ⟨fun p hp => hlive p ?_, ?_⟩
      · unfold aEW
        rw [List.mem_flatMap]
        refine ⟨j, by simpa using hj, ?_⟩
        rw [if_neg (by simp [hjq]; rw [← Bool.not_eq_true] at hb; simpa using hb), e]; exact hp
      · unfold aKs at k3
        rw [List.all_eq_true] at k3
        have := k3 j (by simpa using hj)
        rw [e] at this
        simp only [Bool.or_eq_true, beq_iff_eq, hjq, false_or, hb, Bool.false_eq_true, Bool.and_eq_true, List.isEmpty_iff] at this
        exact this.1
    refine aDO (mb := c.mb) (k := 0) (q := q) H.K hlen hl (fun j o r ho hr hlv => ⟨(hat' j o r ho hr).1, hdst j o r ho hr, (notLive j r hr hlv.2.1 hlv.2.2).1⟩) hok k1 k2 (fun h => absurd hqs (by omega))
      (fun _ n listed a1 w1 hsz hqf hcnt hanc hdesc hrok hsim => ?_) ops.size (Array.replicate ops.size false) a _ (by simp) ?_ (fun i hi => by omega) (fun _ => ?_) (fun i j hij hj hb hl => ?_) ?_
    · obtain ⟨rq, hrq⟩ : ∃ rq, rs[q]? = some rq := ⟨_, List.getElem?_eq_getElem (by rw [hlen]; exact hqs)⟩
      obtain ⟨g1, _⟩ := hrok rq hrq
      have hgd : o.guard = none := by simpa using k4
      obtain ⟨D, E, hd⟩ := (show Sim _ _ _ _ from hsim)
      unfold wpOpIn
      rw [ho]
      simp only
      rw [show Region.wanted o (yielded ops a1.tmps) = true by unfold Region.wanted; rw [hgd]]
      simp only [if_true]
      have hqt := aCy (rs := rs) (done := fun i => listed.getD i false) (dsts := ops.toList.filterMap (·.dst)) (s := s.sig) ops.size fun j r hj hdn hr => by
        have hoj := Array.getElem?_eq_getElem hj
        have hjq : j ≠ q := fun e => by subst e; rw [hqf] at hdn; cases hdn
        have hb : (tbl.getD j 0).testBit q = false := by
          cases hb : (tbl.getD j 0).testBit q with
          | false => rfl
          | true => have := hdesc j hb hj; rw [this] at hdn; cases hdn
        refine ⟨(notLive j r hr hjq hb).2, fun d hd => ?_⟩
        rw [(nZ (hat' j _ r hoj hr).1).1] at hd
        rw [List.mem_filterMap]
        exact ⟨ops[j], by simp, hd⟩
      have hp' : aCc c (jR (dU rs) (fun i => listed.getD i false) ops.size s.sig).T (jR (dU rs) (fun i => listed.getD i false) ops.size s.sig).m true o.op = some (ns, r, nms) := by
        rw [← hp, hqt.1]
        refine aF8 fun x hx => ?_
        cases x with
        | tmp t => exact congrArg aFS (g1 t ((nZ (hat' q o rq ho hrq).1).2 _ hx t rfl))
        | _ => rfl
      refine aKr H hd hp' hns hpre hk fun w' hs' => hR _ (aPV ops (aDM nms s)) (hno hk) ?_ a1 w' (aQo hs' ?_ ?_ ?_)
      · have : ∀ (ts : List Tmp) (l : List AV), (wC ts l).length = l.length := by
          intro ts
          induction ts with
          | nil => intro l; rfl
          | cons d ts ih => intro l; simp [wC, ih]
        exact (this _ _).trans hl
      · rw [aFl]
        show (fun k => if nms.contains k = true then none else _) = (fun k => if nms.contains k = true then none else _)
        rw [hqt.1]
      · exact hqt.2.1
      · exact hqt.2.2
    · exact Nat.le_trans (List.length_filter_le _ _) (by simp)
    · rw [Array.getD_eq_getD_getElem?]; simp [hqs]
    · rw [Array.getD_eq_getD_getElem?] at hl
      simp [hj] at hl
    · have : ∀ n, jR (dU rs) (fun i => (Array.replicate ops.size false).getD i false) n s.sig = s.sig := by
        intro n
        induction n with
        | zero => rfl
        | succ n ih =>
          have : (Array.replicate ops.size false).getD n false = false := by
            rw [Array.getD_eq_getD_getElem?]
            cases h : (Array.replicate ops.size false)[n]? with
            | none => rfl
            | some v => rw [Array.getElem?_replicate] at h; split at h <;> cases h; rfl
          simp only [jR, this, Bool.false_eq_true, if_false]; exact ih
      rw [this]; exact hs.draw
theorem qF {c : Cfg} {A : Ann} : ∀ (x : Code), aUm c A x
  | .skip, S, s, Q, R, H, h, hl, hR, a, w, hs => aOt (wpIn_skip (hR _ s h hl a w hs))
  | .region id ops draw, S, s, Q, R, H, h, hl, hR, a, w, hs => by
    have key : ∀ s1 : St, s1.tm.length = S.N → Sim S s1.sig a w → aT3 c ops draw s1 Q → At S.P S.rd (Code.region id ops draw) R a w := by
      intro s1 hl1 hs1 hreg
      unfold aT3 at hreg
      split at hreg
      · split at hreg
        · rename_i hdr
          subst hdr
          exact aOt (aN7 H hR hreg hl1 hs1)
        · rename_i hdr
          have hdr : draw = false := by simpa using hdr
          subst hdr
          refine aOt (wpIn_region ?_)
          have := aFX H hR ops.toList 0 s1 (fun i o ho => by simpa using ho) hreg hl1 a w hs1
          rw [List.range_eq_range']
          simpa using this
      unfold aRH at hreg
      split at hreg
      · rename_i ns s' he
        obtain ⟨g1, g2⟩ := dO hreg
        exact aOt (aOV H.P H.G H.K H.m he g1 hl1 hs1 fun a' w' hs' => hR _ s' g2 ((aKm he).trans hl1) a' w' hs')
      · exact hreg.elim
    unfold ev at h
    split at h
    · exact key s hl hs h
    · rename_i s1 _
      split at h
      · rename_i ms hms
        obtain ⟨g1, g2⟩ := dO h
        exact key s1 ((uJ hms).symm.trans hl) (aG8 hs hms g1) g2
      · exact h.elim
  | .seq x y, S, s, Q, R, H, h, hl, hR, a, w, hs => by
    have key : ev c A x s (fun e s' => match e with | .normal => ev c A y s' Q | e => Q e s') → At S.P S.rd (Code.seq x y) R a w := by
      intro h
      refine aB3 (qF x S s _ _ H h hl (fun e s' hq hl' a' w' hs' => ?_) a w hs)
      cases e <;> first
        | exact qF y S s' Q R H hq hl' hR a' w' hs'
        | exact hR _ s' hq hl' a' w' hs'
    unfold ev at h
    split at h
    · split at h
      · rename_i sp _
        obtain ⟨h1, h2⟩ := h
        refine aB3 (qF x S s _ _ H h1 hl (fun e s' hq hl' a' w' hs' => ?_) a w hs)
        cases e <;> first
          | (obtain ⟨y', g1, g2⟩ := hq; exact qF y S _ Q R H (h2 y' g1) ((aBC g2).symm.trans hl') hR a' w' (aDx g2 hs'))
          | exact hR _ s' hq hl' a' w' hs'
      · exact key h
    · exact key h
  | .cond t x y, S, s, Q, R, H, h, hl, hR, a, w, hs => by
    unfold ev at h
    split at h
    case h_2 => exact h.elim
    rename_i ns b hc
    obtain ⟨g1, g2, g3⟩ := dO h
    obtain ⟨D, E, hs0⟩ := id hs
    have hrel := iZ hs0 t
    rw [← H.G] at hrel
    have hb : a.eval t = .bool b := by
      unfold aOc at hc
      split at hc
      · rename_i b' hv
        cases hc
        rw [hv] at hrel
        simpa only [AV.rel, aF, List.cons.injEq, and_true] using hrel
      · rename_i g b' hv
        cases hc
        rw [hv] at hrel
        have hg : g = true := g1 _ (by simp)
        simpa only [AV.rel, aF, List.cons.injEq, and_true] using hrel.1 hg
      · cases hc
    exact aRn hb (fun e => qF x S s Q R H (g2 e) hl hR a w hs) (fun e => qF y S s Q R H (g3 e) hl hR a w hs)
  | .block id x, S, s, Q, R, H, h, hl, hR, a, w, hs => by
    unfold ev at h
    refine aHO (qF x S s _ _ H h hl (fun e s' hq hl' a' w' hs' => ?_) a w hs)
    cases e <;> first
      | exact hR _ s' hq hl' a' w' hs'
      | (rename_i id'
         simp only [Exit.inBlock]
         simp only at hq
         split at hq
         · rename_i e; rw [if_pos e]; exact hR _ s' hq hl' a' w' hs'
         · rename_i e; rw [if_neg e]; exact hR _ s' hq hl' a' w' hs')
  | .exit id, S, s, Q, R, H, h, hl, hR, a, w, hs => aOt (wpIn_exit (hR _ s h hl a w hs))
  | .ret, S, s, Q, R, H, h, hl, hR, a, w, hs => aOt (wpIn_ret (hR _ s h hl a w hs))
  | .loop x, S, s, Q, R, H, h, hl, hR, a, w, hs => by
    unfold ev at h
    split at h
    case h_2 => exact h.elim
    split at h
    case h_2 => exact h.elim
    rename_i sp _
    obtain ⟨⟨x0, i1, i2⟩, h2⟩ := h
    refine at_loop (fun n a w => ∃ y, sp.inv y ∧ sp.μ y = n ∧ (sp.st y).tm.length = S.N ∧ Sim S (sp.st y).sig a w) (sp.μ x0) ⟨x0, i1, rfl, (aBC i2).symm.trans hl, aDx i2 hs⟩ ?_
    rintro n a w ⟨y, j1, rfl, j2, j3⟩
    refine qF x S (sp.st y) _ _ H (h2 y j1) j2 (fun e s' hq hl' a' w' hs' => ?_) a w j3
    cases e <;> first
      | (obtain ⟨z, k1, k2, k3⟩ := hq; exact ⟨sp.μ z, k3, z, k1, rfl, (aBC k2).symm.trans hl', aDx k2 hs'⟩)
      | exact hR _ s' hq hl' a' w' hs'
  | .rangeFunc g ps x y, S, s, Q, R, H, h, hl, hR, a, w, hs => aTd (qF x) (qF y) S s Q R H h hl hR a w hs
  | .scope x, S, s, Q, R, H, h, hl, hR, a, w, hs => by
    unfold ev at h
    refine aOs (qF x S s _ _ H h hl (fun e s' hq hl' a' w' hs' => ?_) a w hs)
    cases e <;> first
      | exact hq.elim
      | exact hR _ s' hq hl' a' w' hs'
  | .label _, S, s, Q, R, H, h, hl, hR, a, w, hs => by
    unfold ev at h
    exact aOt (wpIn_label (hR _ s h hl a w hs))
  | .goto _, S, s, Q, R, _, h, _, _, _, _, _ => by unfold ev at h; exact h.elim
  | .refuse _, S, s, Q, R, _, h, _, _, _, _, _ => by unfold ev at h; exact h.elim
end Go.Eng
