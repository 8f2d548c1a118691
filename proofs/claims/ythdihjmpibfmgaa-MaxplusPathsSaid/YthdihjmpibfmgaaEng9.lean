/- The engine, part 9: calls; one operation. -/
import Derived.Test.YthdihjmpibfmgaaEng8
namespace Go.Eng
open Go.RowKit

structure CRes where
  pre : Prop
  ret : AV

abbrev Kt := FuncId → List AV → Option CRes

def noM : Nat → Option Blk := fun _ => none
def noE : Nat → Ent := fun _ => ⟨0, 0, true⟩

/-- The contract of a call that writes nothing that was there. -/
def SoundC (P : Program) (f : FuncId) (args : List AV) (c : CRes) : Prop :=
  c.pre → ∀ (w : World) (D : Nat → Prop) (us : List Value), (∀ b, D b → b < w.heap.size) → AV.relL P ⟨w, D, noM, noE⟩ args us →
    Calls P f us.toArray w fun e w' => ∃ v, e = .returned v ∧ Below w.heap.size w w' ∧ c.ret.rel P ⟨w', fun b => D b ∨ Fresh w w' b, noM, noE⟩ v

def KSound (P : Program) (K : Kt) : Prop := ∀ f args c, K f args = some c → SoundC P f args c

def normA (P : Program) (t : TypeId) (a : AV) : AV := match a with
  | .val (.slice none 0 0) => match tyAt P t with
    | some (.sl e) => .dat (.sl e) []
    | _ => a
  | _ => a

def normL (P : Program) : List TypeId → List AV → List AV
  | t :: ts, a :: as => normA P t a :: normL P ts as
  | _, as => as

theorem normA_rel {P : Program} {C : Ctx} {t : TypeId} {a : AV} {v : Value} (h : a.rel P C v) : (normA P t a).rel P C v := by
  unfold normA
  split
  · split
    · simp only [AV.rel] at h
      subst h; exact relCells_nilSlice _ _ _
    · exact h
  · exact h

theorem normL_rel {P : Program} {C : Ctx} : ∀ {ts : List TypeId} {as : List AV} {us : List Value}, AV.relL P C as us → AV.relL P C (normL P ts as) us
  | [], _, _, h => h
  | _ :: _, [], _, h => h
  | t :: ts, a :: as, us, h => by
    obtain ⟨u, us', e, g1, g2⟩ := h
    exact ⟨u, us', e, normA_rel g1, normL_rel g2⟩

def paramsOf (P : Program) (f : FuncId) : List TypeId := match P.funcs[f]? with
  | some fn => fn.params.toList
  | none => []

def nameless (a : AV) : Bool := a.names.isEmpty

def callE (P : Program) (K : Kt) (callee : AV) (args : List AV) : Option Core :=
  match callee, args with
  | .fn f caps, args => if goes P f then match K f (normL P (paramsOf P f) args ++ caps) with
    | some c => if nameless c.ret then some { need := [c.pre], val := c.ret } else none
    | none => none
    else none
  | .clo1 a r pre g, [x] => match x.as a with
    | some x => some { need := [pre x], val := .dat r (g x) }
    | none => none
  | .clo2 a b r pre g, [x, y] => match x.as a, y.as b with
    | some x, some y => some { need := [pre x y], val := .dat r (g x y) }
    | _, _ => none
  | _, _ => none

theorem goes_spec {P : Program} {f : FuncId} (h : goes P f = true) (w : World) (args : Array Value) : (callFunc f args).run P w = .ok (.enter f args) w := by
  unfold goes at h
  split at h
  · rename_i fn hf
    simp only [Bool.and_eq_true, bne_iff_ne, ne_eq] at h
    have h1 : fn.body.isNone = false := by cases hb : fn.body <;> simp_all
    have h2 : (fn.name == "runtime.NumGoroutine") = false := by simpa using h.2
    simp only [callFunc, Sem.run_bind, run_program, Result.andThen_ok, hf, h2, h1]
    rfl
  · cases h

theorem relL_noM {P : Program} {w : World} {D : Nat → Prop} {m : Nat → Option Blk} {E : Nat → Ent} {as : List AV} {us : List Value} (h : AV.relL P ⟨w, D, m, E⟩ as us) : AV.relL P ⟨w, D, noM, noE⟩ as us :=
  AV.relL_mono (C := ⟨w, D, m, E⟩) (C' := ⟨w, D, noM, noE⟩) ⟨fun _ h => h, fun _ _ => rfl⟩ (fun _ _ b' hb' => by cases hb') h

theorem nameless_rel {P : Program} {C C' : Ctx} {a : AV} {v : Value} (hn : nameless a = true) (L : Later C C') (h : a.rel P C v) : a.rel P C' v :=
  AV.rel_mono L (fun nm hnm => by
    unfold nameless at hn
    rw [List.isEmpty_iff] at hn
    rw [hn] at hnm; cases hnm) h

theorem SimD.called {S : Base} {σ : Sig} {a : Act} {w w' : World} {D : Nat → Prop} {E : Nat → Ent} (h : SimD S σ a w D E) (hw : Below w.heap.size w w') :
    SimD S σ a w' (fun b => D b ∨ Fresh w w' b) E :=
  h.world hw (fun b => ⟨fun g => g.imp id (fun g => ⟨g, .inr g⟩), fun g => g.imp id (fun g => g.1)⟩) (fun b g => by
    rcases g with g | g
    · exact Nat.lt_of_lt_of_le (h.dlt b g) hw.size
    · exact g.2)

theorem callE_ok {S : Base} {K : Kt} (hK : KSound S.P K) {σ : Sig} {a : Act} {w : World} {D : Nat → Prop} {E : Nat → Ent} (h : SimD S σ a w D E) {callee : AV} {args : List AV} {c : Core} {u : Value} {us : List Value}
    (hc : callE S.P K callee args = some c) (hn : ∀ q ∈ c.need, q) (hcal : callee.rel S.P ⟨w, D, σ.m, E⟩ u) (hargs : AV.relL S.P ⟨w, D, σ.m, E⟩ args us) :
    c.upd = [] ∧ ∃ f as, (do let d ← Deferred.ofValue u us.toArray; invoke d.target d.args).run S.P w = .ok (.enter f as) w ∧
      Calls S.P f as w fun e w'' => ∃ v, e = .returned v ∧ Outcome S σ a c.val v w'' := by
  have hinv : ∀ f caps, u = .func (.func f) #[] caps → goes S.P f = true → (do let d ← Deferred.ofValue u us.toArray; invoke d.target d.args).run S.P w = .ok (.enter f (us.toArray ++ caps)) w := by
    intro f caps hu hg
    subst hu
    simp only [Deferred.ofValue, Sem.run_bind, Sem.run_pure, Result.andThen_ok, invoke, Array.empty_append]
    exact goes_spec hg w _
  unfold callE at hc
  split at hc
  · rename_i f caps
    split at hc
    case isFalse => cases hc
    rename_i hg
    split at hc
    case h_2 => cases hc
    rename_i cr hk
    split at hc
    case isFalse => cases hc
    rename_i hnl
    cases hc
    obtain ⟨cs, hu, hcaps⟩ := hcal
    refine ⟨rfl, f, _, hinv f _ hu hg, ?_⟩
    have hall := relL_noM (AV.relL_append (normL_rel (ts := paramsOf S.P f) hargs) hcaps)
    have hcall := hK f _ cr hk (hn _ (by simp)) w D (us ++ cs) h.dlt hall
    have e : us.toArray ++ cs.toArray = (us ++ cs).toArray := by simp
    rw [e]
    refine hcall.mono fun e w' he => ?_
    obtain ⟨v, rfl, hw, hv⟩ := he
    exact ⟨v, rfl, _, E, h.called hw, nameless_rel (C := ⟨w', fun b => D b ∨ Fresh w w' b, noM, noE⟩) (C' := ⟨w', fun b => D b ∨ Fresh w w' b, σ.m, E⟩) hnl ⟨fun _ g => g, fun _ _ => rfl⟩ hv⟩
  · rename_i a1 r pre g x
    split at hc
    case h_2 => cases hc
    rename_i y hy
    cases hc
    obtain ⟨u1, us', e, r1, r2⟩ := hargs
    simp only [AV.relL] at r2
    subst r2 e
    obtain ⟨f, caps, hu, hg, hcall⟩ := hcal
    have hr := AV.as_rel hy r1
    refine ⟨rfl, f, _, hinv f _ hu hg, ?_⟩
    refine (hcall w D (fun b hb => hb) h.dlt (fun _ _ => rfl) y u1 (hn _ (by simp)) hr).mono fun e w' he => ?_
    obtain ⟨v, rfl, hw, hv⟩ := he
    exact ⟨v, rfl, _, E, h.called hw, hv⟩
  · rename_i a1 b1 r pre g x x2
    split at hc
    case h_2 => cases hc
    rename_i y z hy hz
    cases hc
    obtain ⟨u1, us', e, r1, u2, us'', e2, r2, r3⟩ := hargs
    simp only [AV.relL] at r3
    subst r3 e2 e
    obtain ⟨f, caps, hu, hg, hcall⟩ := hcal
    refine ⟨rfl, f, _, hinv f _ hu hg, ?_⟩
    refine (hcall w D (fun b hb => hb) h.dlt (fun _ _ => rfl) y z u1 u2 (hn _ (by simp)) (AV.as_rel hy r1) (AV.as_rel hz r2)).mono fun e w' he => ?_
    obtain ⟨v, rfl, hw, hv⟩ := he
    exact ⟨v, rfl, _, E, h.called hw, hv⟩
  · cases hc

/-! ### One operation -/

/-- A check that a pointer is not nil. -/
def nilE : RV → Option Core
  | (.ip t x, _) => some { val := .ip t x }
  | (.ptr nm g i c, some b) => some { need := [b.len = g], val := .ptr nm g i c }
  | (.fn f caps, _) => some { val := .fn f caps }
  | _ => none

def sameTmp : Operand → Operand → Bool
  | .tmp i, .tmp j => i == j
  | _, _ => false

def builtinE (P : Program) (nx : Nat) (b : Builtin) (ts : Array TypeId) (vs : List RV) : Option Core :=
  match b, vs with
  | .len, [x] => match ts[0]? with
    | some t => lenE P t x
    | none => none
  | .append, [s, x] => match ts.toList with
    | [t, t'] => if t = t' then appE P nx t s x else none
    | _ => none
  | .max, vs => match (vs.map (·.1) : List AV) with
    | .dat (.int k) x :: r => match maxF true k x r with
      | some y => some { val := .dat (.int k) y }
      | none => none
    | _ => none
  | .min, vs => match (vs.map (·.1) : List AV) with
    | .dat (.int k) x :: r => match maxF false k x r with
      | some y => some { val := .dat (.int k) y }
      | none => none
    | _ => none
  | _, _ => none

def opE (P : Program) (K : Kt) (mt : Bool) (nx : Nat) (o : Op) (vs : List RV) : Option Core :=
  match o, vs with
  | .move _, [x] => some { val := x.1 }
  | .assign _, [x] => some { val := x.1 }
  | .alloc e, [] => allocE P nx e
  | .box e _, [x] => boxE P mt nx e x
  | .buildSlice t len parts, vs => litE P mt nx t len (parts.toList.map (·.1)) (vs.map (·.1))
  | .load t _, [p] => loadE P t p
  | .store t _ _, [p, v] => storeE P t p v
  | .nilCheck _, [p] => nilE p
  | .binOp op xT _ _ _, [a, b] => binE P op xT a.1 b.1
  | .unOp op _ _, [a] => unE op a.1
  | .convert s d _, [a] => convE P s d a.1
  | .makeFunc (.func f) first _, vs => if first.isEmpty then some { val := .fn f (vs.map (·.1)) } else none
  | .makeSlice t l c, [a, b] => makeE P nx t a.1 b.1 (sameTmp l c)
  | .slice t _ none none none, [x] => sliceE P t x.1 none none
  | .slice t _ (some _) none none, [x, l] => sliceE P t x.1 (some l.1) none
  | .slice t _ none (some _) none, [x, h] => sliceE P t x.1 none (some h.1)
  | .slice t _ (some _) (some _) none, [x, l, h] => sliceE P t x.1 (some l.1) (some h.1)
  | .fieldAddr s _ f, [p] => fieldAddrE P s f p
  | .field t _ f, [x] => fieldE P t f x.1
  | .indexAddr t _ _, [x, i] => indexAddrE P t x i.1
  | .index t _ _, [x, i] => indexE P t x.1 i.1
  | .extract _ i, [x] => extractE i x.1
  | .call c, vs => match c.callee, vs with
    | .builtin b, vs => builtinE P nx b c.argTypes vs
    | .value _, f :: args => callE P K f.1 (args.map (·.1))
    | _, _ => none
  | _, _ => none

theorem relL_nil {P : Program} {C : Ctx} {us : List Value} (h : AV.relL P C [] us) : us = [] := h
theorem relL_1 {P : Program} {C : Ctx} {a : AV} {u : Value} (h : AV.relL P C [a] [u]) : a.rel P C u := by
  obtain ⟨_, _, e, g, _⟩ := h; cases e; exact g
theorem relL_2 {P : Program} {C : Ctx} {a b : AV} {u v : Value} (h : AV.relL P C [a, b] [u, v]) : a.rel P C u ∧ b.rel P C v := by
  obtain ⟨_, _, e, g, _, _, e2, g2, _⟩ := h; cases e; cases e2; exact ⟨g, g2⟩
theorem relL_3 {P : Program} {C : Ctx} {a b c : AV} {u v x : Value} (h : AV.relL P C [a, b, c] [u, v, x]) : a.rel P C u ∧ b.rel P C v ∧ c.rel P C x := by
  obtain ⟨_, _, e, g, _, _, e2, g2, _, _, e3, g3, _⟩ := h; cases e; cases e2; cases e3; exact ⟨g, g2, g3⟩

theorem Yields.value {S : Base} {σ : Sig} {a : Act} {x : AV} {s : Sem Value} {w : World} (h : ∃ r w', s.run S.P w = .ok r w' ∧ Outcome S σ a x r w') :
    Yields S σ a x ((do pure (Next.value (← s)) : Sem Next).run S.P w) := by
  obtain ⟨r, w', h1, h2⟩ := h
  exact .inl ⟨r, w', by simp [h1], h2⟩

theorem Yields.same {S : Base} {σ : Sig} {a : Act} {x : AV} {s : Sem Value} {w : World} {D : Nat → Prop} {E : Nat → Ent} (hs : SimD S σ a w D E) (h : ∃ r, s.run S.P w = .ok r w ∧ x.rel S.P ⟨w, D, σ.m, E⟩ r) :
    Yields S σ a x ((do pure (Next.value (← s)) : Sem Next).run S.P w) := by
  obtain ⟨r, h1, h2⟩ := h
  exact Yields.value ⟨r, w, h1, D, E, hs, h2⟩

theorem sameTmp_eq {i j : Operand} (h : sameTmp i j = true) (a : Act) : a.eval i = a.eval j := by
  unfold sameTmp at h
  split at h
  · rw [beq_iff_eq] at h; subst h; rfl
  · cases h

theorem toList_map {α β : Type} (xs : Array α) (f : α → β) : xs.map f = (xs.toList.map f).toArray := by
  apply Array.ext'; simp

theorem builtin_sem {b : Builtin} {ts : Array TypeId} {ty : TypeId} {cs : Array Bool} {args : Array Value} :
    (b = .len → builtin b ts ty cs args = (do pure (Next.value (← Builtin.len_ ts ty args)))) ∧
    (b = .append → builtin b ts ty cs args = (do pure (Next.value (← Builtin.append_ ts ty args)))) ∧
    (b = .max → builtin b ts ty cs args = (do pure (Next.value (← Builtin.max_ ts ty args)))) ∧
    (b = .min → builtin b ts ty cs args = (do pure (Next.value (← Builtin.min_ ts ty args)))) :=
  ⟨fun h => by subst h; rfl, fun h => by subst h; rfl, fun h => by subst h; rfl, fun h => by subst h; rfl⟩

theorem builtinE_ok {S : Base} {σ : Sig} {a : Act} {w : World} {D : Nat → Prop} {E : Nat → Ent} (h : SimD S σ a w D E) {nx : Nat} {b : Builtin} {ts : Array TypeId} {ty : TypeId} {cs : Array Bool} {vs : List RV} {us : List Value} {c : Core}
    (hr : AV.relL S.P ⟨w, D, σ.m, E⟩ (vs.map (·.1)) us) (hres : ∀ v ∈ vs, v.2 = lookB σ.m v.1) (hc : builtinE S.P nx b ts vs = some c) (hn : ∀ q ∈ c.need, q) (hu : ∀ k, c.new = some k → Unm k σ) :
    Yields S ⟨σ.T, upM σ.m c.upd⟩ a c.val ((builtin b ts ty cs us.toArray).run S.P w) := by
  unfold builtinE at hc
  split at hc
  · rename_i x
    obtain ⟨u, us', e, g1, g2⟩ := hr
    have g2' := relL_nil g2
    subst g2' e
    split at hc
    · rename_i t ht
      obtain ⟨r, h1, h2, h3, _⟩ := lenE_ok (ty := ty) h ht (hres x (by simp)) hc hn g1
      rw [h3]
      exact Yields.same h ⟨r, h1, h2⟩
    · cases hc
  · rename_i s x
    obtain ⟨u, us', e, g1, u2, us2, e2, g3, g4⟩ := hr
    have g4' := relL_nil g4
    subst g4' e2 e
    split at hc
    · rename_i t t' hts
      split at hc
      · rename_i ht
        subst ht
        have hts' : ts = #[t, t] := by apply Array.ext'; exact hts
        subst hts'
        exact Yields.value (appE_ok h (hres s (by simp)) (hres x (by simp)) hc hn g1 g3 hu)
      · cases hc
    · cases hc
  · split at hc
    · rename_i k x r hvs
      split at hc
      · rename_i y hy
        cases hc
        rw [hvs] at hr
        obtain ⟨u, us', e, g1, g2⟩ := hr
        subst e
        simp only [AV.rel, relCells, List.cons.injEq, and_true] at g1
        subst g1
        have := run_maxF (P := S.P) (w := w) true k r us' x y hy g2
        refine Yields.same h ⟨.int k y, ?_, rfl⟩
        simp only [Builtin.max_]
        exact this
      · cases hc
    · cases hc
  · split at hc
    · rename_i k x r hvs
      split at hc
      · rename_i y hy
        cases hc
        rw [hvs] at hr
        obtain ⟨u, us', e, g1, g2⟩ := hr
        subst e
        simp only [AV.rel, relCells, List.cons.injEq, and_true] at g1
        subst g1
        have := run_maxF (P := S.P) (w := w) false k r us' x y hy g2
        refine Yields.same h ⟨.int k y, ?_, rfl⟩
        simp only [Builtin.min_]
        exact this
      · cases hc
    · cases hc
  · cases hc

theorem opE_ok {S : Base} {K : Kt} (hK : KSound S.P K) {σ : Sig} {a : Act} {w : World} {D : Nat → Prop} {E : Nat → Ent} (h : SimD S σ a w D E) {mt : Bool} {nx : Nat} {o : Oper} {vs : List RV} {c : Core}
    (hr : AV.relL S.P ⟨w, D, σ.m, E⟩ (vs.map (·.1)) (o.op.operands.toList.map a.eval)) (hres : ∀ v ∈ vs, v.2 = lookB σ.m v.1)
    (hc : opE S.P K mt nx o.op vs = some c) (hn : ∀ q ∈ c.need, q) (hu : ∀ k, c.new = some k → Unm k σ ∧ ∀ v ∈ vs, k ∉ v.1.names) :
    Yields S ⟨σ.T, upM σ.m c.upd⟩ a c.val ((execOp a.eval o).run S.P w) := by
  have hu1 : ∀ k, c.new = some k → Unm k σ := fun k hk => (hu k hk).1
  obtain ⟨dst, op, type, pos, after, guard⟩ := o
  simp only at hr hc
  unfold opE at hc
  split at hc
  · rename_i x0 x
    cases hc
    exact .inl ⟨_, w, rfl, D, E, h, relL_1 hr⟩
  · rename_i x0 x
    cases hc
    exact .inl ⟨_, w, rfl, D, E, h, relL_1 hr⟩
  · exact Yields.value (allocE_ok h hc hu1)
  · rename_i e x0 x
    refine Yields.value (boxE_ok h (hres x (by simp)) hc hn (fun k hk => ⟨hu1 k hk, fun hm => ?_⟩) (relL_1 hr))
    have := (hu k hk).2 x (by simp)
    apply this
    cases hx : x.1 <;> rw [hx] at hm <;> first | exact hm | simpa [cellsV, AV.namesL] using hm
  · rename_i t len parts
    have hmap : (parts.map fun (i, x) => (i, a.eval x)) = ((parts.toList.map (·.1)).zip (parts.toList.map fun p => a.eval p.2)).toArray := by
      apply Array.ext'
      simp only [Array.toList_map, List.zip_map']
    have hops : (Op.buildSlice t len parts).operands.toList.map a.eval = parts.toList.map fun p => a.eval p.2 := by
      simp [Op.operands]
    rw [hops] at hr
    obtain ⟨_, r, w', h1, h2⟩ := litE_ok h hc hr hu1
    refine Yields.value ⟨r, w', ?_, h2⟩
    rw [hmap]; exact h1
  · rename_i t x0 p
    obtain ⟨r, h1, h2, h3, _⟩ := loadE_ok h (hres p (by simp)) hc hn (relL_1 hr)
    rw [h3]; exact Yields.same h ⟨r, h1, h2⟩
  · rename_i t x0 y0 p v
    obtain ⟨g1, g2⟩ := relL_2 hr
    obtain ⟨_, hval, w', h1, D', E', h2⟩ := storeE_ok h (hres p (by simp)) (hres v (by simp)) hc hn g1 g2
    refine .inr (.inl ⟨w', by simp [execOp, h1], D', E', h2, ?_⟩)
    rw [hval]; rfl
  · rename_i x0 p
    have hp := relL_1 hr
    unfold nilE at hc
    split at hc
    · cases hc
      obtain ⟨bl, off, us, e, g⟩ := hp
      refine .inl ⟨_, w, ?_, D, E, h, ⟨bl, off, us, rfl, g⟩⟩
      simp [execOp, e]
    · rename_i nm g i c0 b
      cases hc
      have hm : σ.m nm = some b := (hres _ (List.mem_singleton.2 rfl)).symm
      obtain ⟨_, _, e⟩ := (hp b hm).2 (hn _ (by simp))
      refine .inl ⟨_, w, ?_, D, E, h, hp⟩
      simp [execOp, e]
    · cases hc
      obtain ⟨us, e, g⟩ := hp
      refine .inl ⟨_, w, ?_, D, E, h, ⟨us, rfl, g⟩⟩
      simp [execOp, e]
    · cases hc
  · rename_i bop xT x0 y0 yT x y
    obtain ⟨g1, g2⟩ := relL_2 hr
    obtain ⟨r, h1, h2, h3⟩ := run_binE (w := w) (x := x0) (y := y0) hc hn g1 g2
    rw [h3]; exact Yields.same h ⟨r, h1, h2⟩
  · rename_i uop t0 x0 x
    obtain ⟨r, h1, h2, h3⟩ := run_unE (P := S.P) (w := w) hc hn (relL_1 hr)
    rw [h3]; exact Yields.same h ⟨r, h1, h2⟩
  · rename_i s d x0 x
    obtain ⟨r, h1, h2, h3⟩ := run_convE (w := w) hc hn (relL_1 hr)
    rw [h3]; exact Yields.same h ⟨r, h1, h2⟩
  · rename_i f first caps
    split at hc
    · rename_i hf
      cases hc
      have hf' : first = #[] := by simpa using hf
      subst hf'
      refine .inl ⟨.func (.func f) #[] (caps.map a.eval), w, ?_, D, E, h, caps.toList.map a.eval, by rw [toList_map], ?_⟩
      · simp [execOp, Instr.makeFunc]
      · have hr' : AV.relL S.P ⟨w, D, σ.m, E⟩ (vs.map (·.1)) (caps.toList.map a.eval) := by simpa [Op.operands] using hr
        exact hr'
    · cases hc
  · rename_i t l c0 x y
    obtain ⟨g1, g2⟩ := relL_2 hr
    exact Yields.value (makeE_ok h (fun hs => sameTmp_eq hs a) hc hn g1 g2 hu1)
  · rename_i t x0 x
    obtain ⟨r, h1, h2, h3, _⟩ := sliceE_ok (w := w) (vl := none) (vh := none) hc hn (relL_1 hr) trivial trivial
    rw [h3]; exact Yields.same h ⟨r, h1, h2⟩
  · rename_i t x0 l0 x l
    obtain ⟨g1, g2⟩ := relL_2 hr
    obtain ⟨r, h1, h2, h3, _⟩ := sliceE_ok (w := w) (vl := some _) (vh := none) hc hn g1 g2 trivial
    rw [h3]; exact Yields.same h ⟨r, h1, h2⟩
  · rename_i t x0 l0 x l
    obtain ⟨g1, g2⟩ := relL_2 hr
    obtain ⟨r, h1, h2, h3, _⟩ := sliceE_ok (w := w) (vl := none) (vh := some _) hc hn g1 trivial g2
    rw [h3]; exact Yields.same h ⟨r, h1, h2⟩
  · rename_i t x0 l0 h0 x l hh
    obtain ⟨g1, g2, g3⟩ := relL_3 hr
    obtain ⟨r, h1, h2, h3, _⟩ := sliceE_ok (w := w) (vl := some _) (vh := some _) hc hn g1 g2 g3
    rw [h3]; exact Yields.same h ⟨r, h1, h2⟩
  · rename_i s x0 f p
    obtain ⟨r, h1, h2, h3, _⟩ := fieldAddrE_ok h (hres p (by simp)) hc hn (relL_1 hr)
    rw [h3]; exact Yields.same h ⟨r, h1, h2⟩
  · rename_i t x0 f x
    obtain ⟨r, h1, h2, h3, _⟩ := fieldE_ok (w := w) hc (relL_1 hr)
    rw [h3]; exact Yields.same h ⟨r, h1, h2⟩
  · rename_i t x0 i0 x i
    obtain ⟨g1, g2⟩ := relL_2 hr
    obtain ⟨r, h1, h2, h3, _⟩ := indexAddrE_ok h (hres x (by simp)) hc hn g1 g2
    rw [h3]; exact Yields.same h ⟨r, h1, h2⟩
  · rename_i t x0 i0 x i
    obtain ⟨g1, g2⟩ := relL_2 hr
    obtain ⟨r, h1, h2, h3, _⟩ := indexE_ok (w := w) hc hn g1 g2
    rw [h3]; exact Yields.same h ⟨r, h1, h2⟩
  · rename_i x0 i x
    obtain ⟨r, h1, h2, h3, _⟩ := extractE_ok (P := S.P) (w := w) hc (relL_1 hr)
    rw [h3]; exact Yields.same h ⟨r, h1, h2⟩
  · rename_i cl
    obtain ⟨callee, args, argTypes⟩ := cl
    simp only at hc
    split at hc
    · rename_i b
      have hr' : AV.relL S.P ⟨w, D, σ.m, E⟩ (vs.map (·.1)) (args.toList.map a.eval) := by simpa [Op.operands, Call.operands] using hr
      obtain ⟨cs, e⟩ : ∃ cs, execOp a.eval ⟨dst, .call { callee := .builtin b, args := args, argTypes := argTypes }, type, pos, after, guard⟩ = builtin b argTypes type cs (args.map a.eval) := ⟨_, by simp only [execOp, resolve, pure_bind, invoke]; rfl⟩
      rw [e, toList_map args a.eval]
      exact builtinE_ok (ty := type) h hr' hres hc hn hu1
    · rename_i x0 f fs
      have hr' : AV.relL S.P ⟨w, D, σ.m, E⟩ (f.1 :: fs.map (·.1)) (a.eval x0 :: args.toList.map a.eval) := by simpa [Op.operands, Call.operands] using hr
      obtain ⟨u, us', e, g1, g2⟩ := hr'
      simp only [List.cons.injEq] at e
      obtain ⟨rfl, rfl⟩ := e
      obtain ⟨h1, f', as, h2, h3⟩ := callE_ok hK h hc hn g1 g2
      rw [h1]
      refine .inr (.inr ⟨f', as, w, ?_, h3⟩)
      have e2 : execOp a.eval ⟨dst, .call { callee := .value x0, args := args, argTypes := argTypes }, type, pos, after, guard⟩ = (do let d ← Deferred.ofValue (a.eval x0) (args.toList.map a.eval).toArray; invoke d.target d.args) := by
        simp only [execOp, resolve, toList_map args a.eval]
      rw [e2]; exact h2
    · cases hc
  · cases hc

end Go.Eng
