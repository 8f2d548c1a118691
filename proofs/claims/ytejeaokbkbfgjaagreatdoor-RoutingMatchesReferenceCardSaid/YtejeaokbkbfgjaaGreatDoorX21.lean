/- The engine, part 21: a function that is ranged over, evaluated: at each yield it hands over the next element. -/
import Derived.Test.YtejeaokbkbfgjaaGreatDoorX18
set_option linter.unusedSimpArgs false
set_option linter.unusedVariables false
namespace Go.Eng
open Go.RowKit
structure Y where
  s : St
  k : Nat
  on : Bool
structure SpecY where
  α : Type
  inv : α → Prop
  st : α → Y
  μ : α → Nat
structure AnnY where
  loop : Nat → Y → Option SpecY
  pre : Nat → St → Option St
  yr : Nat → Bool
def leY (y y' : Y) : Prop := leP y.s y'.s ∧ y.k = y'.k ∧ y.on = y'.on
def setSlot (d : Option Tmp) (v : AV) (s : St) : St := { s with tm := match d with | some d => s.tm.set d v | none => s.tm }
def yieldOf (G : List (Nat × AV)) (T : Nat → AV) (g : Bool) (o : Op) : Option (Nat × List Prop × AV) := match o with
  | .call ⟨.value f, args, _⟩ => match ug g (evT G T f), args.toList with
    | (.yld l, n1), [a] => match ug g (evT G T a) with
      | (v, n2) => some (l, n1 ++ n2, v)
    | _, _ => none
  | _ => none
def dstOk (d : Option Tmp) (n : Nat) : Bool := match d with | some d => decide (d < n) | none => true
def newOk (r : Rec) (s : St) : Bool := match r.new with | some k => unB k s | none => true
def seqY (c : Cfg) (it : IRes) (l : Nat) (ops : Array Oper) : List Oper → Y → (Y → Prop) → Prop
  | [], y, Q => Q y
  | o :: os, y, Q => match effG y.s.sig.T ops o.guard with
    | some g => match yieldOf c.G y.s.sig.T g o.op with
      | some (l', ns, v) => if dstOk o.dst y.s.tm.length = true ∧ y.s.mem.isEmpty = true then match v.as it.t with
        | some x => condB g (all ns (l' = l ∧ y.on = true ∧ isAt it.L y.k x ∧ ∀ b : Bool, seqY c it l ops os ⟨setSlot o.dst (.dat .bool b) y.s, y.k + 1, b⟩ Q))
            (seqY c it l ops os ⟨setSlot o.dst (.grd g (.dat .bool false)) y.s, y.k, y.on⟩ Q)
        | none => False
        else False
      | none => match stepE c.P c.G c.K (c.mt o) ops y.s.nx y.s.sig o with
        | some r => if recOk r y.s.tm.length = true ∧ newOk r y.s = true then all r.need (seqY c it l ops os ⟨applySt r y.s, y.k, y.on⟩ Q) else False
        | none => False
    | none => False
def evY (c : Cfg) (it : IRes) (l : Nat) (A : AnnY) : Code → Y → (Exit → Y → Prop) → Prop
  | .skip, y, Q => Q .normal y
  | .region id ops draw, y, Q => match A.pre id y.s with
    | some s1 => match leSt y.s s1 with
      | some ms => all ms (if A.yr id = true then draw = false ∧ seqY c it l ops ops.toList ⟨s1, y.k, y.on⟩ (Q .normal) else regP c ops draw s1 fun s' => Q .normal ⟨s', y.k, y.on⟩)
      | none => False
    | none => if A.yr id = true then draw = false ∧ seqY c it l ops ops.toList y (Q .normal) else regP c ops draw y.s fun s' => Q .normal ⟨s', y.k, y.on⟩
  | .seq a b, y, Q => evY c it l A a y (fun e y' => match e with | .normal => evY c it l A b y' Q | e => Q e y')
  | .cond t a b, y, Q => match condV (evT c.G y.s.sig.T t) with
    | some (ns, x) => all ns (condB x (evY c it l A a y Q) (evY c it l A b y Q))
    | none => False
  | .block id b, y, Q => evY c it l A b y (fun e y' => match e with | .exit id' => if id' = id then Q .normal y' else Q (.exit id') y' | e => Q e y')
  | .exit id, y, Q => Q (.exit id) y
  | .ret, y, Q => Q .ret y
  | .loop b, y, Q => match firstReg b with
    | some id => match A.loop id { y with s := headSt b y.s } with
      | some sp => (∃ x, sp.inv x ∧ leY y (sp.st x)) ∧ ∀ x, sp.inv x → evY c it l A b (sp.st x) (fun e y' => match e with | .normal => ∃ z, sp.inv z ∧ leY y' (sp.st z) ∧ sp.μ z < sp.μ x | e => Q e y')
      | none => False
    | none => False
  | _, _, _ => False
def endY (it : IRes) : Exit → Y → Prop
  | .normal, y => y.on = true → y.k = it.L.length
  | .ret, y => y.on = true → y.k = it.L.length
  | _, _ => False
def startY (fn : Func) (l : Nat) (caps : List AV) : Y := ⟨⟨(.yld l :: caps) ++ List.replicate (fn.ntmps - (caps.length + 1)) (.val undef), [], 0, []⟩, 0, true⟩
def evI (c : Cfg) (A : AnnY) (f : FuncId) (caps : List AV) (it : IRes) : Prop := match c.P.funcs[f]? with
  | some fn => match fn.body with
    | some b => fn.results.toList.isEmpty = true ∧ (AV.namesL caps).isEmpty = true ∧ one1 it.t = true ∧ c.rng = false ∧ ∀ l, it.pre → evY c it l A b (startY fn l caps) (endY it)
    | none => False
  | none => False
section
variable {c : Cfg} {it : IRes} {l N : Nat} {J : Nat → World → (Nat → Prop) → Prop} {JX : World → (Nat → Prop) → Prop}
def Ghost (J : Nat → World → (Nat → Prop) → Prop) (JX : World → (Nat → Prop) → Prop) (y : Y) (w : World) (D : Nat → Prop) : Prop := (y.on = true → J y.k w D) ∧ (y.on = false → JX w D)
structure OkY (c : Cfg) (N : Nat) (S : Base) : Prop where
  P : S.P = c.P
  G : S.G = c.G
  N : S.N = N
  O : ∀ b, ¬ S.O b
  sv : S.sv = []
  rd : S.rd = none
  nod : S.nod = true
def SimY (c : Cfg) (N : Nat) (J : Nat → World → (Nat → Prop) → Prop) (JX : World → (Nat → Prop) → Prop) (y : Y) (a : Act) (w : World) : Prop :=
  ∃ S, OkY c N S ∧ Ghost J JX y S.w0 S.D0 ∧ Sim S y.s.sig a w
structure HypY (c : Cfg) (it : IRes) (l : Nat) (J : Nat → World → (Nat → Prop) → Prop) (JX : World → (Nat → Prop) → Prop) : Prop where
  K : KSound c.P c.G c.K
  I : KISound c.P c.G c.KI
  m : c.P.follows .mixedOrders = true
  rng : c.rng = false
  one : it.t.sz = 1
  j1 : ∀ k w1 w2 D1, J k w1 D1 → Below w1.heap.size w1 w2 → J k w2 (fun b => D1 b ∨ Fresh w1 w2 b)
  j2 : ∀ k w1 (D1 D2 : Nat → Prop), J k w1 D1 → (∀ b, D2 b → D1 b) → J k w1 D2
  x1 : ∀ w1 w2 D1, JX w1 D1 → Below w1.heap.size w1 w2 → JX w2 (fun b => D1 b ∨ Fresh w1 w2 b)
  x2 : ∀ w1 (D1 D2 : Nat → Prop), JX w1 D1 → (∀ b, D2 b → D1 b) → JX w1 D2
  yld : ∀ k y W D1 u, it.L[k]? = some y → J k W D1 → (∀ b, D1 b → b < W.heap.size) → relCells W D1 it.t y [u] → YieldAt Fence.wide 0 c.P l #[u] W fun e W' =>
      W.heap.size ≤ W'.heap.size ∧ (∀ b, D1 b → W'.heap[b]? = W.heap[b]?) ∧ ((e = .returned (.bool true) ∧ J (k + 1) W' D1) ∨ (e = .returned (.bool false) ∧ JX W' D1))
theorem OkY.okS {S : Base} (h : OkY c N S) (H : HypY c it l J JX) : OkS c S :=
  ⟨h.P.symm, h.G.symm, by rw [h.P, h.G]; exact H.K, by rw [h.P, h.G]; exact H.I, by rw [h.P]; exact H.m, fun e => (e h.rd).elim, fun _ => by rw [h.nod, H.rng]; rfl⟩
theorem OkY.F {S : Base} (h : OkY c N S) : S.F = Fence.wide := by unfold Base.F; rw [h.rd]
theorem Ghost.now {S : Base} (hS : OkY c N S) (H : HypY c it l J JX) {y : Y} (hg : Ghost J JX y S.w0 S.D0) {σ : Sig} {a : Act} {w : World} {D : Nat → Prop} {E : Nat → Ent} (h : SimD S σ a w D E) : Ghost J JX y w D := by
  have hb : Below S.w0.heap.size S.w0 w := ⟨h.low.os, h.low.tape, h.low.output, h.low.size, fun k hk => h.low.block k hk (hS.O k)⟩
  have hD : ∀ b, D b → S.D0 b ∨ Fresh S.w0 w b := fun b hb => by
    rcases h.dhi b hb with g | g | g
    · exact .inl g
    · exact .inr ⟨g, h.dlt b hb⟩
    · exact (hS.O b g).elim
  exact ⟨fun e => H.j2 _ _ _ _ (H.j1 _ _ _ _ (hg.1 e) hb) hD, fun e => H.x2 _ _ _ (H.x1 _ _ _ (hg.2 e) hb) hD⟩
theorem SimD.slot {S : Base} {s : St} {a : Act} {w : World} {D : Nat → Prop} {E : Nat → Ent} (h : SimD S s.sig a w D E) {d : Option Tmp} {v : Value} {x : AV} (hl : s.tm.length = S.N) (hd : dstOk d s.tm.length = true)
    (hx : x.rel S.P ⟨w, D, s.sig.m, E⟩ v) : SimD S (setSlot d x s).sig (a.put d v) w D E := by
  have hd' : ∀ t, d = some t → t < S.N := fun t e => by subst e; unfold dstOk at hd; rw [← hl]; simpa using hd
  have h1 := h.put (d := d) (v := v) (x := x) hd' hx
  have e : (setSlot d x s).sig = ⟨upT s.sig.T d x, s.sig.m, s.sig.sv⟩ := by
    unfold St.sig setSlot
    congr 1
    funext t
    cases d with
    | none => simp [upT]
    | some d =>
      unfold upT
      have hdl : d < s.tm.length := by rw [hl]; exact hd' d rfl
      by_cases e : t = d
      · subst e; simp [List.getD_eq_getElem?_getD, hdl]
      · have : ¬ d = t := fun g => e g.symm
        simp [List.getD_eq_getElem?_getD, this, e]
  rw [e]; exact h1
theorem SimD.behindYield {S : Base} {s : St} {a : Act} {w w' : World} {D : Nat → Prop} {E : Nat → Ent} (h : SimD S s.sig a w D E) (hm : s.mem = []) (hs : w.heap.size ≤ w'.heap.size) (hk : ∀ b, D b → w'.heap[b]? = w.heap[b]?) (hn : S.nod = true) :
    SimD { S with w0 := w', D0 := D, O := fun _ => False } s.sig a w' D E := by
  have em : s.sig.m = fun _ => none := by
    funext k
    show s.mem.lookup k = none
    rw [hm]; rfl
  have L : Later ⟨w, D, s.sig.m, E⟩ ⟨w', D, s.sig.m, E⟩ := ⟨fun _ g => g, hk⟩
  have nm : ∀ k, NameOK ⟨w, D, s.sig.m, E⟩ ⟨w', D, s.sig.m, E⟩ k := fun k b' hb' => ⟨b', hb', rfl, Nat.le_refl _, fun _ => rfl⟩
  have none : ∀ nm b, s.sig.m nm = some b → False := fun nm b hb => by rw [em] at hb; cases hb
  refine ⟨h.sz, ⟨⟨fun _ => h.df.1.1 hn, h.df.1.2⟩, fun d hd => ?_⟩, fun t => AV.rel_mono L (fun k _ => nm k) (h.tm t), fun k b hb => (none k b hb).elim, fun k b hb => (none k b hb).elim, fun k k' b b' hb => (none k b hb).elim, Chg.refl _ _,
    fun b hb => Nat.lt_of_lt_of_le (h.dlt b hb) hs, fun _ g => g, fun _ g => .inl g, h.gl.mono L, AV.relL_mono L (fun k _ => nm k) h.svr, PrivOk.nil fun k i b g => by obtain ⟨_, _, _, _, _, _, g1, _⟩ := g; exact none k _ g1⟩
  rw [h.df.1.1 hn] at hd; cases hd
theorem seqY_ok (H : HypY c it l J JX) {ops : Array Oper} {Q : Y → Prop} {R : Exit → Act → World → Prop} (hR : ∀ y', Q y' → y'.s.tm.length = N → ∀ a w, SimY c N J JX y' a w → R .normal a w) :
    ∀ (os : List Oper) (j : Nat) (y : Y), (∀ i o, os[i]? = some o → ops[j + i]? = some o) → seqY c it l ops os y Q → y.s.tm.length = N → ∀ a w, SimY c N J JX y a w → wpOpsIn Fence.wide 0 c.P ops R (List.range' j os.length) a w
  | [], j, y, _, h, hl, a, w, hs => by
    simp only [List.length_nil, List.range'_zero, wpOpsIn]
    simp only [seqY] at h
    exact hR y h hl a w hs
  | o :: os, j, y, hops, h, hl, a, w, hs => by
    have ho : ops[j]? = some o := by simpa using hops 0 o rfl
    have hos : ∀ i o', os[i]? = some o' → ops[j + 1 + i]? = some o' := fun i o' hi => by
      have := hops (i + 1) o' (by simpa using hi)
      rw [show j + 1 + i = j + (i + 1) by omega]; exact this
    obtain ⟨S, hS, hg, D, E, hd⟩ := hs
    have hlS : y.s.tm.length = S.N := hl.trans hS.N.symm
    simp only [seqY] at h
    split at h
    case h_2 => exact h.elim
    rename_i g hge
    have hwant := effG_ok (o := o) hd hge
    rw [List.length_cons, List.range'_succ, wpOpsIn_cons]
    split at h
    · -- a yield
      rename_i l' ns v hy
      split at h
      case isFalse => exact h.elim
      rename_i hc
      obtain ⟨hdst, hmem⟩ := hc
      have hmem : y.s.mem = [] := List.isEmpty_iff.1 hmem
      split at h
      case h_2 => exact h.elim
      rename_i x hx
      unfold wpOpIn
      rw [ho]
      simp only
      rw [hwant]
      cases g with
      | false =>
        simp only [Bool.false_eq_true, if_false]
        refine ⟨fun f _ => trivial, seqY_ok H hR os (j + 1) _ hos (h.2 rfl) (by simp [setSlot]; split <;> simp [hl]) _ _ ⟨S, hS, hg, D, E, ?_⟩⟩
        exact hd.slot hlS hdst ⟨fun e => (by cases e), fun _ => rfl⟩
      | true =>
        simp only [if_true]
        obtain ⟨hns, hll, hon, hat, hcont⟩ := all_out (h.1 rfl)
        -- the call
        unfold yieldOf at hy
        split at hy
        case h_2 => cases hy
        rename_i f args at_ hop
        split at hy
        case h_2 => cases hy
        rename_i l2 n1 av hf hargs
        simp only [Option.some.injEq, Prod.mk.injEq] at hy
        obtain ⟨hl2, rfl, rfl⟩ := hy
        have hl2 : l2 = l := hl2.trans hll
        rw [hl2] at hf
        have hfv := evT_rel hd f
        have hav := evT_rel hd av
        rw [hS.G] at hfv hav
        have hfv2 := ug_rel (g := true) rfl (fun q hq => hns q (List.mem_append.2 (.inl (by rw [hf] at hq; exact hq)))) hfv
        have hav2 := ug_rel (g := true) rfl (fun q hq => hns q (List.mem_append.2 (.inr hq))) hav
        rw [hf] at hfv2
        have hfv3 : a.eval f = .func (.yield l) #[] #[] := hfv2
        have hcell := AV.as_rel hx hav2
        have hgn := hg.now hS H hd
        have hyl := H.yld y.k x w D (a.eval av) hat (hgn.1 hon) hd.dlt hcell
        obtain ⟨fn, tmps, assign, body, hrun, hround⟩ := hyl
        unfold Oper.wpIn
        refine ⟨fun f _ => trivial, ?_⟩
        have nodef : ∀ d, o.op ≠ .defer d := fun d e => by rw [hop] at e; cases e
        rw [Oper.semAt_eq _ _ _ nodef]
        have hexec : (execOp a.eval o).run c.P w = .ok (.round l fn tmps assign body) w := by
          obtain ⟨dst, op, ty, pos, after, guard⟩ := o
          simp only at hop
          subst hop
          have e1 : args.map a.eval = #[a.eval av] := by
            apply Array.ext'
            rw [Array.toList_map, hargs]; rfl
          simp only [execOp, resolve, e1, hfv3, Deferred.ofValue, Sem.run_bind, Sem.run_pure, Result.andThen_ok, invoke, Array.empty_append]
          simpa using hrun
        rw [hexec, Oper.uponIn_round]
        refine ⟨fun h => (by cases h), ?_⟩
        refine RoundIn.mono hround ?_
        rintro e w' ⟨hsz, hkeep, hres⟩
        have hsim : ∀ b, e = .returned (.bool b) → Ghost J JX ⟨setSlot o.dst (.dat .bool b) y.s, y.k + 1, b⟩ w' D → wpOpsIn Fence.wide 0 c.P ops R (List.range' (j + 1) os.length) (a.put o.dst (.bool b)) w' := fun b he hgh => by
          refine seqY_ok H hR os (j + 1) _ hos (hcont b) (by simp [setSlot]; split <;> simp [hl]) _ _ ⟨{ S with w0 := w', D0 := D, O := fun _ => False }, ⟨hS.P, hS.G, hS.N, fun _ g => g, hS.sv, hS.rd, hS.nod⟩, hgh, D, E, ?_⟩
          exact (hd.behindYield hmem hsz hkeep hS.nod).slot hlS hdst rfl
        rcases hres with ⟨rfl, hj⟩ | ⟨rfl, hj⟩
        · exact hsim true rfl ⟨fun _ => hj, fun e => (by cases e)⟩
        · exact hsim false rfl ⟨fun e => (by cases e), fun _ => hj⟩
    · -- another operation
      split at h
      case h_2 => exact h.elim
      rename_i r hr
      split at h
      case isFalse => exact h.elim
      rename_i hok
      obtain ⟨hns, hcont⟩ := all_out h
      have hdst : ∀ d, o.dst = some d → d < S.N := by
        intro d hdd
        have e : r.dst = o.dst := by
          unfold stepE at hr
          split at hr
          · split at hr
            · unfold mkRec at hr
              split at hr
              · cases hr; rfl
              · split at hr
                · cases hr; rfl
                · cases hr
            · cases hr
          · cases hr
        have h2 := hok.1
        unfold recOk at h2
        simp only [Bool.and_eq_true] at h2
        have := h2.1
        rw [e, hdd] at this
        rw [← hlS]; simpa using this
      have hK : KSound S.P S.G c.K := (hS.okS H).K
      have hr' : stepE S.P S.G c.K (c.mt o) ops y.s.nx y.s.sig o = some r := by rw [hS.P, hS.G]; exact hr
      have := stepE_ok (Q := R) hK ho ⟨D, E, hd⟩ hdst hr' hns (fun k hk => by
        have := hok.2
        unfold newOk at this
        rw [hk] at this
        exact unB_ok this)
      rw [hS.F, hS.P] at this
      refine wpOpIn_mono (fun a' w' h' => seqY_ok H hR os (j + 1) _ hos hcont (by rw [applySt_len]; exact hl) a' w' ⟨S, hS, hg, ?_⟩) this
      show Sim S (applySt r y.s).sig a' w'
      rw [sig_applySt hok.1]
      exact h'
theorem evY_ok (H : HypY c it l J JX) {A : AnnY} : ∀ (x : Code) (y : Y) (Q : Exit → Y → Prop) (R : Exit → Act → World → Prop), evY c it l A x y Q → y.s.tm.length = N →
    (∀ e y', Q e y' → y'.s.tm.length = N → ∀ a w, SimY c N J JX y' a w → R e a w) → ∀ a w, SimY c N J JX y a w → x.wpIn Fence.wide 0 c.P R a w
  | .skip, y, Q, R, h, hl, hR, a, w, hs => by
    unfold evY at h
    exact wpIn_skip (hR _ y h hl a w hs)
  | .region id ops draw, y, Q, R, h, hl, hR, a, w, hs => by
    have key : ∀ y1 : Y, y1.s.tm.length = N → SimY c N J JX y1 a w → (if A.yr id = true then draw = false ∧ seqY c it l ops ops.toList y1 (Q .normal) else regP c ops draw y1.s fun s' => Q .normal ⟨s', y1.k, y1.on⟩) →
        (Code.region id ops draw).wpIn Fence.wide 0 c.P R a w := by
      intro y1 hl1 hs1 h1
      split at h1
      · obtain ⟨rfl, h1⟩ := h1
        refine wpIn_region ?_
        have := seqY_ok H (Q := Q .normal) (R := R) (fun y' hq hl' a' w' hs' => hR .normal y' hq hl' a' w' hs') ops.toList 0 y1 (fun i o ho => by simpa using ho) h1 hl1 a w hs1
        rw [List.range_eq_range']
        simpa using this
      · obtain ⟨S, hS, hg, hsim⟩ := hs1
        unfold regP at h1
        split at h1
        · rename_i ns s' he
          obtain ⟨g1, g2⟩ := all_out h1
          have HO := hS.okS H
          have := reg_ok (S := S) HO.P HO.G HO.K HO.m he g1 (hl1.trans hS.N.symm) hsim (id := id) (Q := R) (fun a' w' hs' => hR .normal ⟨s', y1.k, y1.on⟩ g2 ((reg_len he).trans hl1) a' w' ⟨S, hS, hg, hs'⟩)
          rw [hS.F, hS.P] at this
          exact this
        · exact h1.elim
    unfold evY at h
    split at h
    · rename_i s1 _
      split at h
      · rename_i ms hms
        obtain ⟨g1, g2⟩ := all_out h
        obtain ⟨S, hS, hg, hsim⟩ := hs
        exact key ⟨s1, y.k, y.on⟩ ((leSt_len hms).symm.trans hl) ⟨S, hS, hg, sim_le hsim hms g1⟩ g2
      · exact h.elim
    · exact key y hl hs h
  | .seq x z, y, Q, R, h, hl, hR, a, w, hs => by
    unfold evY at h
    refine wpIn_seq (evY_ok H x y _ _ h hl (fun e y' hq hl' a' w' hs' => ?_) a w hs)
    cases e <;> first
      | exact evY_ok H z y' Q R hq hl' hR a' w' hs'
      | exact hR _ y' hq hl' a' w' hs'
  | .cond t x z, y, Q, R, h, hl, hR, a, w, hs => by
    unfold evY at h
    split at h
    case h_2 => exact h.elim
    rename_i ns b hc
    obtain ⟨g1, g2, g3⟩ := all_out h
    obtain ⟨S, hS, hg, D, E, hs0⟩ := id hs
    have hrel := evT_rel hs0 t
    rw [hS.G] at hrel
    have hb : a.eval t = .bool b := by
      unfold condV at hc
      split at hc
      · rename_i b' hv
        cases hc
        rw [hv] at hrel
        simpa only [AV.rel, relCells, List.cons.injEq, and_true] using hrel
      · rename_i g b' hv
        cases hc
        rw [hv] at hrel
        have hg : g = true := g1 _ (by simp)
        simpa only [AV.rel, relCells, List.cons.injEq, and_true] using hrel.1 hg
      · cases hc
    exact wpIn_cond_split hb (fun e => evY_ok H x y Q R (g2 e) hl hR a w hs) (fun e => evY_ok H z y Q R (g3 e) hl hR a w hs)
  | .block id x, y, Q, R, h, hl, hR, a, w, hs => by
    unfold evY at h
    refine wpIn_block (evY_ok H x y _ _ h hl (fun e y' hq hl' a' w' hs' => ?_) a w hs)
    cases e <;> first
      | exact hR _ y' hq hl' a' w' hs'
      | (rename_i id'
         simp only [Exit.inBlock]
         simp only at hq
         split at hq
         · rename_i e; rw [if_pos e]; exact hR _ y' hq hl' a' w' hs'
         · rename_i e; rw [if_neg e]; exact hR _ y' hq hl' a' w' hs')
  | .exit id, y, Q, R, h, hl, hR, a, w, hs => by unfold evY at h; exact wpIn_exit (hR _ y h hl a w hs)
  | .ret, y, Q, R, h, hl, hR, a, w, hs => by unfold evY at h; exact wpIn_ret (hR _ y h hl a w hs)
  | .loop x, y, Q, R, h, hl, hR, a, w, hs => by
    unfold evY at h
    split at h
    case h_2 => exact h.elim
    split at h
    case h_2 => exact h.elim
    rename_i sp _
    obtain ⟨⟨x0, i1, i2⟩, h2⟩ := h
    have le : ∀ {y y' : Y} {a : Act} {w : World}, leY y y' → SimY c N J JX y a w → SimY c N J JX y' a w := by
      rintro y y' a w ⟨l1, l2, l3⟩ ⟨S, hS, hg, hsim⟩
      refine ⟨S, hS, ?_, leP_sim l1 hsim⟩
      unfold Ghost at hg ⊢
      rw [← l2, ← l3]; exact hg
    refine wpIn_loop_ghost (fun n a w => ∃ z, sp.inv z ∧ sp.μ z = n ∧ (sp.st z).s.tm.length = N ∧ SimY c N J JX (sp.st z) a w) (sp.μ x0) ⟨x0, i1, rfl, (leP_len i2.1).symm.trans hl, le i2 hs⟩ ?_
    rintro n a w ⟨z, j1, rfl, j2, j3⟩
    refine evY_ok H x (sp.st z) _ _ (h2 z j1) j2 (fun e y' hq hl' a' w' hs' => ?_) a w j3
    cases e <;> first
      | (obtain ⟨z', k1, k2, k3⟩ := hq; exact ⟨sp.μ z', k3, z', k1, rfl, (leP_len k2.1).symm.trans hl', le k2 hs'⟩)
      | exact hR _ y' hq hl' a' w' hs'
  | .rangeFunc _ _ _ _, _, _, _, h, _, _, _, _, _ => by unfold evY at h; exact h.elim
  | .scope _, _, _, _, h, _, _, _, _, _ => by unfold evY at h; exact h.elim
  | .label _, _, _, _, h, _, _, _, _, _ => by unfold evY at h; exact h.elim
  | .goto _, _, _, _, h, _, _, _, _, _ => by unfold evY at h; exact h.elim
  | .refuse _, _, _, _, h, _, _, _, _, _ => by unfold evY at h; exact h.elim
end
theorem iter_of_ev {c : Cfg} {A : AnnY} {f : FuncId} {caps : List AV} {it : IRes} (hK : KSound c.P c.G c.K) (hI : KISound c.P c.G c.KI) (hm : c.P.follows .mixedOrders = true) (h : evI c A f caps it) : IterC c.P c.G f caps it := by
  intro hpre l J JX w D us hD hG hcaps j1 j2 x1 x2 hyld h0
  unfold evI at h
  split at h
  case h_2 => exact h.elim
  rename_i fn hf
  split at h
  case h_2 => exact h.elim
  rename_i b hb
  obtain ⟨hres, hnm, hone, hrng, h⟩ := h
  have h := h l hpre
  have H : HypY c it l J JX := ⟨hK, hI, hm, hrng, by unfold one1 at hone; simpa using hone, j1, j2, x1, x2, hyld⟩
  have hlen : caps.length = us.length := AV.relL_length hcaps
  have hargs : AV.relL c.P ⟨w, D, noM, noE⟩ (.yld l :: caps) (.func (.yield l) #[] #[] :: us) := ⟨_, _, rfl, rfl, hcaps⟩
  have earr : #[Value.func (.yield l) #[] #[]] ++ us.toArray = (Value.func (.yield l) #[] #[] :: us).toArray := by simp
  rw [earr]
  obtain ⟨S, hS⟩ : ∃ S : Base, S = { P := c.P, w0 := w, D0 := D, N := (caps.length + 1) + (fn.ntmps - (caps.length + 1)), O := fun _ => False, G := c.G, sv := [], rd := none, nod := true } := ⟨_, rfl⟩
  refine callsIn_of_wp_marks hf hb trivial ?_
  have hstart : SimD S (startY fn l caps).s.sig { tmps := (Value.func (.yield l) #[] #[] :: us).toArray ++ Array.replicate (fn.ntmps - (Value.func (.yield l) #[] #[] :: us).toArray.size) undef, defers := [] } w D noE := by
    rw [hS]
    refine ⟨?_, ⟨⟨fun _ => rfl, List.Pairwise.nil⟩, fun d hd => (by cases hd)⟩, fun t => ?_, fun nm b hm => (by cases hm), fun nm b hm => (by cases hm), fun nm nm' b b' hm => (by cases hm), Chg.refl _ _, hD, fun b hb => hb, fun b hb => .inl hb,
      hG, rfl, PrivOk.nil fun k i b g => (by obtain ⟨_, _, _, _, _, _, g1, _⟩ := g; cases g1)⟩
    · simp [hlen]
    · show (((.yld l :: caps) ++ List.replicate (fn.ntmps - (caps.length + 1)) (AV.val undef)).getD t .top).rel c.P ⟨w, D, noM, noE⟩ _
      rw [List.getD_eq_getElem?_getD, Array.getD_eq_getD_getElem?]
      by_cases ht : t < (AV.yld l :: caps).length
      · rw [List.getElem?_append_left ht, Array.getElem?_append_left (by simpa [hlen] using ht)]
        obtain ⟨u, g1, g2⟩ := AV.relL_get hargs (List.getElem?_eq_getElem ht)
        rw [List.getElem?_eq_getElem ht]
        simp only [List.getElem?_toArray, g1, Option.getD_some]
        exact g2
      · rw [List.getElem?_append_right (by omega), Array.getElem?_append_right (by simp [← hlen] at ht ⊢; omega)]
        rw [List.getElem?_replicate, Array.getElem?_replicate]
        split
        · rename_i h1
          rw [if_pos (by simp [← hlen] at h1 ⊢; omega)]
          rfl
        · trivial
  refine evY_ok (N := (caps.length + 1) + (fn.ntmps - (caps.length + 1))) H b (startY fn l caps) (endY it) _ h (by simp [startY]; omega) (fun e y' hq hl a' w' hs' => ?_) _ w ⟨S, by rw [hS]; exact ⟨rfl, rfl, rfl, fun _ g => g, rfl, rfl, rfl⟩, ⟨fun _ => by rw [hS]; exact h0, fun e => by cases e⟩, D, noE, hstart⟩
  have key : (y'.on = true → y'.k = it.L.length) → LeavesInM Fence.wide 0 c.P fn a'.tmps (fun e W' => (∃ v, e = .returned v) ∧ ((∃ D2, J it.L.length W' D2) ∨ ∃ D2, JX W' D2)) a'.defers .returning w' := by
    intro hq
    obtain ⟨S', hS', hg, D', E', hd⟩ := hs'
    have hdef : a'.defers = [] := hd.df.1.1 hS'.nod
    rw [hdef]
    have hgn := hg.now hS' H hd
    have hr : fn.results = #[] := by
      apply Array.ext'
      exact List.isEmpty_iff.1 hres
    refine ⟨.tuple #[], by simp [results, hr], ⟨_, rfl⟩, ?_⟩
    cases hon : y'.on with
    | true => exact .inl ⟨D', by rw [← hq hon]; exact hgn.1 hon⟩
    | false => exact .inr ⟨D', hgn.2 hon⟩
  cases e <;> first
    | exact key hq
    | exact hq.elim
end Go.Eng
