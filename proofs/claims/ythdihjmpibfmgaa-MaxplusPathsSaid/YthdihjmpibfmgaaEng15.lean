/- The engine, part 15: code, evaluated to what is to be shown; a function's contract out of it. -/
import Derived.Test.YthdihjmpibfmgaaEng14
import Derived.Deep.LoopGhost
namespace Go.Eng
open Go.RowKit

/-- What a loop (or a place where roads meet) is told: the states it may be in, by a parameter; its measure. -/
structure Spec where
  α : Type
  inv : α → Prop
  st : α → St
  μ : α → Nat

structure Ann where
  loop : Nat → St → Option Spec
  pre : Nat → St → Option St
  cut : Nat → St → Option Spec

def all : List Prop → Prop → Prop
  | [], q => q
  | p :: ps, q => p ∧ all ps q

theorem all_out : ∀ {l : List Prop} {q : Prop}, all l q → (∀ p ∈ l, p) ∧ q
  | [], _, h => ⟨fun _ h => absurd h List.not_mem_nil, h⟩
  | p :: ps, q, h => by
    obtain ⟨g1, g2⟩ := all_out h.2
    refine ⟨fun r hr => ?_, g2⟩
    rcases List.mem_cons.1 hr with e | e
    · exact e ▸ h.1
    · exact g1 r e

def leP (s s' : St) : Prop := match leSt s s' with
  | some ns => all ns True
  | none => False

/-- The first region of a code. -/
def firstReg : Code → Option Nat
  | .region id _ _ => some id
  | .seq a b => match firstReg a with | some i => some i | none => firstReg b
  | .cond _ a b => match firstReg a with | some i => some i | none => firstReg b
  | .block _ b => firstReg b
  | .loop b => firstReg b
  | .scope b => firstReg b
  | _ => none

/-- The slots that a code writes. -/
def dstsOf : Code → List Tmp
  | .region _ ops _ => ops.toList.filterMap (·.dst)
  | .seq a b => dstsOf a ++ dstsOf b
  | .cond _ a b => dstsOf a ++ dstsOf b
  | .block _ b => dstsOf b
  | .loop b => dstsOf b
  | .scope b => dstsOf b
  | _ => []

def topAll : List Tmp → List AV → List AV
  | [], l => l
  | t :: ts, l => topAll ts (l.set t .top)

/-- What was never written is nothing to be kept. -/
def topU : AV → AV
  | .val (.tuple _) => .top
  | .grd _ _ => .top
  | a => a

/-- The state at a loop's head: what its body writes is unknown. -/
def headSt (b : Code) (s : St) : St := { s with tm := topAll (dstsOf b) (s.tm.map topU) }

def condP : AV → Prop → Prop → Prop
  | .dat .bool b, p, q => match b with
    | true => p
    | false => q
  | .grd g (.dat .bool b), p, q => g = true ∧ match b with
    | true => p
    | false => q
  | _, _, _ => False

def condB (b : Bool) (p q : Prop) : Prop := (b = true → p) ∧ (b = false → q)

/-- The Bool that a condition reads. -/
def boolOf : AV → Option Bool
  | .dat .bool b => some b
  | _ => none

def condV : AV → Option (List Prop × Bool)
  | .dat .bool b => some ([], b)
  | .grd g (.dat .bool b) => some ([g = true], b)
  | _ => none

def regP (c : Cfg) (ops : Array Oper) (draw : Bool) (s : St) (Q : St → Prop) : Prop := match regE c ops draw s with
  | some (ns, s') => all ns (Q s')
  | none => False

def ev (c : Cfg) (A : Ann) : Code → St → (Exit → St → Prop) → Prop
  | .skip, s, Q => Q .normal s
  | .region id ops draw, s, Q => match A.pre id s with
    | none => regP c ops draw s (Q .normal)
    | some s1 => match leSt s s1 with
      | some ms => all ms (regP c ops draw s1 (Q .normal))
      | none => False
  | .seq a b, s, Q => match firstReg b with
    | some id => match A.cut id s with
      | some sp => ev c A a s (fun e s' => match e with | .normal => ∃ y, sp.inv y ∧ leP s' (sp.st y) | e => Q e s') ∧ ∀ x, sp.inv x → ev c A b (sp.st x) Q
      | none => ev c A a s (fun e s' => match e with | .normal => ev c A b s' Q | e => Q e s')
    | none => ev c A a s (fun e s' => match e with | .normal => ev c A b s' Q | e => Q e s')
  | .cond t a b, s, Q => match condV (evT s.sig.T t) with
    | some (ns, x) => all ns (condB x (ev c A a s Q) (ev c A b s Q))
    | none => False
  | .block id b, s, Q => ev c A b s (fun e s' => match e with | .exit id' => if id' = id then Q .normal s' else Q (.exit id') s' | e => Q e s')
  | .exit id, s, Q => Q (.exit id) s
  | .ret, s, Q => Q .ret s
  | .loop b, s, Q => match firstReg b with
    | some id => match A.loop id (headSt b s) with
      | some sp => (∃ x, sp.inv x ∧ leP s (sp.st x)) ∧ ∀ x, sp.inv x → ev c A b (sp.st x) (fun e s' => match e with | .normal => ∃ y, sp.inv y ∧ leP s' (sp.st y) ∧ sp.μ y < sp.μ x | e => Q e s')
      | none => False
    | none => False
  | _, _, _ => False

theorem leSt_len {s s' : St} {ns : List Prop} (h : leSt s s' = some ns) : s.tm.length = s'.tm.length := by
  unfold leSt at h
  split at h
  · assumption
  · cases h

theorem leP_len {s s' : St} (h : leP s s') : s.tm.length = s'.tm.length := by
  unfold leP at h
  split at h
  · rename_i ns h'; exact leSt_len h'
  · exact h.elim

theorem leP_sim {S : Base} {s s' : St} {a : Act} {w : World} (hl : leP s s') (h : Sim S s.sig a w) : Sim S s'.sig a w := by
  unfold leP at hl
  split at hl
  · rename_i ns h'; exact sim_le h h' (all_out hl).1
  · exact hl.elim

section
variable {S : Base} {c : Cfg}

theorem Sim.draw {σ : Sig} {a : Act} {w : World} (h : Sim S σ a w) : Sim S σ a { w with drawn := w.drawn + 1 } := by
  obtain ⟨D, E, h⟩ := h
  exact ⟨D, E, h.world (D' := D) (by constructor <;> first | rfl | exact Nat.le_refl _ | exact fun _ _ => rfl | exact Nat.le_succ _) (fun b => ⟨.inl, fun g => g.elim id (·.2)⟩) h.dlt⟩

theorem reg_len {ops : Array Oper} {draw : Bool} {s s' : St} {ns : List Prop} (h : regE c ops draw s = some (ns, s')) : s'.tm.length = s.tm.length := by
  unfold regE at h
  split at h
  · rename_i rs _
    dsimp only at h
    generalize (if draw = true then ancTbl [] ops.toList else []) = tbl at h
    by_cases hk : okNew draw tbl s rs = true ∧ (draw = true → okDraw tbl ops.toList rs = true)
    · rw [if_pos hk] at h; cases h; exact stAt_len _ _ _
    · rw [if_neg hk] at h; cases h
  · cases h

theorem reg_ok (hP : c.P = S.P) (hK : KSound S.P c.K) (hm : S.P.follows .mixedOrders = true) {id : Nat} {ops : Array Oper} {draw : Bool} {s s' : St} {ns : List Prop} (h : regE c ops draw s = some (ns, s')) (hn : ∀ q ∈ ns, q)
    (hl : s.tm.length = S.N) {a : Act} {w : World} (hs : Sim S s.sig a w) {Q : Exit → Act → World → Prop} (hQ : ∀ a' w', Sim S s'.sig a' w' → Q .normal a' w') : (Code.region id ops draw).wp S.P Q a w := by
  unfold regE at h
  split at h
  case h_2 => cases h
  rename_i rs hrs
  dsimp only at h
  generalize (if draw = true then ancTbl [] ops.toList else []) = tbl at h
  by_cases hok : okNew draw tbl s rs = true ∧ (draw = true → okDraw tbl ops.toList rs = true)
  case neg => rw [if_neg hok] at h; cases h
  rw [if_pos hok] at h
  cases h
  obtain ⟨P, K, mb⟩ := c
  simp only at hP hK
  subst hP
  obtain ⟨hlen, hat⟩ := runL_at hrs
  have H : RegOk S K mb ops s rs := ⟨by simpa using hlen, fun j o r ho hr => hat j o r (by simpa using ho) hr, hl, fun j r hr q hq => hn q (List.mem_flatMap.2 ⟨r, List.mem_of_getElem? hr, hq⟩)⟩
  cases draw with
  | false => exact region_plain hK H hok.1 hs hQ
  | true => exact region_draw hK hm H hok.1 (hok.2 rfl) hs.draw hQ

theorem ev_ok (hP : c.P = S.P) (hK : KSound S.P c.K) (hm : S.P.follows .mixedOrders = true) {A : Ann} : ∀ (x : Code) (s : St) (Q : Exit → St → Prop) (R : Exit → Act → World → Prop),
    ev c A x s Q → s.tm.length = S.N → (∀ e s', Q e s' → s'.tm.length = S.N → ∀ a w, Sim S s'.sig a w → R e a w) → ∀ a w, Sim S s.sig a w → x.wp S.P R a w
  | .skip, s, Q, R, h, hl, hR, a, w, hs => wp_skip (hR _ s h hl a w hs)
  | .region id ops draw, s, Q, R, h, hl, hR, a, w, hs => by
    have key : ∀ s1 : St, s1.tm.length = S.N → Sim S s1.sig a w → regP c ops draw s1 (Q .normal) → (Code.region id ops draw).wp S.P R a w := by
      intro s1 hl1 hs1 hreg
      unfold regP at hreg
      split at hreg
      · rename_i ns s' he
        obtain ⟨g1, g2⟩ := all_out hreg
        exact reg_ok hP hK hm he g1 hl1 hs1 fun a' w' hs' => hR _ s' g2 ((reg_len he).trans hl1) a' w' hs'
      · exact hreg.elim
    unfold ev at h
    split at h
    · exact key s hl hs h
    · rename_i s1 _
      split at h
      · rename_i ms hms
        obtain ⟨g1, g2⟩ := all_out h
        exact key s1 ((leSt_len hms).symm.trans hl) (sim_le hs hms g1) g2
      · exact h.elim
  | .seq x y, s, Q, R, h, hl, hR, a, w, hs => by
    have key : ev c A x s (fun e s' => match e with | .normal => ev c A y s' Q | e => Q e s') → (Code.seq x y).wp S.P R a w := by
      intro h
      refine wp_seq (ev_ok hP hK hm x s _ _ h hl (fun e s' hq hl' a' w' hs' => ?_) a w hs)
      cases e <;> first
        | exact ev_ok hP hK hm y s' Q R hq hl' hR a' w' hs'
        | exact hR _ s' hq hl' a' w' hs'
    unfold ev at h
    split at h
    · split at h
      · rename_i sp _
        obtain ⟨h1, h2⟩ := h
        refine wp_seq (ev_ok hP hK hm x s _ _ h1 hl (fun e s' hq hl' a' w' hs' => ?_) a w hs)
        cases e <;> first
          | (obtain ⟨y', g1, g2⟩ := hq; exact ev_ok hP hK hm y _ Q R (h2 y' g1) ((leP_len g2).symm.trans hl') hR a' w' (leP_sim g2 hs'))
          | exact hR _ s' hq hl' a' w' hs'
      · exact key h
    · exact key h
  | .cond t x y, s, Q, R, h, hl, hR, a, w, hs => by
    unfold ev at h
    split at h
    case h_2 => exact h.elim
    rename_i ns b hc
    obtain ⟨g1, g2, g3⟩ := all_out h
    obtain ⟨D, E, hs0⟩ := id hs
    have hrel := evT_rel hs0 t
    have hb : a.eval t = .bool b := by
      unfold condV at hc
      split at hc
      · rename_i b' hv
        cases hc
        rw [hv] at hrel
        simpa only [AV.rel, relCells, List.cons.injEq, and_true] using hrel
      · rename_i g b' hv
        cases hc
        rw [hv] at hrel
        have hg : g = true := g1 _ (by simp)
        simpa only [AV.rel, relCells, List.cons.injEq, and_true] using hrel.1 hg
      · cases hc
    exact wp_cond_split hb (fun e => ev_ok hP hK hm x s Q R (g2 e) hl hR a w hs) (fun e => ev_ok hP hK hm y s Q R (g3 e) hl hR a w hs)
  | .block id x, s, Q, R, h, hl, hR, a, w, hs => by
    unfold ev at h
    refine wp_block (ev_ok hP hK hm x s _ _ h hl (fun e s' hq hl' a' w' hs' => ?_) a w hs)
    cases e <;> first
      | exact hR _ s' hq hl' a' w' hs'
      | (rename_i id'
         simp only [Exit.inBlock]
         simp only at hq
         split at hq
         · rename_i e; rw [if_pos e]; exact hR _ s' hq hl' a' w' hs'
         · rename_i e; rw [if_neg e]; exact hR _ s' hq hl' a' w' hs')
  | .exit id, s, Q, R, h, hl, hR, a, w, hs => wp_exit (hR _ s h hl a w hs)
  | .ret, s, Q, R, h, hl, hR, a, w, hs => wp_ret (hR _ s h hl a w hs)
  | .loop x, s, Q, R, h, hl, hR, a, w, hs => by
    unfold ev at h
    split at h
    case h_2 => exact h.elim
    split at h
    case h_2 => exact h.elim
    rename_i sp _
    obtain ⟨⟨x0, i1, i2⟩, h2⟩ := h
    refine wp_loop_ghost (fun n a w => ∃ y, sp.inv y ∧ sp.μ y = n ∧ (sp.st y).tm.length = S.N ∧ Sim S (sp.st y).sig a w) (sp.μ x0) ⟨x0, i1, rfl, (leP_len i2).symm.trans hl, leP_sim i2 hs⟩ ?_
    rintro n a w ⟨y, j1, rfl, j2, j3⟩
    refine ev_ok hP hK hm x (sp.st y) _ _ (h2 y j1) j2 (fun e s' hq hl' a' w' hs' => ?_) a w j3
    cases e <;> first
      | (obtain ⟨z, k1, k2, k3⟩ := hq; exact ⟨sp.μ z, k3, z, k1, rfl, (leP_len k2).symm.trans hl', leP_sim k2 hs'⟩)
      | exact hR _ s' hq hl' a' w' hs'
  | .rangeFunc _ _ _ _, s, Q, R, h, _, _, _, _, _ => by unfold ev at h; exact h.elim
  | .scope _, s, Q, R, h, _, _, _, _, _ => by unfold ev at h; exact h.elim
  | .label _, s, Q, R, h, _, _, _, _, _ => by unfold ev at h; exact h.elim
  | .goto _, s, Q, R, h, _, _, _, _, _ => by unfold ev at h; exact h.elim
  | .refuse _, s, Q, R, h, _, _, _, _, _ => by unfold ev at h; exact h.elim

end

end Go.Eng
