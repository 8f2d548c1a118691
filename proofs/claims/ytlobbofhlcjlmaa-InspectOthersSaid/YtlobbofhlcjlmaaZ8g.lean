/- The engine, part 8g: values in interfaces. -/
import Derived.Test.YtlobbofhlcjlmaaZ8f
set_option linter.unusedSimpArgs false
set_option linter.unusedVariables false
namespace Go.Eng
open Go.RowKit

def isIfcT (P : Program) (t : TypeId) : Option Bool := match P.underlying t with
  | some (.interface _) => some true
  | some _ => some false
  | none => none

def mkIfcE (P : Program) (t : TypeId) (x : AV) : Option Core := match isIfcT P t with
  | some false => some { val := .ifc t x }
  | _ => none

def assertE (P : Program) (asserted : TypeId) (ok : Bool) (x : AV) : Option Core := match isIfcT P asserted, ok, x with
  | some false, true, .ifc t a => if t = asserted then some { val := .tup [a, .dat .bool true] } else none
  | _, _, _ => none

def isConstO : Operand → Bool
  | .const _ => true
  | _ => false

/-- A value in an interface, compared with nil. -/
def ifcNilE : AV → AV → Option Bool
  | .ifc _ _, .val u => match u with | .nilIface => some false | _ => none
  | .val u, .val v => match u, v with | .nilIface, .nilIface => some true | _, _ => none
  | _, _ => none

def ifcEqE (P : Program) (op : BinOp) (t : TypeId) (y : Operand) (a b : AV) : Option Core := match isIfcT P t, isConstO y, ifcNilE a b with
  | some true, true, some r => match op with
    | .eql => some { val := .dat .bool r }
    | .neq => some { val := .dat .bool (D.not r) }
    | _ => none
  | _, _, _ => none

theorem isIfcT_false {P : Program} {t : TypeId} (h : isIfcT P t = some false) : ∃ d, P.underlying t = some d ∧ ∀ ms, d ≠ .interface ms := by
  unfold isIfcT at h
  cases hu : P.underlying t with
  | none => rw [hu] at h; cases h
  | some d =>
    rw [hu] at h
    exact ⟨d, rfl, fun ms e => by subst e; cases h⟩
theorem isIfcT_true {P : Program} {t : TypeId} (h : isIfcT P t = some true) : ∃ ms, P.underlying t = some (.interface ms) := by
  unfold isIfcT at h
  split at h
  · rename_i ms hu; exact ⟨ms, hu⟩
  · cases h
  · cases h

theorem mkIfcE_ok {P : Program} {C : Ctx} {w : World} {t : TypeId} {x : AV} {c : Core} {v : Value} (h : mkIfcE P t x = some c) (hx : x.rel P C v) :
    ∃ r, (Instr.makeInterface t v).run P w = .ok r w ∧ c.val.rel P C r ∧ c.upd = [] ∧ c.new = none := by
  unfold mkIfcE at h
  split at h
  · rename_i ht
    cases h
    obtain ⟨d, hu, hd⟩ := isIfcT_false ht
    refine ⟨.iface t v, ?_, ⟨v, rfl, hx⟩, rfl, rfl⟩
    unfold Instr.makeInterface
    rw [Sem.run_bind, run_underlying hu]
    simp only [Result.andThen_ok]
    cases d <;> first | exact (hd _ rfl).elim | rfl
  · cases h

theorem assertE_ok {P : Program} {C : Ctx} {w : World} {xt t : TypeId} {ok : Bool} {x : AV} {c : Core} {v : Value} (h : assertE P t ok x = some c) (hx : x.rel P C v) :
    ∃ r, (Instr.typeAssert v xt t ok).run P w = .ok r w ∧ c.val.rel P C r ∧ c.upd = [] ∧ c.new = none := by
  unfold assertE at h
  split at h
  · rename_i t' a ht
    split at h
    · rename_i e
      subst e
      cases h
      obtain ⟨d, hu, hd⟩ := isIfcT_false ht
      obtain ⟨u, rfl, hx⟩ := hx
      refine ⟨.tuple #[u, .bool true], ?_, ⟨[u, .bool true], rfl, _, _, rfl, hx, _, _, rfl, rfl, rfl⟩, rfl, rfl⟩
      unfold Instr.typeAssert
      rw [Sem.run_bind, run_underlying hu]
      simp only [Result.andThen_ok]
      cases d <;> first | exact (hd _ rfl).elim | simp
    · cases h
  · cases h

theorem run_equalIn_ifc {P : Program} {t : TypeId} {ms : Array (String × TypeId)} {a b : AV} {C : Ctx} {u v : Value} {r : Bool} (hu : P.underlying t = some (.interface ms)) (h : ifcNilE a b = some r) (ha : a.rel P C u) (hb : b.rel P C v) (w : World) (d : Nat) :
    (Op.equalIn (d + 1) t u v).run P w = .ok r w := by
  unfold ifcNilE at h
  split at h
  · split at h
    · cases h
      obtain ⟨x, rfl, _⟩ := ha
      have hb : v = .nilIface := hb
      subst hb
      simp [Op.equalIn, run_underlying hu]
    · cases h
  · split at h
    · cases h
      have ha : u = .nilIface := ha
      have hb : v = .nilIface := hb
      subst ha hb
      simp [Op.equalIn, run_underlying hu]
    · cases h
  · cases h

theorem ifcNil_vals {P : Program} {a b : AV} {C : Ctx} {u v : Value} {r : Bool} (h : ifcNilE a b = some r) (ha : a.rel P C u) (hb : b.rel P C v) : v = .nilIface ∧ ((∃ t x, u = .iface t x) ∨ u = .nilIface) := by
  unfold ifcNilE at h
  split at h
  · split at h
    · obtain ⟨x, rfl, _⟩ := ha
      exact ⟨hb, .inl ⟨_, _, rfl⟩⟩
    · cases h
  · split at h
    · exact ⟨hb, .inr ha⟩
    · cases h
  · cases h

theorem ifcEqE_ok {P : Program} {C : Ctx} {w : World} {op : BinOp} {t : TypeId} {x y : Operand} {a b : AV} {u v : Value} {c : Core} (h : ifcEqE P op t y a b = some c)
    (ha : a.rel P C u) (hb : b.rel P C v) : ∃ r, (do eqGuard op t x y u v; binOp op t u v : Sem Value).run P w = .ok r w ∧ c.val.rel P C r ∧ c.upd = [] ∧ c.new = none := by
  unfold ifcEqE at h
  split at h
  case h_2 => cases h
  rename_i r ht hy hr
  obtain ⟨ms, hu⟩ := isIfcT_true ht
  have hq := run_equalIn_ifc hu hr ha hb w 9999
  obtain ⟨hv, huv⟩ := ifcNil_vals hr ha hb
  have hg : ∀ op, (eqGuard op t x y u v).run P w = .ok () w := by
    intro op
    obtain ⟨cv, rfl⟩ : ∃ cv, y = .const cv := by
      cases y <;> first | exact ⟨_, rfl⟩ | cases hy
    subst hv
    unfold eqGuard
    rcases huv with ⟨t1, x1, rfl⟩ | rfl
    · cases op <;> simp
    · cases op <;> simp
  split at h
  · cases h
    refine ⟨.bool r, ?_, rfl, rfl, rfl⟩
    rw [Sem.run_bind, hg, Result.andThen_ok]
    subst hv
    rcases huv with ⟨t1, x1, rfl⟩ | rfl
    · simp [binOp, Op.equal, Op.maxDepth, hq]
    · simp [binOp, Op.equal, Op.maxDepth, hq]
  · cases h
    refine ⟨.bool (!r), ?_, rfl, rfl, rfl⟩
    rw [Sem.run_bind, hg, Result.andThen_ok]
    subst hv
    rcases huv with ⟨t1, x1, rfl⟩ | rfl
    · simp [binOp, Op.equal, Op.maxDepth, hq]
    · simp [binOp, Op.equal, Op.maxDepth, hq]
  · cases h

end Go.Eng
