/- The engine, part 18: more words for data; functions as values; contracts at values that say more. -/
import Derived.Test.YtlobbofhlcjlmaaZ17c
import Derived.KernelRfl
set_option linter.unusedSimpArgs false
set_option linter.unusedVariables false
namespace Go.Eng
open Go.RowKit


/-- A state with some slots told. -/
def put (s : St) (l : List (Tmp × AV)) : St := { s with tm := l.foldl (fun tm p => tm.set p.1 p.2) s.tm }

/-- A state with a block of the memory told. -/
def putM (s : St) (nm : Nat) (b : Blk) : St := { s with mem := memSet s.mem nm b }

def noAnn : Ann := ⟨fun _ _ => none, fun _ _ => none, fun _ _ => none⟩

theorem of_eq {p q : Prop} (h : q = p) (hp : p) : q := h ▸ hp

theorem nameless_noM {P : Program} {w w' : World} {D D' : Nat → Prop} {as : List AV} {us : List Value} (hn : AV.namesL as = []) (hD : ∀ b, D b → D' b) (hw : ∀ b, D b → w'.heap[b]? = w.heap[b]?)
    {m : Nat → Option Blk} {E : Nat → Ent} (h : AV.relL P ⟨w, D, m, E⟩ as us) : AV.relL P ⟨w', D', noM, noE⟩ as us :=
  AV.relL_mono (C := ⟨w, D, m, E⟩) (C' := ⟨w', D', noM, noE⟩) ⟨hD, hw⟩ (fun nm hm => by rw [hn] at hm; cases hm) h

/-- What a call without memory leaves. -/
theorem Left.pure {P : Program} {upd : Mem} {w w' : World} {D D' : Nat → Prop} {E E' : Nat → Ent} (h : Left P (memF []) upd w D E w' D' E') : Below w.heap.size w w' ∧ ∀ b, D' b → D b ∨ Fresh w w' b := by
  refine ⟨⟨h.chg.os, h.chg.tape, h.chg.output, h.chg.size, fun k hk => h.chg.block k hk fun ⟨nm, blk, g, _⟩ => (by cases g)⟩, fun b hb => ?_⟩
  rcases h.dhi b hb with g | g
  · exact .inl g
  · exact .inr ⟨g, h.dlt b hb⟩

theorem SoundC.data {P : Program} {G : List (Nat × AV)} {f : FuncId} {args : List AV} {pre : Prop} {r : Ty} {y : r.den} (h : SoundC P G f args [] ⟨pre, .dat r y, []⟩) (hp : pre) {w : World} {D : Nat → Prop} {us : List Value} (hD : ∀ b, D b → b < w.heap.size)
    (hG : relG P ⟨w, D, noM, noE⟩ G) (ha : AV.relL P ⟨w, D, noM, noE⟩ args us) : Calls P f us.toArray w (PureRet w D r y) := by
  refine (h hp w D noE us hD hG ha (Held.none _ _ _ _)).mono fun e w' ⟨v, D', E', q1, q2, q3⟩ => ?_
  obtain ⟨g1, g2⟩ := q2.pure
  exact ⟨v, q1, g1, relCells_mono g2 (fun _ _ => rfl) q3⟩

/-- A function with a contract, as a value that answers as a function of two. -/
theorem clo2_of_fn {P : Program} {G : List (Nat × AV)} {f : FuncId} {caps : List AV} {a b r : Ty} {pre : a.den → b.den → Prop} {g : a.den → b.den → r.den} (hg : goes P f = true) (hn : AV.namesL caps = [])
    (h : ∀ x y, SoundC P G f (.dat a x :: .dat b y :: caps) [] ⟨pre x y, .dat r (g x y), []⟩) {C : Ctx} (hG : relG P C G) {v : Value} (hv : (AV.fn f caps).rel P C v) : (AV.clo2 a b r pre g).rel P C v := by
  obtain ⟨us, rfl, hc⟩ := hv
  refine ⟨f, us.toArray, rfl, hg, fun w' D' g1 g2 g3 x y u v hp hx hy => ?_⟩
  have hall : AV.relL P ⟨w', D', noM, noE⟩ (.dat a x :: .dat b y :: caps) (u :: v :: us) := ⟨u, _, rfl, hx, v, _, rfl, hy, nameless_noM hn g1 g3 hc⟩
  have hG' : relG P ⟨w', D', noM, noE⟩ G := hG.mono ⟨g1, g3⟩
  have e : (#[u, v] ++ us.toArray) = (u :: v :: us).toArray := by simp
  rw [e]
  exact (h x y).data hp g2 hG' hall

theorem clo1_of_fn {P : Program} {G : List (Nat × AV)} {f : FuncId} {caps : List AV} {a r : Ty} {pre : a.den → Prop} {g : a.den → r.den} (hg : goes P f = true) (hn : AV.namesL caps = [])
    (h : ∀ x, SoundC P G f (.dat a x :: caps) [] ⟨pre x, .dat r (g x), []⟩) {C : Ctx} (hG : relG P C G) {v : Value} (hv : (AV.fn f caps).rel P C v) : (AV.clo1 a r pre g).rel P C v := by
  obtain ⟨us, rfl, hc⟩ := hv
  refine ⟨f, us.toArray, rfl, hg, fun w' D' g1 g2 g3 x u hp hx => ?_⟩
  have hall : AV.relL P ⟨w', D', noM, noE⟩ (.dat a x :: caps) (u :: us) := ⟨u, _, rfl, hx, nameless_noM hn g1 g3 hc⟩
  have hG' : relG P ⟨w', D', noM, noE⟩ G := hG.mono ⟨g1, g3⟩
  have e : (#[u] ++ us.toArray) = (u :: us).toArray := by simp
  rw [e]
  exact (h x).data hp g2 hG' hall

/-- A contract at arguments that say less is one at arguments that say more. -/
theorem SoundC.args {P : Program} {G : List (Nat × AV)} {f : FuncId} {as bs : List AV} {m : Mem} {c : CRes} (h : SoundC P G f bs m c) (hab : ∀ (C : Ctx) us, relG P C G → AV.relL P C as us → AV.relL P C bs us) : SoundC P G f as m c :=
  fun hp w D E us hD hG hu hH => h hp w D E us hD hG (hab _ us hG hu) hH

/-- A contract under a premise. -/
theorem SoundC.of_pre {P : Program} {G : List (Nat × AV)} {f : FuncId} {as : List AV} {m : Mem} {c : CRes} (h : c.pre → SoundC P G f as m c) : SoundC P G f as m c := fun hp => h hp hp

theorem SoundC.weaken {P : Program} {G : List (Nat × AV)} {f : FuncId} {as : List AV} {m : Mem} {p q : Prop} {r : AV} {u : Mem} (h : SoundC P G f as m ⟨q, r, u⟩) (hpq : p → q) : SoundC P G f as m ⟨p, r, u⟩ := fun hp => h (hpq hp)

theorem SoundC.eqv {P : Program} {G : List (Nat × AV)} {f : FuncId} {as : List AV} {m : Mem} {p : Prop} {t : Ty} {x y : t.den} {u : Mem} (h : SoundC P G f as m ⟨p, .dat t x, u⟩) (e : p → x = y) : SoundC P G f as m ⟨p, .dat t y, u⟩ := fun hp => e hp ▸ h hp

mutual
def frzA (m : Mem) (nms : List Nat) : AV → AV
  | .ptr nm g i c => if nms.contains nm then match m.lookup nm with
    | some (.var [.dat t x]) => .ip t x
    | some (.var [v]) => if v.names.isEmpty then .ipv v else .top
    | some (.buf _ t xs []) => .ia t xs
    | _ => .top
    else .ptr nm g i c
  | .buf nm n => if nms.contains nm then match m.lookup nm with
    | some (.buf _ t xs []) => .dat (.sl t) xs
    | some (.mat _ _ e xss []) => .dat (.sl (.sl e)) xss
    | some (.buf _ (.sl e) xs [(i, .buf nm2 _)]) => match m.lookup nm2 with
      | some (.buf _ e' zs []) => if h : e' = e then .dat (.sl (.sl e)) (D.set (α := List e.den) xs i (h ▸ zs)) else .top
      | _ => .top
    | _ => .top
    else .buf nm n
  | .agg cs => .agg (frzL m nms cs)
  | a => if a.names.any nms.contains then .top else a
def frzL (m : Mem) (nms : List Nat) : List AV → List AV
  | [] => []
  | a :: as => frzA m nms a :: frzL m nms as
end

def frzB (m : Mem) (nms : List Nat) : Blk → Blk
  | .var cs => .var (frzL m nms cs)
  | b => b

/-- The state with some names let go: what they name is data. -/
def frz (nms : List Nat) (s : St) : St := { s with tm := s.tm.map (fun a => frzA s.mem nms (topU a)), mem := (s.mem.filter fun p => !nms.contains p.1).map fun p => (p.1, frzB s.mem nms p.2) }

/-- All names of the memory. -/
def allNames (s : St) : List Nat := s.mem.map (·.1)

end Go.Eng
