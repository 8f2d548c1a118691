/- The engine, part 18: functions as values; contracts at values that say more. -/
import Derived.Test.YthdihjmpibfmgaaEng17
namespace Go.Eng
open Go.RowKit

theorem nameless_noM {P : Program} {w w' : World} {D D' : Nat → Prop} {as : List AV} {us : List Value} (hn : AV.namesL as = []) (hD : ∀ b, D b → D' b) (hw : ∀ b, D b → w'.heap[b]? = w.heap[b]?)
    {m : Nat → Option Blk} {E : Nat → Ent} (h : AV.relL P ⟨w, D, m, E⟩ as us) : AV.relL P ⟨w', D', noM, noE⟩ as us :=
  AV.relL_mono (C := ⟨w, D, m, E⟩) (C' := ⟨w', D', noM, noE⟩) ⟨hD, hw⟩ (fun nm hm => by rw [hn] at hm; cases hm) h

/-- A function with a contract, as a value that answers as a function of two. -/
theorem clo2_of_fn {P : Program} {f : FuncId} {caps : List AV} {a b r : Ty} {pre : a.den → b.den → Prop} {g : a.den → b.den → r.den} (hg : goes P f = true) (hn : AV.namesL caps = [])
    (h : ∀ x y, SoundC P f (.dat a x :: .dat b y :: caps) ⟨pre x y, .dat r (g x y)⟩) {C : Ctx} {v : Value} (hv : (AV.fn f caps).rel P C v) : (AV.clo2 a b r pre g).rel P C v := by
  obtain ⟨us, rfl, hc⟩ := hv
  refine ⟨f, us.toArray, rfl, hg, fun w' D' g1 g2 g3 x y u v hp hx hy => ?_⟩
  have hall : AV.relL P ⟨w', D', noM, noE⟩ (.dat a x :: .dat b y :: caps) (u :: v :: us) := ⟨u, _, rfl, hx, v, _, rfl, hy, nameless_noM hn g1 g3 hc⟩
  have := h x y hp w' D' (u :: v :: us) g2 hall
  have e : (#[u, v] ++ us.toArray) = (u :: v :: us).toArray := by simp
  rw [e]
  exact this.mono fun e w'' ⟨v', q1, q2, q3⟩ => ⟨v', q1, q2, q3⟩

theorem clo1_of_fn {P : Program} {f : FuncId} {caps : List AV} {a r : Ty} {pre : a.den → Prop} {g : a.den → r.den} (hg : goes P f = true) (hn : AV.namesL caps = [])
    (h : ∀ x, SoundC P f (.dat a x :: caps) ⟨pre x, .dat r (g x)⟩) {C : Ctx} {v : Value} (hv : (AV.fn f caps).rel P C v) : (AV.clo1 a r pre g).rel P C v := by
  obtain ⟨us, rfl, hc⟩ := hv
  refine ⟨f, us.toArray, rfl, hg, fun w' D' g1 g2 g3 x u hp hx => ?_⟩
  have hall : AV.relL P ⟨w', D', noM, noE⟩ (.dat a x :: caps) (u :: us) := ⟨u, _, rfl, hx, nameless_noM hn g1 g3 hc⟩
  have := h x hp w' D' (u :: us) g2 hall
  have e : (#[u] ++ us.toArray) = (u :: us).toArray := by simp
  rw [e]
  exact this.mono fun e w'' ⟨v', q1, q2, q3⟩ => ⟨v', q1, q2, q3⟩

/-- A contract at arguments that say less is one at arguments that say more. -/
theorem SoundC.args {P : Program} {f : FuncId} {as bs : List AV} {c : CRes} (h : SoundC P f bs c) (hab : ∀ (C : Ctx) us, AV.relL P C as us → AV.relL P C bs us) : SoundC P f as c :=
  fun hp w D us hD hu => h hp w D us hD (hab _ us hu)

/-- A contract under a premise. -/
theorem SoundC.of_pre {P : Program} {f : FuncId} {as : List AV} {c : CRes} (h : c.pre → SoundC P f as c) : SoundC P f as c := fun hp => h hp hp

theorem SoundC.weaken {P : Program} {f : FuncId} {as : List AV} {p q : Prop} {r : AV} (h : SoundC P f as ⟨q, r⟩) (hpq : p → q) : SoundC P f as ⟨p, r⟩ := fun hp => h (hpq hp)

theorem SoundC.eqv {P : Program} {f : FuncId} {as : List AV} {p : Prop} {t : Ty} {x y : t.den} (h : SoundC P f as ⟨p, .dat t x⟩) (e : p → x = y) : SoundC P f as ⟨p, .dat t y⟩ := fun hp => e hp ▸ h hp

def frzA (m : Mem) (nms : List Nat) : AV → AV
  | .ptr nm g i c => if nms.contains nm then match m.lookup nm with
    | some (.var [.dat t x]) => .ip t x
    | _ => .top
    else .ptr nm g i c
  | .buf nm n => if nms.contains nm then match m.lookup nm with
    | some (.buf _ t xs []) => .dat (.sl t) xs
    | some (.buf _ (.sl e) xs [(i, .buf nm2 _)]) => match m.lookup nm2 with
      | some (.buf _ e' zs []) => if h : e' = e then .dat (.sl (.sl e)) (D.set (α := List e.den) xs i (h ▸ zs)) else .top
      | _ => .top
    | _ => .top
    else .buf nm n
  | a => if a.names.any nms.contains then .top else a

/-- The state with some names let go: what they name is data. -/
def frz (nms : List Nat) (s : St) : St := { s with tm := s.tm.map (frzA s.mem nms), mem := s.mem.filter fun p => !nms.contains p.1 }

/-- All names of the memory. -/
def allNames (s : St) : List Nat := s.mem.map (·.1)

end Go.Eng
