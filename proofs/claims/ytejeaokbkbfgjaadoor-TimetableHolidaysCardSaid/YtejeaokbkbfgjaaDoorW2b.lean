/- The engine, part 2b: entries, up to what they say; names told anew. -/
import Derived.Test.YtejeaokbkbfgjaaDoorW2
set_option linter.unusedSimpArgs false
set_option linter.unusedVariables false
namespace Go.Eng
open Go.RowKit

/-! ### Entries, up to what they say -/

def SameE (e e' : Ent) : Prop := e.isNil = e'.isNil ∧ (e.isNil = false → e.b = e'.b ∧ e.cap = e'.cap)

theorem SameE.handle {e e' : Ent} (h : SameE e e') (n : Nat) : e.handle n = e'.handle n := by
  unfold Ent.handle
  rw [← h.1]
  cases hn : e.isNil with
  | true => rfl
  | false => obtain ⟨g1, g2⟩ := h.2 hn; simp [g1, g2]

theorem sameE_of {e e' : Ent} {n : Nat} (h : e.handle n = e'.handle n) : SameE e e' := by
  unfold Ent.handle at h
  cases hn : e.isNil <;> cases hn' : e'.isNil <;> simp [hn, hn'] at h
  · exact ⟨hn.trans hn'.symm, fun _ => h⟩
  · exact ⟨hn.trans hn'.symm, fun e => by rw [hn] at e; cases e⟩

mutual
theorem AV.rel_ent {P : Program} {w : World} {D : Nat → Prop} {m : Nat → Option Blk} {E E' : Nat → Ent} (L : ∀ nm b, m nm = some b → SameE (E nm) (E' nm)) : ∀ {a : AV} {v : Value}, a.rel P ⟨w, D, m, E⟩ v → a.rel P ⟨w, D, m, E'⟩ v
  | .top, _, _ => trivial
  | .dat _ _, _, h => h
  | .agg cs, _, h => by obtain ⟨us, h1, h2⟩ := h; exact ⟨us, h1, AV.relL_ent L h2⟩
  | .tup cs, _, h => by obtain ⟨us, h1, h2⟩ := h; exact ⟨us, h1, AV.relL_ent L h2⟩
  | .val _, _, h => h
  | .buf nm n, v, h => fun b hb => by
    obtain ⟨g1, g2⟩ := h b hb
    exact ⟨g1, fun e => (g2 e).trans ((L nm b hb).handle n)⟩
  | .ptr nm g i c, v, h => fun b hb => by
    obtain ⟨g1, g2⟩ := h b hb
    refine ⟨g1, fun e => ?_⟩
    obtain ⟨q1, q2, q3⟩ := g2 e
    obtain ⟨r1, r2⟩ := L nm b hb
    refine ⟨q1, r1.symm.trans q2, ?_⟩
    show v = .pointer (some ⟨(E' nm).b, _, none⟩)
    rw [← (r2 q2).1]; exact q3
  | .ip t x, _, h => h
  | .fn f caps, _, h => by obtain ⟨us, h1, h2⟩ := h; exact ⟨us, h1, AV.relL_ent L h2⟩
  | .clo1 a r pre g, _, h => h
  | .clo2 a b r pre g, _, h => h
  | .ifc t a, _, h => by obtain ⟨u, h1, h2⟩ := h; exact ⟨u, h1, AV.rel_ent L h2⟩
  | .grd g a, _, h => ⟨fun hg => AV.rel_ent L (h.1 hg), h.2⟩
  | .ipv a, _, h => by
    obtain ⟨b, off, u, h1, h2, h3, h5⟩ := h
    exact ⟨b, off, u, h1, h2, h3, AV.rel_ent L h5⟩
  | .ia t xs, _, h => h
  | .yld _, _, h => h
  | .view nm n, v, h => fun b hb => by
    obtain ⟨g1, g2⟩ := h b hb
    refine ⟨g1, fun e => ?_⟩
    obtain ⟨q1, c, q2, q3⟩ := g2 e
    obtain ⟨r1, r2⟩ := L nm b hb
    refine ⟨r1.symm.trans q1, c, q2, ?_⟩
    show v = .slice (some ⟨(E' nm).b, 0, none⟩) n c
    rw [← (r2 q1).1]; exact q3
  | .av _ _, _, h => h
  | .sel i cs, _, h => by
    obtain ⟨us, h1, h2⟩ := h
    exact ⟨us, AV.relL_ent L h1, h2⟩
theorem AV.relL_ent {P : Program} {w : World} {D : Nat → Prop} {m : Nat → Option Blk} {E E' : Nat → Ent} (L : ∀ nm b, m nm = some b → SameE (E nm) (E' nm)) : ∀ {as : List AV} {us : List Value}, AV.relL P ⟨w, D, m, E⟩ as us → AV.relL P ⟨w, D, m, E'⟩ as us
  | [], _, h => h
  | a :: as, _, h => by
    obtain ⟨u, us', h1, h2, h3⟩ := h
    exact ⟨u, us', h1, AV.rel_ent L h2, AV.relL_ent L h3⟩
end

theorem BlkRel.ent {P : Program} {base : Nat} {w : World} {D : Nat → Prop} {m : Nat → Option Blk} {E E' : Nat → Ent} (L : ∀ nm b, m nm = some b → SameE (E nm) (E' nm)) {e e' : Ent} (he : SameE e e') {b : Blk}
    (h : BlkRel P base ⟨w, D, m, E⟩ e b) : BlkRel P base ⟨w, D, m, E'⟩ e' b := by
  cases b with
  | var cs =>
    obtain ⟨h0, us, el, h1, h2⟩ := h
    exact ⟨he.1.symm.trans h0, us, el, by rw [← (he.2 h0).1]; exact h1, AV.relL_ent L h2⟩
  | buf el t xs ov =>
    obtain ⟨raw, h1, h2⟩ := h
    refine ⟨raw, by rw [← he.handle]; exact h1, fun i y hy => ?_⟩
    have g := h2 i y hy
    cases ho : ov.lookup i with
    | none => rw [ho] at g; exact g
    | some a =>
      rw [ho] at g
      obtain ⟨g1, u, g2, g4, g3⟩ := g
      exact ⟨g1, u, g2, g4, AV.rel_ent L g3⟩

/-! ### One name told anew -/

mutual
def renA (nx : Nat) : AV → AV
  | .buf _ n => .buf nx n
  | .view _ n => .view nx n
  | .ptr _ g i c => .ptr nx g i c
  | .agg cs => .agg (renL nx cs)
  | .tup cs => .tup (renL nx cs)
  | .fn f cs => .fn f (renL nx cs)
  | .ifc t a => .ifc t (renA nx a)
  | .grd g a => .grd g (renA nx a)
  | .ipv a => .ipv (renA nx a)
  | .sel i cs => .sel i (renL nx cs)
  | a => a
def renL (nx : Nat) : List AV → List AV
  | [] => []
  | a :: as => renA nx a :: renL nx as
end

mutual
theorem AV.rel_ren {P : Program} {w : World} {D : Nat → Prop} {m m' : Nat → Option Blk} {E E' : Nat → Ent} {k nx : Nat} (hm : m' nx = m k) (hE : E' nx = E k) : ∀ {a : AV} {v : Value}, (∀ x ∈ a.names, x = k) → a.rel P ⟨w, D, m, E⟩ v → (renA nx a).rel P ⟨w, D, m', E'⟩ v
  | .top, _, _, _ => trivial
  | .dat _ _, _, _, h => h
  | .agg cs, _, hn, h => by obtain ⟨us, h1, h2⟩ := h; exact ⟨us, h1, AV.relL_ren hm hE (by simpa [AV.names] using hn) h2⟩
  | .tup cs, _, hn, h => by obtain ⟨us, h1, h2⟩ := h; exact ⟨us, h1, AV.relL_ren hm hE (by simpa [AV.names] using hn) h2⟩
  | .val _, _, _, h => h
  | .buf nm n, v, hn, h => fun b hb => by
    have e := hn nm (by simp [AV.names])
    subst e
    have hb' : m nm = some b := hm.symm.trans hb
    obtain ⟨g1, g2⟩ := h b hb'
    refine ⟨g1, fun e => ?_⟩
    show v = (E' nx).handle n
    rw [hE]; exact g2 e
  | .view nm n, v, hn, h => fun b hb => by
    have e := hn nm (by simp [AV.names])
    subst e
    have hb' : m nm = some b := hm.symm.trans hb
    obtain ⟨g1, g2⟩ := h b hb'
    refine ⟨g1, fun e => ?_⟩
    show (E' nx).isNil = false ∧ ∃ c, n ≤ c ∧ v = .slice (some ⟨(E' nx).b, 0, none⟩) n c
    rw [hE]; exact g2 e
  | .ptr nm g i c, v, hn, h => fun b hb => by
    have e := hn nm (by simp [AV.names])
    subst e
    have hb' : m nm = some b := hm.symm.trans hb
    obtain ⟨g1, g2⟩ := h b hb'
    refine ⟨g1, fun e => ?_⟩
    show i < g ∧ (E' nx).isNil = false ∧ v = .pointer (some ⟨(E' nx).b, i * b.es + c, none⟩)
    rw [hE]; exact g2 e
  | .ip t x, _, _, h => h
  | .fn f caps, _, hn, h => by obtain ⟨us, h1, h2⟩ := h; exact ⟨us, h1, AV.relL_ren hm hE (by simpa [AV.names] using hn) h2⟩
  | .clo1 a r pre g, _, _, h => h
  | .clo2 a b r pre g, _, _, h => h
  | .ifc t a, _, hn, h => by obtain ⟨u, h1, h2⟩ := h; exact ⟨u, h1, AV.rel_ren hm hE (by simpa [AV.names] using hn) h2⟩
  | .grd g a, _, hn, h => ⟨fun hg => AV.rel_ren hm hE (by simpa [AV.names] using hn) (h.1 hg), h.2⟩
  | .ipv a, _, hn, h => by
    obtain ⟨b, off, u, h1, h2, h3, h5⟩ := h
    exact ⟨b, off, u, h1, h2, h3, AV.rel_ren hm hE (by simpa [AV.names] using hn) h5⟩
  | .ia t xs, _, _, h => h
  | .yld _, _, _, h => h
  | .av _ _, _, _, h => h
  | .sel i cs, _, hn, h => by
    obtain ⟨us, h1, h2⟩ := h
    exact ⟨us, AV.relL_ren hm hE (by simpa [AV.names] using hn) h1, h2⟩
theorem AV.relL_ren {P : Program} {w : World} {D : Nat → Prop} {m m' : Nat → Option Blk} {E E' : Nat → Ent} {k nx : Nat} (hm : m' nx = m k) (hE : E' nx = E k) : ∀ {as : List AV} {us : List Value}, (∀ x ∈ AV.namesL as, x = k) → AV.relL P ⟨w, D, m, E⟩ as us → AV.relL P ⟨w, D, m', E'⟩ (renL nx as) us
  | [], _, _, h => h
  | a :: as, _, hn, h => by
    obtain ⟨u, us', h1, h2, h3⟩ := h
    simp only [AV.namesL, List.mem_append] at hn
    exact ⟨u, us', h1, AV.rel_ren hm hE (fun x hx => hn x (.inl hx)) h2, AV.relL_ren hm hE (fun x hx => hn x (.inr hx)) h3⟩
end

end Go.Eng
