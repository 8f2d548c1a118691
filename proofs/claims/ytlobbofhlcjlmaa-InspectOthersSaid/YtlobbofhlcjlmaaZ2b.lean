/- The engine, part 2b: entries, up to what they say; names told anew. -/
import Derived.Test.YtlobbofhlcjlmaaZ2
set_option linter.unusedSimpArgs false
set_option linter.unusedVariables false
namespace Go.Eng
open Go.RowKit

/-! ### Entries, up to what they say -/

def SameE (e e' : Ent) : Prop := e.isNil = e'.isNil ∧ (e.isNil = false → e.b = e'.b ∧ e.cap = e'.cap)

theorem SameE.handle {e e' : Ent} (h : SameE e e') (n : Nat) : e.handle n = e'.handle n := by
  unfold Ent.handle
  rw [← h.1]
  cases hn : e.isNil with
  | true => rfl
  | false => obtain ⟨g1, g2⟩ := h.2 hn; simp [g1, g2]

theorem sameE_of {e e' : Ent} {n : Nat} (h : e.handle n = e'.handle n) : SameE e e' := by
  unfold Ent.handle at h
  cases hn : e.isNil <;> cases hn' : e'.isNil <;> simp [hn, hn'] at h
  · exact ⟨hn.trans hn'.symm, fun _ => h⟩
  · exact ⟨hn.trans hn'.symm, fun e => by rw [hn] at e; cases e⟩

mutual
/-- Nothing in it is an own row, or points into one. -/
def AV.simple : AV → Bool
  | .agg cs => AV.simpleL cs
  | .tup cs => AV.simpleL cs
  | .fn _ cs => AV.simpleL cs
  | .ifc _ a => a.simple
  | .grd _ a => a.simple
  | .ipv a => a.simple
  | .ips cs => AV.simpleL cs
  | .sel _ cs => AV.simpleL cs
  | .row _ _ _ _ => false
  | .rptr _ _ _ _ _ => false
  | _ => true
def AV.simpleL : List AV → Bool
  | [] => true
  | a :: as => a.simple && AV.simpleL as
end
def Blk.simple : Blk → Bool
  | .var cs => AV.simpleL cs
  | .buf _ _ _ ov => AV.simpleL (ov.map (·.2))
  | .mat _ _ _ _ _ => false

mutual
theorem AV.rel_ent {P : Program} {w : World} {D : Nat → Prop} {m : Nat → Option Blk} {E E' : Nat → Ent} {s : Bool} (L : ∀ nm b, m nm = some b → SameE (E nm) (E' nm) ∧ (s = true → (E nm).rb = (E' nm).rb)) : ∀ {a : AV} {v : Value}, (s = false → a.simple = true) → a.rel P ⟨w, D, m, E⟩ v → a.rel P ⟨w, D, m, E'⟩ v
  | .top, _, _, _ => trivial
  | .dat _ _, _, _, h => h
  | .agg cs, _, hs, h => by obtain ⟨us, h1, h2⟩ := h; exact ⟨us, h1, AV.relL_ent L (by simpa [AV.simple] using hs) h2⟩
  | .tup cs, _, hs, h => by obtain ⟨us, h1, h2⟩ := h; exact ⟨us, h1, AV.relL_ent L (by simpa [AV.simple] using hs) h2⟩
  | .val _, _, _, h => h
  | .buf nm n, v, _, h => fun b hb => by
    obtain ⟨g1, g2⟩ := h b hb
    exact ⟨g1, fun e => (g2 e).trans ((L nm b hb).1.handle n)⟩
  | .ptr nm g i c, v, _, h => fun b hb => by
    obtain ⟨g1, g2⟩ := h b hb
    refine ⟨g1, fun e => ?_⟩
    obtain ⟨q1, q2, q3⟩ := g2 e
    obtain ⟨r1, r2⟩ := (L nm b hb).1
    refine ⟨q1, r1.symm.trans q2, ?_⟩
    show v = .pointer (some ⟨(E' nm).b, _, none⟩)
    rw [← (r2 q2).1]; exact q3
  | .ip t x, _, _, h => h
  | .fn f caps, _, hs, h => by obtain ⟨us, h1, h2⟩ := h; exact ⟨us, h1, AV.relL_ent L (by simpa [AV.simple] using hs) h2⟩
  | .clo1 a r pre g, _, _, h => h
  | .clo2 a b r pre g, _, _, h => h
  | .ifc t a, _, hs, h => by obtain ⟨u, h1, h2⟩ := h; exact ⟨u, h1, AV.rel_ent L (by simpa [AV.simple] using hs) h2⟩
  | .grd g a, _, hs, h => ⟨fun hg => AV.rel_ent L (by simpa [AV.simple] using hs) (h.1 hg), h.2⟩
  | .ipv a, _, hs, h => by
    obtain ⟨b, off, u, h1, h2, h3, h5⟩ := h
    exact ⟨b, off, u, h1, h2, h3, AV.rel_ent L (by simpa [AV.simple] using hs) h5⟩
  | .ips cs, _, hs, h => by
    obtain ⟨b, off, us, h1, h2, h3, h5⟩ := h
    exact ⟨b, off, us, h1, h2, h3, AV.relL_ent L (by simpa [AV.simple] using hs) h5⟩
  | .ia t xs, _, _, h => h
  | .yld _, _, _, h => h
  | .view nm n, v, _, h => fun b hb => by
    obtain ⟨g1, g2⟩ := h b hb
    refine ⟨g1, fun e => ?_⟩
    obtain ⟨q1, c, q2, q3⟩ := g2 e
    obtain ⟨r1, r2⟩ := (L nm b hb).1
    refine ⟨r1.symm.trans q1, c, q2, ?_⟩
    show v = .slice (some ⟨(E' nm).b, 0, none⟩) n c
    rw [← (r2 q1).1]; exact q3
  | .av _ _, _, _, h => h
  | .sel i cs, _, hs, h => by
    obtain ⟨us, h1, h2⟩ := h
    exact ⟨us, AV.relL_ent L (by simpa [AV.simple] using hs) h1, h2⟩
  | .row nm g i k, v, hs, h => fun b hb => by
    cases s with
    | false => exact absurd (hs rfl) (by simp [AV.simple])
    | true =>
      obtain ⟨g1, g2⟩ := h b hb
      refine ⟨g1, fun e => ?_⟩
      have := (L nm b hb).2 rfl
      show ∃ ao cap, v = .slice ao k cap ∧ (0 < k → ao = some ⟨((E' nm).rb i).1, 0, none⟩)
      rw [← this]; exact g2 e
  | .rptr nm g i k j, v, hs, h => fun b hb => by
    cases s with
    | false => exact absurd (hs rfl) (by simp [AV.simple])
    | true =>
      obtain ⟨g1, g2⟩ := h b hb
      refine ⟨g1, fun e => ?_⟩
      have := (L nm b hb).2 rfl
      show j < k ∧ v = .pointer (some ⟨((E' nm).rb i).1, j, none⟩)
      rw [← this]; exact g2 e
theorem AV.relL_ent {P : Program} {w : World} {D : Nat → Prop} {m : Nat → Option Blk} {E E' : Nat → Ent} {s : Bool} (L : ∀ nm b, m nm = some b → SameE (E nm) (E' nm) ∧ (s = true → (E nm).rb = (E' nm).rb)) : ∀ {as : List AV} {us : List Value}, (s = false → AV.simpleL as = true) → AV.relL P ⟨w, D, m, E⟩ as us → AV.relL P ⟨w, D, m, E'⟩ as us
  | [], _, _, h => h
  | a :: as, _, hs, h => by
    obtain ⟨u, us', h1, h2, h3⟩ := h
    exact ⟨u, us', h1, AV.rel_ent L (fun g => (by have := hs g; simp [AV.simpleL] at this; exact this.1)) h2, AV.relL_ent L (fun g => (by have := hs g; simp [AV.simpleL] at this; exact this.2)) h3⟩
end

theorem ov_simple {ov : List (Nat × AV)} (h : AV.simpleL (ov.map (·.2)) = true) {i : Nat} {a : AV} (ho : ov.lookup i = some a) : a.simple = true := by
  induction ov with
  | nil => cases ho
  | cons p ov ih =>
    simp only [List.map_cons, AV.simpleL, Bool.and_eq_true] at h
    obtain ⟨k, v⟩ := p
    simp only [List.lookup] at ho
    split at ho
    · cases ho; exact h.1
    · exact ih h.2 ho

theorem BlkRel.ent {P : Program} {base : Nat} {w : World} {D : Nat → Prop} {m : Nat → Option Blk} {E E' : Nat → Ent} {s : Bool} (L : ∀ nm b, m nm = some b → SameE (E nm) (E' nm) ∧ (s = true → (E nm).rb = (E' nm).rb)) {e e' : Ent} (he : SameE e e' ∧ (s = true → e.rb = e'.rb)) {b : Blk}
    (hs : s = false → b.simple = true) (h : BlkRel P base ⟨w, D, m, E⟩ e b) : BlkRel P base ⟨w, D, m, E'⟩ e' b := by
  cases b with
  | var cs =>
    obtain ⟨h0, us, el, h1, h2⟩ := h
    exact ⟨he.1.1.symm.trans h0, us, el, by rw [← (he.1.2 h0).1]; exact h1, AV.relL_ent L (by simpa [Blk.simple] using hs) h2⟩
  | buf el t xs ov =>
    obtain ⟨raw, h1, h2⟩ := h
    refine ⟨raw, by rw [← he.1.handle]; exact h1, fun i y hy => ?_⟩
    have g := h2 i y hy
    cases ho : ov.lookup i with
    | none => rw [ho] at g; exact g
    | some a =>
      rw [ho] at g
      obtain ⟨g1, u, g2, g4, g3⟩ := g
      exact ⟨g1, u, g2, g4, AV.rel_ent L (fun q => ov_simple (by simpa [Blk.simple] using hs q) ho) g3⟩
  | mat el eli t xss ov =>
    cases s with
    | false => exact absurd (hs rfl) (by simp [Blk.simple])
    | true =>
      obtain ⟨h0, raw, h1, h2⟩ := h
      refine ⟨h0, raw, by rw [← he.1.handle]; exact h1, fun i row hi => ?_⟩
      obtain ⟨u, g1, g2⟩ := h2 i row hi
      refine ⟨u, g1, ?_⟩
      cases ho : ov.lookup i with
      | some a =>
        rw [ho] at g2
        exact ⟨g2.1, AV.rel_ent L (fun q => by cases q) g2.2⟩
      | none =>
        rw [ho] at g2
        obtain ⟨ao, cap, r2, q1, q0, q2⟩ := g2
        exact ⟨ao, cap, r2, q1, q0, fun hp => by rw [← he.2 rfl]; exact q2 hp⟩

/-! ### Names let go -/

mutual
/-- What it says without its names. -/
def forgA : AV → AV
  | .buf _ _ => .top
  | .view _ _ => .top
  | .ptr _ _ _ _ => .top
  | .row _ _ _ _ => .top
  | .rptr _ _ _ _ _ => .top
  | .agg cs => .agg (forgL cs)
  | .tup cs => .tup (forgL cs)
  | .fn f cs => .fn f (forgL cs)
  | .ipv a => .ipv (forgA a)
  | .ips cs => .ips (forgL cs)
  | .ifc t a => .ifc t (forgA a)
  | .grd g a => .grd g (forgA a)
  | .sel i cs => .sel i (forgL cs)
  | a => a
def forgL : List AV → List AV
  | [] => []
  | a :: as => forgA a :: forgL as
end

mutual
theorem AV.rel_forg {P : Program} {C : Ctx} : ∀ {a : AV} {v : Value}, a.rel P C v → (forgA a).rel P C v
  | .top, _, h => h
  | .dat _ _, _, h => h
  | .agg cs, _, h => by obtain ⟨us, h1, h2⟩ := h; exact ⟨us, h1, AV.relL_forg h2⟩
  | .tup cs, _, h => by obtain ⟨us, h1, h2⟩ := h; exact ⟨us, h1, AV.relL_forg h2⟩
  | .val _, _, h => h
  | .buf _ _, _, _ => trivial
  | .view _ _, _, _ => trivial
  | .ptr _ _ _ _, _, _ => trivial
  | .row _ _ _ _, _, _ => trivial
  | .rptr _ _ _ _ _, _, _ => trivial
  | .ip _ _, _, h => h
  | .fn f caps, _, h => by obtain ⟨us, h1, h2⟩ := h; exact ⟨us, h1, AV.relL_forg h2⟩
  | .clo1 _ _ _ _, _, h => h
  | .clo2 _ _ _ _ _, _, h => h
  | .ifc t a, _, h => by obtain ⟨u, h1, h2⟩ := h; exact ⟨u, h1, AV.rel_forg h2⟩
  | .grd g a, _, h => ⟨fun hg => AV.rel_forg (h.1 hg), h.2⟩
  | .ipv a, _, h => by obtain ⟨b, off, u, h1, h2, h3, h5⟩ := h; exact ⟨b, off, u, h1, h2, h3, AV.rel_forg h5⟩
  | .ips cs, _, h => by obtain ⟨b, off, us, h1, h2, h3, h5⟩ := h; exact ⟨b, off, us, h1, h2, h3, AV.relL_forg h5⟩
  | .ia _ _, _, h => h
  | .yld _, _, h => h
  | .av _ _, _, h => h
  | .sel i cs, _, h => by obtain ⟨us, h1, h2⟩ := h; exact ⟨us, AV.relL_forg h1, h2⟩
theorem AV.relL_forg {P : Program} {C : Ctx} : ∀ {as : List AV} {us : List Value}, AV.relL P C as us → AV.relL P C (forgL as) us
  | [], _, h => h
  | a :: as, _, h => by
    obtain ⟨u, us', h1, h2, h3⟩ := h
    exact ⟨u, us', h1, AV.rel_forg h2, AV.relL_forg h3⟩
end

mutual
theorem forgA_names : ∀ (a : AV), (forgA a).names = []
  | .top | .dat _ _ | .val _ | .buf _ _ | .view _ _ | .ptr _ _ _ _ | .row _ _ _ _ | .rptr _ _ _ _ _ | .ip _ _ | .clo1 _ _ _ _ | .clo2 _ _ _ _ _ | .ia _ _ | .yld _ | .av _ _ => rfl
  | .agg cs => by simp only [forgA, AV.names, forgL_names]
  | .tup cs => by simp only [forgA, AV.names, forgL_names]
  | .fn _ cs => by simp only [forgA, AV.names, forgL_names]
  | .ifc _ a => by simp only [forgA, AV.names, forgA_names]
  | .grd _ a => by simp only [forgA, AV.names, forgA_names]
  | .ipv a => by simp only [forgA, AV.names, forgA_names]
  | .ips cs => by simp only [forgA, AV.names, forgL_names]
  | .sel _ cs => by simp only [forgA, AV.names, forgL_names]
theorem forgL_names : ∀ (as : List AV), AV.namesL (forgL as) = []
  | [] => rfl
  | a :: as => by simp only [forgL, AV.namesL, forgA_names, forgL_names, List.append_nil]
end

/-! ### One name told anew -/

mutual
def renA (nx : Nat) : AV → AV
  | .buf _ n => .buf nx n
  | .view _ n => .view nx n
  | .ptr _ g i c => .ptr nx g i c
  | .agg cs => .agg (renL nx cs)
  | .tup cs => .tup (renL nx cs)
  | .fn f cs => .fn f (renL nx cs)
  | .ifc t a => .ifc t (renA nx a)
  | .grd g a => .grd g (renA nx a)
  | .ipv a => .ipv (renA nx a)
  | .ips cs => .ips (renL nx cs)
  | .sel i cs => .sel i (renL nx cs)
  | .row _ g i k => .row nx g i k
  | .rptr _ g i k j => .rptr nx g i k j
  | a => a
def renL (nx : Nat) : List AV → List AV
  | [] => []
  | a :: as => renA nx a :: renL nx as
end

mutual
theorem AV.rel_ren {P : Program} {w : World} {D : Nat → Prop} {m m' : Nat → Option Blk} {E E' : Nat → Ent} {k nx : Nat} (hm : m' nx = m k) (hE : E' nx = E k) : ∀ {a : AV} {v : Value}, (∀ x ∈ a.names, x = k) → a.rel P ⟨w, D, m, E⟩ v → (renA nx a).rel P ⟨w, D, m', E'⟩ v
  | .top, _, _, _ => trivial
  | .dat _ _, _, _, h => h
  | .agg cs, _, hn, h => by obtain ⟨us, h1, h2⟩ := h; exact ⟨us, h1, AV.relL_ren hm hE (by simpa [AV.names] using hn) h2⟩
  | .tup cs, _, hn, h => by obtain ⟨us, h1, h2⟩ := h; exact ⟨us, h1, AV.relL_ren hm hE (by simpa [AV.names] using hn) h2⟩
  | .val _, _, _, h => h
  | .buf nm n, v, hn, h => fun b hb => by
    have e := hn nm (by simp [AV.names])
    subst e
    have hb' : m nm = some b := hm.symm.trans hb
    obtain ⟨g1, g2⟩ := h b hb'
    refine ⟨g1, fun e => ?_⟩
    show v = (E' nx).handle n
    rw [hE]; exact g2 e
  | .view nm n, v, hn, h => fun b hb => by
    have e := hn nm (by simp [AV.names])
    subst e
    have hb' : m nm = some b := hm.symm.trans hb
    obtain ⟨g1, g2⟩ := h b hb'
    refine ⟨g1, fun e => ?_⟩
    show (E' nx).isNil = false ∧ ∃ c, n ≤ c ∧ v = .slice (some ⟨(E' nx).b, 0, none⟩) n c
    rw [hE]; exact g2 e
  | .ptr nm g i c, v, hn, h => fun b hb => by
    have e := hn nm (by simp [AV.names])
    subst e
    have hb' : m nm = some b := hm.symm.trans hb
    obtain ⟨g1, g2⟩ := h b hb'
    refine ⟨g1, fun e => ?_⟩
    show i < g ∧ (E' nx).isNil = false ∧ v = .pointer (some ⟨(E' nx).b, i * b.es + c, none⟩)
    rw [hE]; exact g2 e
  | .ip t x, _, _, h => h
  | .fn f caps, _, hn, h => by obtain ⟨us, h1, h2⟩ := h; exact ⟨us, h1, AV.relL_ren hm hE (by simpa [AV.names] using hn) h2⟩
  | .clo1 a r pre g, _, _, h => h
  | .clo2 a b r pre g, _, _, h => h
  | .ifc t a, _, hn, h => by obtain ⟨u, h1, h2⟩ := h; exact ⟨u, h1, AV.rel_ren hm hE (by simpa [AV.names] using hn) h2⟩
  | .grd g a, _, hn, h => ⟨fun hg => AV.rel_ren hm hE (by simpa [AV.names] using hn) (h.1 hg), h.2⟩
  | .ipv a, _, hn, h => by
    obtain ⟨b, off, u, h1, h2, h3, h5⟩ := h
    exact ⟨b, off, u, h1, h2, h3, AV.rel_ren hm hE (by simpa [AV.names] using hn) h5⟩
  | .ips cs, _, hn, h => by
    obtain ⟨b, off, us, h1, h2, h3, h5⟩ := h
    exact ⟨b, off, us, h1, h2, h3, AV.relL_ren hm hE (by simpa [AV.names] using hn) h5⟩
  | .ia t xs, _, _, h => h
  | .yld _, _, _, h => h
  | .av _ _, _, _, h => h
  | .sel i cs, _, hn, h => by
    obtain ⟨us, h1, h2⟩ := h
    exact ⟨us, AV.relL_ren hm hE (by simpa [AV.names] using hn) h1, h2⟩
  | .row nm g i kk, v, hn, h => fun b hb => by
    have e := hn nm (by simp [AV.names])
    subst e
    have := h b (hm.symm.trans hb)
    refine ⟨this.1, fun e => ?_⟩
    show ∃ ao cap, v = .slice ao kk cap ∧ (0 < kk → ao = some ⟨((E' nx).rb i).1, 0, none⟩)
    rw [hE]; exact this.2 e
  | .rptr nm g i kk j, v, hn, h => fun b hb => by
    have e := hn nm (by simp [AV.names])
    subst e
    have := h b (hm.symm.trans hb)
    refine ⟨this.1, fun e => ?_⟩
    show j < kk ∧ v = .pointer (some ⟨((E' nx).rb i).1, j, none⟩)
    rw [hE]; exact this.2 e
theorem AV.relL_ren {P : Program} {w : World} {D : Nat → Prop} {m m' : Nat → Option Blk} {E E' : Nat → Ent} {k nx : Nat} (hm : m' nx = m k) (hE : E' nx = E k) : ∀ {as : List AV} {us : List Value}, (∀ x ∈ AV.namesL as, x = k) → AV.relL P ⟨w, D, m, E⟩ as us → AV.relL P ⟨w, D, m', E'⟩ (renL nx as) us
  | [], _, _, h => h
  | a :: as, _, hn, h => by
    obtain ⟨u, us', h1, h2, h3⟩ := h
    simp only [AV.namesL, List.mem_append] at hn
    exact ⟨u, us', h1, AV.rel_ren hm hE (fun x hx => hn x (.inl hx)) h2, AV.relL_ren hm hE (fun x hx => hn x (.inr hx)) h3⟩
end

end Go.Eng
