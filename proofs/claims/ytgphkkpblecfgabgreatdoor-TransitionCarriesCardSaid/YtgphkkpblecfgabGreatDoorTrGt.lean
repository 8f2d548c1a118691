/- PeTrGt -/
import Derived.Test.YtgphkkpblecfgabGreatDoorY22
import Derived.Test.YtgphkkpblecfgabGreatDoorTr7t
import Derived.WalkKit
import Derived.Lib.Walk
import Derived.Lib.SliceRun
import Derived.Lib.AppendZeros
set_option linter.unusedSimpArgs false
set_option linter.unusedVariables false
set_option maxRecDepth 100000
namespace Go.Eng.Sv
open Go.Proofs Go.RowKit Go.Lib
theorem grow_calls (k : Nat) (w : World) (hk : k ≤ 1000000) : Calls Tryz.prog 63 #[.slice none 0 0, .int .i64 k] w fun e w' =>
    (e = .returned (.slice none 0 0) ∧ w' = w) ∨ ∃ cs cap, e = .returned (.slice (some ⟨w.heap.size, 0, none⟩) 0 cap) ∧ w' = w.drew.alloc (.cells cs 47) ∧ cs.size = cap * 4 ∧ cap ≤ maxLen := by
  have mixed : Tryz.prog.follows .mixedOrders = true := by kernel_rfl
  have h1 : ¬ ((k : Int) < 0) := by omega
  have h3 : wrap64 ((k : Int) - 0) = (k : Int) := by unfold wrap64; omega
  have h2 : wrap64 (0 - 0) = 0 := by unfold wrap64; omega
  by_cases hk0 : k = 0
  · subst hk0
    go_enter Tryz.func63, Tryz.ntmps63
    go_wp2
    go_ret
    exact .inl ⟨rfl, rfl⟩
  · have h4 : (k : Int) > 0 := by omega
    have hI : (Tryz.prog.info? 47).isSome = true := by kernel_rfl
    obtain ⟨i, hi⟩ := Option.isSome_iff_exists.1 hI
    have hs : i.size = 4 := by
      have h : (Tryz.prog.info? 47).map (·.size) = some 4 := by kernel_rfl
      rw [hi] at h; exact Option.some.inj h
    have hb : i.bytes = 32 := by
      have h : (Tryz.prog.info? 47).map (·.bytes) = some 32 := by kernel_rfl
      rw [hi] at h; exact Option.some.inj h
    have hZ : i.zero.isSome = true := by
      have h : (Tryz.prog.info? 47).map (fun i => i.zero.isSome) = some true := by kernel_rfl
      rw [hi] at h; exact Option.some.inj h
    obtain ⟨z, hz⟩ := Option.isSome_iff_exists.1 hZ
    have hc : z.cells.size = 4 := by
      have h : (Tryz.prog.info? 47).map (fun i => i.zero.map (fun z => z.cells.size)) = some (some 4) := by kernel_rfl
      rw [hi] at h; have h : i.zero.map (fun z => z.cells.size) = some 4 := Option.some.inj h
      rw [hz] at h; exact Option.some.inj h
    have hrz : ∀ ty, _ := fun ty => run_append_nil_zeros w 43 3 ty 47 i z .i64 .i64 (P := Tryz.prog) (by kernel_rfl) (by kernel_rfl) hi hz k (by omega) (by omega) (by omega) (by rw [hb]; omega)
    have hG1 : k ≤ grownCap w k 0 47 := grownCap_ge w _ _ _
    have hG2 := grownCap_le_maxLen w k 0 47 (by unfold maxLen; omega)
    obtain ⟨G, hG⟩ : ∃ G, G = grownCap w k 0 47 := ⟨_, rfl⟩
    rw [← hG] at hrz hG1 hG2
    have hsz : ∀ z' : Array Value, z'.size = 4 → (Builtin.zeroCells z' k ++ Builtin.zeroCells z' (G - k)).size = G * 4 := fun z' h => by
      rw [Array.size_append, size_zeroCells, size_zeroCells, h, ← Nat.add_mul]; congr 1; omega
    clear hG
    go_enter Tryz.func63, Tryz.ntmps63
    go_wp2_with (at_builtin; refine Lib.wpList_append_run _ rfl _ _ _ _ rfl _ _ rfl rfl _ _ (hrz _) ?_)
    all_goals (go_ret; first | exact .inr ⟨_, _, rfl, rfl, hsz _ hc, hG2⟩ | exact .inr ⟨_, _, rfl, rfl, hsz _ (by unfold Value.cells at hc; split at hc <;> simp_all), hG2⟩)
theorem t_grow (k : Int) (hk : 0 ≤ k ∧ k ≤ 1000000) : SoundC Tryz.prog G0 63 [.val (.slice none 0 0), .dat I k] [] ⟨True, .buf 0 0, [(0, .buf 47 Stp (D.nil Stop) [])]⟩ := by
  intro _ w DD E us hD hG hargs hH
  obtain ⟨u1, us, rfl, h1, u2, us, rfl, h2, rfl⟩ := hargs
  have h1 : u1 = .slice none 0 0 := h1
  have h2 : [u2] = [Value.int .i64 k] := h2
  cases h2
  subst h1
  have hc := grow_calls k.toNat w (by omega)
  rw [Int.toNat_of_nonneg hk.1] at hc
  refine hc.mono fun e w' he => ?_
  have pvn : ∀ (E' : Nat → Ent) nm i b, PrivAt (upM (memF []) [(0, .buf 47 Stp (D.nil Stop) [])]) E' nm i b → False := fun E' nm i b g => by
    obtain ⟨el, eli, t, xss, ov, row, g1, _⟩ := g
    unfold upM memF at g1
    simp only [List.lookup] at g1
    split at g1
    · rename_i hx; split at hx
      · cases hx; cases g1
      · cases hx
    · cases g1
  have up : ∀ nm b, upM (memF []) [(0, .buf 47 Stp (D.nil Stop) [])] nm = some b → nm = 0 ∧ b = .buf 47 Stp (D.nil Stop) [] := fun nm b g => by
    unfold upM memF at g
    simp only [List.lookup] at g
    split at g
    · rename_i hx; split at hx
      · rename_i hn; cases hx; cases g; exact ⟨by simpa using hn, rfl⟩
      · cases hx
    · cases g
  rcases he with ⟨rfl, rfl⟩ | ⟨cs, cap, rfl, rfl, hs, hm⟩
  · refine ⟨_, DD, fun _ => ⟨0, 0, true, noR⟩, rfl, ⟨Chg.refl _ _, fun _ h => h, fun _ h => .inl h, hD, ⟨fun nm b g => ?_, fun nm b g hi => (by cases hi), fun _ _ _ _ _ _ hi => (by cases hi), PrivOk.nil (pvn _)⟩, fun nm b g => (by cases g), fun nm b _ g hi => (by cases hi), fun nm i b g => (pvn _ nm i b g).elim⟩, ?_⟩
    · obtain ⟨rfl, rfl⟩ := up nm b g
      exact ⟨[], ⟨rfl, .inl ⟨rfl, rfl⟩⟩, fun i y hy => by simp at hy⟩
    · intro b hb
      obtain ⟨_, rfl⟩ := up 0 b hb
      exact ⟨Nat.le_refl _, fun _ => rfl⟩
  · have hb : Go.RowKit.Below w.heap.size w (w.drew.alloc (.cells cs 47)) := (Go.RowKit.Below.refl _ _).drew.alloc (Nat.le_refl _) _
    refine ⟨_, DD, fun _ => ⟨w.heap.size, cap, false, noR⟩, rfl, ⟨(Chg.refl _ _).below hb, fun _ h => h, fun _ h => .inl h, fun b h => Nat.lt_of_lt_of_le (hD b h) hb.size, ⟨fun nm b g => ?_, fun nm b g hi => ?_, fun nm nm' b b' g g' _ _ _ => ?_, PrivOk.nil (pvn _)⟩, fun nm b g => (by cases g), fun nm b _ g hi => Nat.le_refl _, fun nm i b g => (pvn _ nm i b g).elim⟩, ?_⟩
    · obtain ⟨rfl, rfl⟩ := up nm b g
      refine ⟨[], ⟨rfl, .inr ⟨w.heap.size, cap, cs, rfl, Nat.zero_le _, ?_, Nat.zero_le _, hm, hs, by simp⟩⟩, fun i y hy => by simp at hy⟩
      show (w.heap.push _)[w.heap.size]? = _
      rw [Array.getElem?_push_size]
    · obtain ⟨rfl, rfl⟩ := up nm b g
      refine ⟨?_, fun h => absurd (hD _ h) (Nat.lt_irrefl _)⟩
      show w.heap.size < (w.heap.push _).size
      rw [Array.size_push]; exact Nat.lt_succ_self _
    · obtain ⟨rfl, _⟩ := up nm b g
      obtain ⟨rfl, _⟩ := up nm' b' g'
      rfl
    · intro b hb
      obtain ⟨_, rfl⟩ := up 0 b hb
      exact ⟨Nat.le_refl _, fun _ => rfl⟩
end Go.Eng.Sv
