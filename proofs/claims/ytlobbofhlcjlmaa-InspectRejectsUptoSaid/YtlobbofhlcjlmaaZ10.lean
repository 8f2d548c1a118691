/- The engine, part 10: whatever order the operations of a region come in. -/
import Derived.Test.YtlobbofhlcjlmaaZ9
set_option linter.unusedSimpArgs false
set_option linter.unusedVariables false
namespace Go.Eng

section
variable {σ : Type} (step : Nat → σ → σ)

/-- The operations that are done, in the text's order. -/
def runD (done : Nat → Bool) : Nat → σ → σ
  | 0, s => s
  | k + 1, s => if done k then step k (runD done k s) else runD done k s

def allD : Nat → Bool := fun _ => true

theorem runD_congr {d d' : Nat → Bool} : ∀ (k : Nat) (s : σ), (∀ i, i < k → d i = d' i) → runD step d k s = runD step d' k s
  | 0, _, _ => rfl
  | k + 1, s, h => by
    simp only [runD]
    rw [runD_congr k s (fun i hi => h i (by omega)), h k (by omega)]

variable {step}

structure Orders (step : Nat → σ → σ) (n : Nat) (anc : Nat → Nat → Bool) (Rok U : Nat → σ → Prop) (s0 : σ) : Prop where
  comm : ∀ i j, i < j → j < n → anc i j = false → ∀ s, step j (step i s) = step i (step j s)
  rk1 : ∀ i j, i < j → j < n → anc i j = false → ∀ s, Rok j (step i s) ↔ Rok j s
  rk2 : ∀ i j, i < j → j < n → anc i j = false → ∀ s, Rok i (step j s) ↔ Rok i s
  u : ∀ i j, i < n → j < n → i ≠ j → (i < j ∨ anc j i = false) → ∀ s, U j s → U j (step i s)
  lex : ∀ j, j < n → Rok j (runD step allD j s0)
  u0 : ∀ j, j < n → U j s0

variable {n : Nat} {anc : Nat → Nat → Bool} {Rok U : Nat → σ → Prop} {s0 : σ}

/-- What is left out may be done at the end. -/
theorem runD_out (H : Orders step n anc Rok U s0) {done : Nat → Bool} (hd : ∀ i j, i < j → j < n → anc i j = true → done j = true → done i = true) : ∀ k, k ≤ n →
    ∃ l : List Nat, (∀ i ∈ l, i < k ∧ done i = false) ∧ runD step allD k s0 = l.foldl (fun s i => step i s) (runD step done k s0)
  | 0, _ => ⟨[], by simp, rfl⟩
  | k + 1, hk => by
    obtain ⟨l, h1, h2⟩ := runD_out H hd k (by omega)
    cases hdk : done k with
    | false =>
      refine ⟨l ++ [k], fun i hi => ?_, ?_⟩
      · rcases List.mem_append.1 hi with g | g
        · exact ⟨by have := (h1 i g).1; omega, (h1 i g).2⟩
        · simp at g; subst g; exact ⟨Nat.lt_succ_self _, hdk⟩
      · simp only [runD, allD, if_true, hdk, Bool.false_eq_true, if_false, List.foldl_append, List.foldl_cons, List.foldl_nil]
        rw [← h2]
    | true =>
      refine ⟨l, fun i hi => ⟨by have := (h1 i hi).1; omega, (h1 i hi).2⟩, ?_⟩
      have key : ∀ (l : List Nat) (s : σ), (∀ i ∈ l, i < k ∧ done i = false) → step k (l.foldl (fun s i => step i s) s) = l.foldl (fun s i => step i s) (step k s) := by
        intro l
        induction l with
        | nil => intro s _; rfl
        | cons i l ih =>
          intro s hl
          have hi := hl i (by simp)
          have hna : anc i k = false := by
            cases ha : anc i k with
            | false => rfl
            | true => have := hd i k hi.1 (by omega) ha hdk; rw [hi.2] at this; cases this
          simp only [List.foldl_cons]
          rw [ih (step i s) (fun q hq => hl q (by simp [hq])), H.comm i k hi.1 (by omega) hna]
      show runD step allD (k + 1) s0 = l.foldl (fun s i => step i s) (runD step done (k + 1) s0)
      have e1 : runD step allD (k + 1) s0 = step k (runD step allD k s0) := rfl
      have e2 : runD step done (k + 1) s0 = step k (runD step done k s0) := by show (if done k then _ else _) = _; rw [if_pos hdk]
      rw [e1, e2, h2, key l _ h1]

theorem orders_at (H : Orders step n anc Rok U s0) {done : Nat → Bool} (hd : ∀ i j, i < j → j < n → anc i j = true → done j = true → done i = true) {j : Nat} (hj : j < n) (hdj : done j = false)
    (hpre : ∀ i, i < j → anc i j = true → done i = true) :
    Rok j (runD step done n s0) ∧ U j (runD step done n s0) ∧ runD step (fun i => if i = j then true else done i) n s0 = step j (runD step done n s0) := by
  have notAnc : ∀ i, j < i → i < n → done i = true → anc j i = false := fun i h1 h2 h3 => by
    cases ha : anc j i with
    | false => rfl
    | true => have := hd j i h1 h2 ha h3; rw [hdj] at this; cases this
  refine ⟨?_, ?_, ?_⟩
  · -- the footprint
    obtain ⟨l, h1, h2⟩ := runD_out H hd j (by omega)
    have hl := H.lex j hj
    rw [h2] at hl
    have back : ∀ (l : List Nat) (s : σ), (∀ i ∈ l, i < j ∧ done i = false) → Rok j (l.foldl (fun s i => step i s) s) → Rok j s := by
      intro l
      induction l with
      | nil => intro s _ h; exact h
      | cons i l ih =>
        intro s hl h
        have hi := hl i (by simp)
        have hna : anc i j = false := by
          cases ha : anc i j with
          | false => rfl
          | true => have := hpre i hi.1 ha; rw [hi.2] at this; cases this
        have := ih (step i s) (fun q hq => hl q (by simp [hq])) h
        exact (H.rk1 i j hi.1 hj hna s).1 this
    have h3 : Rok j (runD step done j s0) := back l _ h1 hl
    have fwd : ∀ k, j ≤ k → k ≤ n → Rok j (runD step done k s0) := by
      intro k hjk
      induction k with
      | zero => intro _; have : j = 0 := by omega
                subst this; exact h3
      | succ k ih =>
        intro hk
        rcases Nat.lt_or_ge k j with hlt | hge
        · have : j = k + 1 := by omega
          subst this; exact h3
        · have g := ih hge (by omega)
          simp only [runD]
          split
          · rename_i hdk
            have hne : j ≠ k := fun e => by subst e; rw [hdj] at hdk; cases hdk
            exact (H.rk2 j k (by omega) (by omega) (notAnc k (by omega) (by omega) hdk) _).2 g
          · exact g
    exact fwd n (by omega) (Nat.le_refl _)
  · have all : ∀ k, k ≤ n → U j (runD step done k s0) := by
      intro k
      induction k with
      | zero => intro _; exact H.u0 j hj
      | succ k ih =>
        intro hk
        have g := ih (by omega)
        simp only [runD]
        split
        · rename_i hdk
          have hne : k ≠ j := fun e => by subst e; rw [hdj] at hdk; cases hdk
          refine H.u k j (by omega) hj hne ?_ _ g
          rcases Nat.lt_or_ge k j with h | h
          · exact .inl h
          · exact .inr (notAnc k (by omega) (by omega) hdk)
        · exact g
    exact all n (Nat.le_refl _)
  · have low : ∀ k, k ≤ j → runD step (fun i => if i = j then true else done i) k s0 = runD step done k s0 := fun k hk =>
      runD_congr step k s0 (fun i hi => if_neg (by omega))
    have all : ∀ k, j + 1 ≤ k → k ≤ n → runD step (fun i => if i = j then true else done i) k s0 = step j (runD step done k s0) := by
      intro k hjk
      induction k with
      | zero => omega
      | succ k ih =>
        intro hk
        rcases Nat.lt_or_ge j k with hlt | hge
        · have g := ih hlt (by omega)
          have hkj : (k = j) = False := by simp; omega
          simp only [runD, hkj, if_false]
          rw [g]
          split
          · rename_i hdk
            exact H.comm j k hlt (by omega) (notAnc k hlt (by omega) hdk) _
          · rfl
        · have e : k = j := by omega
          subst e
          simp only [runD, if_true, hdj, Bool.false_eq_true, if_false]
          rw [low k (Nat.le_refl _)]
    exact all n (by omega) (Nat.le_refl _)

end

end Go.Eng
