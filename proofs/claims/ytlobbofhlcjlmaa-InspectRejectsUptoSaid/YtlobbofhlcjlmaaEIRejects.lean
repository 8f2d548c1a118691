/- InspectRejects, where what it reads is of bulk at most 1048576: for every input the law returns true, and each argument reads afterwards as it read before. Conditions: the row's own bound. -/
import Derived.Test.YtlobbofhlcjlmaaRows
import Derived.Test.YtlobbofhlcjlmaaIn8i
import Derived.Test.YtlobbofhlcjlmaaZ20
import Derived.JoinedCond
set_option linter.unusedSimpArgs false
set_option linter.unusedVariables false
namespace Go.Proofs.Ytlobbofhlcjlmaa.inspectRejects
open Go.ChangeShapes Go.WideShapes Go.ChangeAt Go.RowKit Go.Eng
open Go.Eng.In

theorem own : ownKnob Try.prog.godebug = none := by kernel_rfl
theorem rng16 {a : Int} (h : inR .u16 a) : u16P a := by unfold inR at h; unfold u16P; simp only at h; omega
theorem rng8 {a : Int} (h : inR .u8 a) : u8P a := by unfold inR at h; unfold u8P; simp only at h; omega

mutual
theorem bulk_le {H : Type} : ∀ d : DataW H, bulkD d ≤ Rows.uptoBulk d
  | .lit l => by cases l <;> simp [bulkD, Rows.uptoBulk]
  | .nil => by simp [bulkD, Rows.uptoBulk]
  | .ptr _ => by simp [bulkD, Rows.uptoBulk]
  | .slice elems spare => by
    have := bulks_le elems
    simp only [bulkD, Rows.uptoBulk]
    omega
  | .agg parts => by
    have := bulks_le parts
    simp only [bulkD, Rows.uptoBulk]
    omega
  | .iface _ _ => by simp [bulkD, Rows.uptoBulk]
  | .map _ => by simp [bulkD, Rows.uptoBulk]
  | .held _ => by simp [bulkD, Rows.uptoBulk]
theorem bulks_le {H : Type} : ∀ l : List (DataW H), bulkDs l ≤ Rows.uptoBulkAll l
  | [] => by simp [bulkDs]
  | d :: r => by
    have h1 := bulk_le d
    have h2 := bulks_le r
    simp only [bulkDs, Rows.uptoBulkAll]
    omega
end

abbrev tts : List TT := [(true, N), (false, R), (false, U16), (false, U16)]

theorem sum_len {l : List Int} : l.length ≤ (l.map fun x => bulkT I x).sum := by
  induction l with
  | nil => simp
  | cons x l ih =>
    have h1 : bulkT I x = 1 := rfl
    simp only [List.map_cons, List.sum_cons, List.length_cons]
    omega
theorem short_of {x : Dens tts} (h : bulkL tts x ≤ 1048576) : (x.2.1 : List Int).length ≤ 1048576 := by
  have h1 : bulkT R x.2.1 ≤ bulkL tts x := by
    simp only [tts, bulkL]; omega
  have h2 : (x.2.1 : List Int).length ≤ bulkT R x.2.1 := by
    have := sum_len (l := x.2.1)
    show _ ≤ (List.map (fun y => bulkT I y) x.2.1).sum + 1
    omega
  omega

set_option maxRecDepth 100000 in
theorem lifted (os : Os) (started : os.Started) (H : Type) (enc : TypeId × Value → H) (F : Stop.Interp) :
    ReturnsInHanded {} Try.checked os 3 .any ((Rows.OpenSpec.upto Rows.inspectRejectsSpec).pre6 enc Try.prog Try.f3 Rows.inspectRejectsUptoRow.domain false) (((Rows.OpenSpec.upto Rows.inspectRejectsSpec).at F).post enc Try.prog Try.f3 false true false false) := by
  refine returnsInHanded_of_cond (C := Try.checked) (s := Rows.OpenSpec.upto Rows.inspectRejectsSpec) (k := Rows.uptoSmall) rfl own started (by kernel_rfl) Try.func3
    (OpenSpec.witness (enc := enc) (C := Try.checked) (s := Rows.OpenSpec.upto Rows.inspectRejectsSpec) (k := Rows.uptoSmall) rfl false ⟨#[], #[.agg #[.slice none 0 0, .slice none 0 0, .slice none 0 0, .slice none 0 0, .slice none 0 0, .slice none 0 0], .slice none 0 0, .int .u16 0, .int .u16 0], []⟩ 8 (by kernel_rfl) (by kernel_rfl) (by kernel_rfl)
      (x := ([.agg [.nil, .nil, .nil, .nil, .nil, .nil], .nil, .lit (.int .u16 0), .lit (.int .u16 0)], [], [])) (by kernel_rfl) rfl (by kernel_rfl)) ?_
  intro W base args ds gs before hval hW _ hk _
  have hb : Rows.uptoBulkAll (ds ++ gs) ≤ 1048576 := by simpa [Rows.uptoSmall] using hk
  have hall : ∀ l : List (DataW H), ∀ r : List (DataW H), Rows.uptoBulkAll l ≤ Rows.uptoBulkAll (l ++ r) := fun l r => by
    induction l with
    | nil => simp [Rows.uptoBulkAll]
    | cons x l ih => simp only [List.cons_append, Rows.uptoBulkAll]; omega
  have h1 := bulks_le ds
  have h2 := hall ds gs
  exact law_contract (s := Rows.inspectRejectsSpec) (l := tts) (X := fun x => okL tts x ∧ bulkL tts x ≤ 1048576) (fun x hx => (lr_rej x.2.2.1 x.2.2.2.1 x.2.1 x.1.1 x.1.2.1 x.1.2.2.1 x.1.2.2.2.1 x.1.2.2.2.2.1 x.1.2.2.2.2.2).weaken fun _ => ⟨short_of hx.2, rng16 hx.1.2.2.1, rng16 hx.1.2.2.2.1⟩) (by kernel_rfl) (by kernel_rfl) (by kernel_rfl) (rt := 4) (by kernel_rfl) (by kernel_rfl) rfl
    (fun hl => by
      match ds, hl with
      | [a, b, c, d], _ => rfl) hval hW (fun x h h' => ⟨h, by omega⟩)

theorem over : Rows.inspectRejectsUptoRow.holds Try.pinned (Rows.OpenSpec.upto Rows.inspectRejectsSpec) :=
  OpenClaim.holds_of_cond 3 Try.f3 rfl rfl rfl rfl rfl rfl rfl ⟨rfl, rfl, rfl, rfl, rfl⟩ rfl rfl rfl rfl rfl (by kernel_rfl) Try.func3 (by kernel_rfl)
    (of_decide_eq_true (by kernel_rfl)) (by unfold Func.isWrapper; first | (rw [if_pos (by decide +kernel)]; kernel_rfl) | (rw [if_neg (by decide +kernel)]; exact ⟨rfl, rfl⟩))
    (fun os started H enc _ F => lifted os started H enc F)

theorem holds : Rows.InspectRejectsUptoSaid := over
end Go.Proofs.Ytlobbofhlcjlmaa.inspectRejects
