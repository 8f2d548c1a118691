/- InspectOthers: for every input the law returns true, and each argument reads afterwards as it read before. No conditions beyond the row's own. -/
import Derived.Test.YtlobbofhlcjlmaaRows
import Derived.Test.YtlobbofhlcjlmaaIn9i
import Derived.Test.YtlobbofhlcjlmaaZ20
import Derived.JoinedCond
set_option linter.unusedSimpArgs false
set_option linter.unusedVariables false
namespace Go.Proofs.Ytlobbofhlcjlmaa.inspectOthers
open Go.ChangeShapes Go.WideShapes Go.ChangeAt Go.RowKit Go.Eng
open Go.Eng.In

theorem own : ownKnob Try.prog.godebug = none := by kernel_rfl
theorem rng16 {a : Int} (h : inR .u16 a) : u16P a := by unfold inR at h; unfold u16P; simp only at h; omega
theorem rng8 {a : Int} (h : inR .u8 a) : u8P a := by unfold inR at h; unfold u8P; simp only at h; omega

set_option maxRecDepth 100000 in
theorem lifted (os : Os) (started : os.Started) (H : Type) (enc : TypeId × Value → H) :
    ReturnsInHanded {} Try.checked os 6 .any (Rows.inspectOthersSpec.pre6 enc Try.prog Try.f6 Rows.inspectOthersRow.domain false) (Rows.inspectOthersSpec.post enc Try.prog Try.f6 false true false false) := by
  refine returnsInHanded_of_change (C := Try.checked) own started (by kernel_rfl) Try.func6
    (ChangeSpec.witness6 (enc := enc) (C := Try.checked) false ⟨#[], #[.agg #[.slice none 0 0, .slice none 0 0, .slice none 0 0, .slice none 0 0, .slice none 0 0, .slice none 0 0], .agg #[.slice none 0 0, .int .i64 0], .bool false], []⟩ 8 (by kernel_rfl) (by kernel_rfl) (by kernel_rfl) (by kernel_rfl)) ?_
  intro W base args ds gs before hval hW _ _
  exact law_contract (l := [(true, N), (true, Ce), (false, .bool)]) (X := fun x => okL [(true, N), (true, Ce), (false, .bool)] x) (fun x hx => (lr_oth x.2.1.2 x.2.2.1 x.2.1.1 x.1.1 x.1.2.1 x.1.2.2.1 x.1.2.2.2.1 x.1.2.2.2.2.1 x.1.2.2.2.2.2).weaken fun _ => trivial) (by kernel_rfl) (by kernel_rfl) (by kernel_rfl) (rt := 4) (by kernel_rfl) (by kernel_rfl) rfl
    (fun hl => by
      match ds, hl with
      | [a, b, c], _ => rfl) hval hW (fun _ h _ => h)

theorem holds : Rows.InspectOthersSaid :=
  OpenClaim.holds_of_wide (p := Try.pinned) (s := Rows.inspectOthersSpec) (c := Rows.inspectOthersRow) 6 Try.f6 rfl rfl rfl rfl rfl rfl rfl ⟨rfl, rfl, rfl, rfl, rfl⟩ rfl rfl rfl rfl rfl (by kernel_rfl) Try.func6 (by kernel_rfl)
    (of_decide_eq_true (by kernel_rfl)) (by unfold Func.isWrapper; first | (rw [if_pos (by decide +kernel)]; kernel_rfl) | (rw [if_neg (by decide +kernel)]; exact ⟨rfl, rfl⟩))
    (fun os started H enc _ => lifted os started H enc)
end Go.Proofs.Ytlobbofhlcjlmaa.inspectOthers
