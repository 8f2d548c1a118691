/- InspectWeaker: for every input the law returns true, and each argument reads afterwards as it read before. No conditions beyond the row's own. -/
import Derived.Test.YtlobbofhlcjlmaaRows
import Derived.Test.YtlobbofhlcjlmaaIn8i
import Derived.Test.YtlobbofhlcjlmaaZ20
import Derived.JoinedCond
set_option linter.unusedSimpArgs false
set_option linter.unusedVariables false
namespace Go.Proofs.Ytlobbofhlcjlmaa.inspectWeaker
open Go.ChangeShapes Go.WideShapes Go.ChangeAt Go.RowKit Go.Eng
open Go.Eng.In

theorem own : ownKnob Try.prog.godebug = none := by kernel_rfl
theorem rng16 {a : Int} (h : inR .u16 a) : u16P a := by unfold inR at h; unfold u16P; simp only at h; omega
theorem rng8 {a : Int} (h : inR .u8 a) : u8P a := by unfold inR at h; unfold u8P; simp only at h; omega

set_option maxRecDepth 100000 in
theorem lifted (os : Os) (started : os.Started) (H : Type) (enc : TypeId × Value → H) :
    ReturnsInHanded {} Try.checked os 5 .any (Rows.inspectWeakerSpec.pre6 enc Try.prog Try.f5 Rows.inspectWeakerRow.domain false) (Rows.inspectWeakerSpec.post enc Try.prog Try.f5 false true false false) := by
  refine returnsInHanded_of_change (C := Try.checked) own started (by kernel_rfl) Try.func5
    (ChangeSpec.witness6 (enc := enc) (C := Try.checked) false ⟨#[], #[.agg #[.slice none 0 0, .slice none 0 0, .slice none 0 0, .slice none 0 0, .slice none 0 0, .slice none 0 0], .slice none 0 0, .int .u8 0, .int .u8 0, .int .u8 0, .int .u8 0], []⟩ 8 (by kernel_rfl) (by kernel_rfl) (by kernel_rfl) (by kernel_rfl)) ?_
  intro W base args ds gs before hval hW _ _
  exact law_contract (l := [(true, N), (false, R), (false, U8), (false, U8), (false, U8), (false, U8)]) (X := fun x => okL [(true, N), (false, R), (false, U8), (false, U8), (false, U8), (false, U8)] x) (fun x hx => (lr_weak x.2.2.1 x.2.2.2.1 x.2.2.2.2.1 x.2.2.2.2.2.1 x.2.1 x.1.1 x.1.2.1 x.1.2.2.1 x.1.2.2.2.1 x.1.2.2.2.2.1 x.1.2.2.2.2.2).weaken fun _ => ⟨hx.2.1.1, ⟨rng8 hx.2.2.1, rng8 hx.2.2.2.1⟩, rng8 hx.2.2.2.2.1, rng8 hx.2.2.2.2.2.1⟩) (by kernel_rfl) (by kernel_rfl) (by kernel_rfl) (rt := 4) (by kernel_rfl) (by kernel_rfl) rfl
    (fun hl => by
      match ds, hl with
      | [a, b, c, d, e, f], _ => rfl) hval hW (fun _ h _ => h)

theorem holds : Rows.InspectWeakerSaid :=
  OpenClaim.holds_of_wide (p := Try.pinned) (s := Rows.inspectWeakerSpec) (c := Rows.inspectWeakerRow) 5 Try.f5 rfl rfl rfl rfl rfl rfl rfl ⟨rfl, rfl, rfl, rfl, rfl⟩ rfl rfl rfl rfl rfl (by kernel_rfl) Try.func5 (by kernel_rfl)
    (of_decide_eq_true (by kernel_rfl)) (by unfold Func.isWrapper; first | (rw [if_pos (by decide +kernel)]; kernel_rfl) | (rw [if_neg (by decide +kernel)]; exact ⟨rfl, rfl⟩))
    (fun os started H enc _ => lifted os started H enc)
end Go.Proofs.Ytlobbofhlcjlmaa.inspectWeaker
