/- CalendarWeeks: for every input the law returns true, and each argument reads afterwards as it read before. No conditions beyond the row's own. -/
import Derived.Test.YtmofcccjepbhjaaRows
import Derived.Test.YtmofcccjepbhjaaCal6
import Derived.Test.YtmofcccjepbhjaaW20
import Derived.JoinedCond
set_option linter.unusedSimpArgs false
set_option linter.unusedVariables false
namespace Go.Proofs.Ytmofcccjepbhjaa.calendarWeeks
open Go.ChangeShapes Go.WideShapes Go.ChangeAt Go.RowKit Go.Eng
open Go.Eng.Cal

theorem own : ownKnob Try.prog.godebug = none := by kernel_rfl

set_option maxRecDepth 100000 in
theorem lifted (os : Os) (started : os.Started) (H : Type) (enc : TypeId × Value → H) :
    ReturnsInHanded {} Try.checked os 7 .any (Rows.calendarWeeksSpec.pre6 enc Try.prog Try.f7 Rows.calendarWeeksRow.domain false) (Rows.calendarWeeksSpec.post enc Try.prog Try.f7 false true false false) := by
  refine returnsInHanded_of_change (C := Try.checked) own started (by kernel_rfl) Try.func7
    (ChangeSpec.witness6 (enc := enc) (C := Try.checked) false ⟨#[], #[.agg #[.int .i64 0, .slice none 0 0, .slice none 0 0], .int .i32 0], []⟩ 8 (by kernel_rfl) (by kernel_rfl) (by kernel_rfl) (by kernel_rfl)) ?_
  intro W base args ds gs before hval hW _ _
  exact law_contract (l := [(true, C), (false, S32)]) (X := fun x => okL [(true, C), (false, S32)] x) (fun x hx => (s_lweeks x.1.1 x.1.2.1 x.1.2.2 x.2.1).weaken fun _ => hx.2.1) (by kernel_rfl) (by kernel_rfl) (by kernel_rfl) (rt := 4) (by kernel_rfl) (by kernel_rfl) rfl
    (fun hl => by
      match ds, hl with
      | [a, b], _ => rfl) hval hW (fun _ h _ => h)

theorem holds : Rows.CalendarWeeksSaid :=
  OpenClaim.holds_of_wide (p := Try.pinned) (s := Rows.calendarWeeksSpec) (c := Rows.calendarWeeksRow) 7 Try.f7 rfl rfl rfl rfl rfl rfl rfl ⟨rfl, rfl, rfl, rfl, rfl⟩ rfl rfl rfl rfl rfl (by kernel_rfl) Try.func7 (by kernel_rfl)
    (of_decide_eq_true (by kernel_rfl)) (by unfold Func.isWrapper; first | (rw [if_pos (by decide +kernel)]; kernel_rfl) | (rw [if_neg (by decide +kernel)]; exact ⟨rfl, rfl⟩))
    (fun os started H enc _ => lifted os started H enc)
end Go.Proofs.Ytmofcccjepbhjaa.calendarWeeks
