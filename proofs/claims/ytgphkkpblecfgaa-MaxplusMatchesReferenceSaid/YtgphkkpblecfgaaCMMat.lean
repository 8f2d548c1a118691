/- MaxplusMatchesReference: for every input the law returns true, and each argument reads afterwards as it read before. No conditions beyond the row's own. -/
import Derived.Test.YtgphkkpblecfgaaRows
import Derived.Test.YtgphkkpblecfgaaMm5m
import Derived.Test.YtgphkkpblecfgaaY20
import Derived.JoinedCond
set_option linter.unusedSimpArgs false
set_option linter.unusedVariables false
namespace Go.Proofs.Ytgphkkpblecfgaa.maxplusMatchesReference
open Go.ChangeShapes Go.WideShapes Go.ChangeAt Go.RowKit Go.Eng
open Go.Eng.Mp
open Go.Eng.Sv (I R M)

theorem own : ownKnob Try.prog.godebug = none := by kernel_rfl

set_option maxRecDepth 100000 in
theorem lifted (os : Os) (started : os.Started) (H : Type) (enc : TypeId × Value → H) :
    ReturnsInHanded {} Try.checked os 3 .any (Rows.maxplusMatchesReferenceSpec.pre6 enc Try.prog Try.f3 Rows.maxplusMatchesReferenceRow.domain false) (Rows.maxplusMatchesReferenceSpec.post enc Try.prog Try.f3 false true false false) := by
  refine returnsInHanded_of_change (C := Try.checked) own started (by kernel_rfl) Try.func3
    (ChangeSpec.witness6 (enc := enc) (C := Try.checked) false ⟨#[], #[.slice none 0 0, .slice none 0 0, .slice none 0 0], []⟩ 8 (by kernel_rfl) (by kernel_rfl) (by kernel_rfl) (by kernel_rfl)) ?_
  intro W base args ds gs before hval hW _ _
  exact law_contract (l := [(false, M), (false, M), (false, R)]) (X := fun x => okL [(false, M), (false, M), (false, R)] x) (fun x hx => s_match x.1 x.2.1 x.2.2.1) (by kernel_rfl) (by kernel_rfl) (by kernel_rfl) (rt := 4) (by kernel_rfl) (by kernel_rfl) rfl
    (fun hl => by
      match ds, hl with
      | [a, b, c], _ => rfl) hval hW (fun _ h _ => h)

theorem holds : Rows.MaxplusMatchesReferenceSaid :=
  OpenClaim.holds_of_wide (p := Try.pinned) (s := Rows.maxplusMatchesReferenceSpec) (c := Rows.maxplusMatchesReferenceRow) 3 Try.f3 rfl rfl rfl rfl rfl rfl rfl ⟨rfl, rfl, rfl, rfl, rfl⟩ rfl rfl rfl rfl rfl (by kernel_rfl) Try.func3 (by kernel_rfl)
    (of_decide_eq_true (by kernel_rfl)) (by unfold Func.isWrapper; first | (rw [if_pos (by decide +kernel)]; kernel_rfl) | (rw [if_neg (by decide +kernel)]; exact ⟨rfl, rfl⟩))
    (fun os started H enc _ => lifted os started H enc)
end Go.Proofs.Ytgphkkpblecfgaa.maxplusMatchesReference
