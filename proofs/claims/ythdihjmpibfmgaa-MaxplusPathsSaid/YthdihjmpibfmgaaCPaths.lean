/- MaxplusPaths: for every input the law returns true, and each argument reads afterwards as it read before. No conditions beyond the row's own. -/
import Derived.Test.YthdihjmpibfmgaaRows
import Derived.Test.YthdihjmpibfmgaaMpL9
import Derived.Test.YthdihjmpibfmgaaEng20
import Derived.JoinedCond
namespace Go.Proofs.Ythdihjmpibfmgaa.maxplusPaths
open Go.ChangeShapes Go.WideShapes Go.ChangeAt Go.RowKit Go.Eng
open Go.Eng.Mp

theorem own : ownKnob Try.prog.godebug = none := by kernel_rfl

set_option maxRecDepth 100000 in
theorem lifted (os : Os) (started : os.Started) (H : Type) (enc : TypeId × Value → H) :
    ReturnsInHanded {} Try.checked os 10 .any (Rows.maxplusPathsSpec.pre6 enc Try.prog Try.f10 Rows.maxplusPathsRow.domain false) (Rows.maxplusPathsSpec.post enc Try.prog Try.f10 false true false false) := by
  refine returnsInHanded_of_change (C := Try.checked) own started (by kernel_rfl) Try.func10
    (ChangeSpec.witness6 (enc := enc) (C := Try.checked) false ⟨#[], #[.slice none 0 0, .slice none 0 0], []⟩ 8 (by kernel_rfl) (by kernel_rfl) (by kernel_rfl) (by kernel_rfl)) ?_
  intro W base args ds gs before hval hW _ _
  exact law_contract (l := [(false, M), (false, B8)]) (X := fun x => okL [(false, M), (false, B8)] x) (fun x hx => s_Paths x.1 x.2.1 (fun y hy => hx.2.1.2 y hy)) (by kernel_rfl) (by kernel_rfl) (by kernel_rfl) (rt := 4) (by kernel_rfl) (by kernel_rfl) rfl
    (fun hl => by
      match ds, hl with
      | [a, b], _ => rfl) hval hW (fun _ h _ => h)

theorem holds : Rows.MaxplusPathsSaid :=
  OpenClaim.holds_of_wide (p := Try.pinned) (s := Rows.maxplusPathsSpec) (c := Rows.maxplusPathsRow) 10 Try.f10 rfl rfl rfl rfl rfl rfl rfl ⟨rfl, rfl, rfl, rfl, rfl⟩ rfl rfl rfl rfl rfl (by kernel_rfl) Try.func10 (by kernel_rfl)
    (of_decide_eq_true (by kernel_rfl)) (by unfold Func.isWrapper; first | (rw [if_pos (by decide +kernel)]; kernel_rfl) | (rw [if_neg (by decide +kernel)]; exact ⟨rfl, rfl⟩))
    (fun os started H enc _ => lifted os started H enc)
end Go.Proofs.Ythdihjmpibfmgaa.maxplusPaths
