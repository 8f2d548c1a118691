/- TimetableReached: for every input the law returns true, and each argument reads afterwards as it read before. The listed variable is tied to the program's text: no conditions beyond the card's own. -/
import Derived.Test.YtejeaokbkbfgjaaDoorRows
import Derived.Test.YtejeaokbkbfgjaaDoorTie
import Derived.Test.YtejeaokbkbfgjaaDoorCards
import Derived.Test.YtejeaokbkbfgjaaDoorTt12d
import Derived.Test.YtejeaokbkbfgjaaDoorX20
import Derived.JoinedCond
import Derived.SevenTiedAt
import Derived.LaidMore
import Derived.ProofKit
set_option linter.unusedSimpArgs false
set_option linter.unusedVariables false
namespace Go.Proofs.YtejeaokbkbfgjaaDoor.timetableReached
open Go Go.ChangeShapes Go.WideShapes Go.ChangeAt Go.RowKit Go.Eng Go.Eng.Sv

theorem own : ownKnob Tryd.prog.godebug = none := by kernel_rfl
theorem door_met (os : Os) (args : Array Value) : laidMetH Tryd.prog [("postilion/survey.keyWords", Rows.laid_postilion_survey_keyWords)] ((World.doorLaid Tryd.prog 400 os).forCall (fun _ _ => 0) ⟨#[], args, []⟩).memory :=
  laidMetH_of_parts3 (fuel := 8) (laidMet_of_run' 8 (by kernel_rfl) (by kernel_rfl)) (by kernel_rfl) (by kernel_rfl)
theorem glob {W : World} (h : laidMetH Tryd.prog [("postilion/survey.keyWords", Rows.laid_postilion_survey_keyWords)] W) : relG Tryd.prog ⟨W, oldB W, noM, noE⟩ G0 := by
  rw [MakeChecks.laidMetH_plain _ _ _ (by kernel_rfl)] at h
  obtain ⟨ps, hv, _⟩ := h
  exact (laid_strs (P := Tryd.prog) (n := "postilion/survey.keyWords") (g := 0) (m := 17) (ta := 111) (te := 9) (xs := kw) (by kernel_rfl) (by kernel_rfl) (by kernel_rfl) (by kernel_rfl) (by kernel_rfl) (by decide) (by decide) hv).1

set_option maxRecDepth 100000 in
theorem lifted (os : Os) (started : os.Started) (H : Type) (enc : TypeId × Value → H) :
    ReturnsInHanded {} Tryd.checked os 7 .any (fun w args => (Rows.timetableReachedSpec.pre enc Tryd.prog Tryd.f7 [] false w args ∧ laidMetH Tryd.prog [("postilion/survey.keyWords", Rows.laid_postilion_survey_keyWords)] w) ∧ sizedMet enc Tryd.prog Tryd.f7 (OpenSpec.ofChange Rows.timetableReachedSpec) false w args)
      (Rows.timetableReachedSpec.post enc Tryd.prog Tryd.f7 false true false false) := by
  refine returnsInHanded_of_change_and (C := Tryd.checked) (X := fun w _ => laidMetH Tryd.prog [("postilion/survey.keyWords", Rows.laid_postilion_survey_keyWords)] w) (fun _ _ _ hh h => h.of_heap hh) own started (by kernel_rfl) Tryd.func7
    (ChangeSpec.witness_shaped (enc := enc) (C := Tryd.checked) (os := os) (X := fun w _ => laidMetH Tryd.prog [("postilion/survey.keyWords", Rows.laid_postilion_survey_keyWords)] w) false (World.doorLaid Tryd.prog 400 os) #[.agg #[.slice none 0 0, .slice none 0 0, .slice none 0 0, .slice none 0 0, .slice none 0 0, .slice none 0 0], .int .i64 0, .int .i64 0, .int .u16 0] 8 rfl (World.shaped_of_RefB (by kernel_rfl) (by kernel_rfl)) (by kernel_rfl) (by kernel_rfl) (by kernel_rfl) (door_met os _)) ?_
  intro W base args ds gs before hval hW _ _ hL _
  exact law_contractG (l := [(true, N), (false, I), (false, I), (false, U16)]) (X := fun x => okL [(true, N), (false, I), (false, I), (false, U16)] x) (fun x hx => (t_lreached x.2.1 x.2.2.1 x.2.2.2.1 x.1.1 x.1.2.1 x.1.2.2.1 x.1.2.2.2.1 x.1.2.2.2.2.1 x.1.2.2.2.2.2).weaken fun _ => hx.2.2.2.1) (by kernel_rfl) (by kernel_rfl) (by kernel_rfl) (rt := 4) (by kernel_rfl) (by kernel_rfl) rfl
    (fun hl => by
      match ds, hl with
      | [a, b, c, d], _ => rfl) hval hW (fun _ h _ => h) (glob hL)

theorem row_holds : Rows.TimetableReachedSaid :=
  OpenClaim.holds_of_wide (p := Tryd.pinned) (s := Rows.timetableReachedSpec) (c := Rows.timetableReachedRow) 7 Tryd.f7 rfl rfl rfl rfl rfl rfl rfl ⟨rfl, rfl, rfl, rfl, rfl⟩ rfl rfl rfl rfl rfl (by kernel_rfl) Tryd.func7 (by kernel_rfl)
    (of_decide_eq_true (by kernel_rfl)) (by unfold Func.isWrapper; first | (rw [if_pos (by decide +kernel)]; kernel_rfl) | (rw [if_neg (by decide +kernel)]; exact ⟨rfl, rfl⟩))
    (fun os started H enc _ => lifted os started H enc)

theorem card_holds : Rows.TimetableReachedCardSaid :=
  Claim7.holds_tied_plain_at .later [] [.data] true (true, "fdf8fa50ea587aa5aba0a5a91daef03e3390b8edf8c797b4a9c380a13dfd45cc") false
    row_holds (fun _ h => by cases h) (by kernel_rfl) (fun _ h => by cases h) timetableReached_row_tie rfl ⟨rfl, rfl⟩ (by kernel_rfl) rfl
    (fun f fn hf hfn => by
      obtain rfl : f = 7 := Option.some.inj ((show Tryd.prog.funcNamed "postilion/postilionlaw13.TimetableReached" = some 7 by kernel_rfl).symm.trans hf) |>.symm
      obtain rfl : fn = Tryd.f7 := (Option.some.inj (Tryd.func7.symm.trans hfn)).symm
      exact ⟨by kernel_rfl, fun j t ht => by
        rw [show Tryd.f7.params = #[29, 3, 3, 48] by kernel_rfl] at ht
        have hm : t ∈ [29, 3, 3, 48] := by simpa using Array.mem_of_getElem? ht
        have hall : ([29, 3, 3, 48].all fun u => !Tryd.prog.wantsStandIn u) = true := by kernel_rfl
        exact (show Tryd.prog.wantsStandIn t = false by simpa using List.all_eq_true.1 hall t hm)⟩)
    (by kernel_rfl)
end Go.Proofs.YtejeaokbkbfgjaaDoor.timetableReached
