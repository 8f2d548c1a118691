/- TransitionCarries: for every input the law returns true, and each argument reads afterwards as it read before. The listed variable is tied to the program's text: no conditions beyond the card's own. -/
import Derived.Test.YtgphkkpblecfgabGreatDoorRows
import Derived.Test.YtgphkkpblecfgabGreatDoorTie
import Derived.Test.YtgphkkpblecfgabGreatDoorCards
import Derived.Test.YtgphkkpblecfgabGreatDoorTr15t
import Derived.Test.YtgphkkpblecfgabGreatDoorY20
import Derived.JoinedCond
import Derived.SevenTiedAt
import Derived.LaidMore
import Derived.ProofKit
set_option linter.all false
namespace Go.Proofs.YtgphkkpblecfgabGreatDoor.transitionCarries
open Go Go.ChangeShapes Go.WideShapes Go.ChangeAt Go.RowKit Go.Eng Go.Eng.Sv
theorem own : ownKnob Tryz.prog.godebug = none := by kernel_rfl
theorem door_met (os : Os) (args : Array Value) : laidMetH Tryz.prog [("postilion/survey.keyWords", Rows.laid_postilion_survey_keyWords)] ((World.doorLaid Tryz.prog 400 os).forCall (fun _ _ => 0) ⟨#[], args, []⟩).memory :=
 laidMetH_of_parts3 (fuel := 8) (laidMet_of_run' 8 (by kernel_rfl) (by kernel_rfl)) (by kernel_rfl) (by kernel_rfl)
theorem glob {W : World} (h : laidMetH Tryz.prog [("postilion/survey.keyWords", Rows.laid_postilion_survey_keyWords)] W) : relG Tryz.prog ⟨W, oldB W, noM, noE⟩ G0 := by
 rw [MakeChecks.laidMetH_plain _ _ _ (by kernel_rfl)] at h
 obtain ⟨ps, hv, _⟩ := h
 exact (laid_strs (P := Tryz.prog) (n := "postilion/survey.keyWords") (g := 0) (m := 17) (ta := 146) (te := 9) (xs := kw) (by kernel_rfl) (by kernel_rfl) (by kernel_rfl) (by kernel_rfl) (by kernel_rfl) (by decide) (by decide) hv).1
set_option maxRecDepth 100000 in
theorem lifted (os : Os) (started : os.Started) (H : Type) (enc : TypeId × Value → H) :
  ReturnsInHanded {} Tryz.checked os 4 .any (fun w args => (Rows.transitionCarriesSpec.pre enc Tryz.prog Tryz.f4 [] false w args ∧ laidMetH Tryz.prog [("postilion/survey.keyWords", Rows.laid_postilion_survey_keyWords)] w) ∧ sizedMet enc Tryz.prog Tryz.f4 (OpenSpec.ofChange Rows.transitionCarriesSpec) false w args)
   (Rows.transitionCarriesSpec.post enc Tryz.prog Tryz.f4 false true false false) := by
 refine returnsInHanded_of_change_and (C := Tryz.checked) (X := fun w _ => laidMetH Tryz.prog [("postilion/survey.keyWords", Rows.laid_postilion_survey_keyWords)] w) (fun _ _ _ hh h => h.of_heap hh) own started (by kernel_rfl) Tryz.func4
  (ChangeSpec.witness_shaped (enc := enc) (C := Tryz.checked) (os := os) (X := fun w _ => laidMetH Tryz.prog [("postilion/survey.keyWords", Rows.laid_postilion_survey_keyWords)] w) false (World.doorLaid Tryz.prog 400 os) #[.agg #[.slice none 0 0, .slice none 0 0, .slice none 0 0, .slice none 0 0, .slice none 0 0, .slice none 0 0], .agg #[.int .i64 0, .int .i64 0, .slice none 0 0, .slice none 0 0], .agg #[.slice none 0 0, .slice none 0 0, .slice none 0 0, .slice none 0 0, .slice none 0 0, .slice none 0 0], .agg #[.int .i64 0, .int .i64 0, .slice none 0 0, .slice none 0 0], .int .u8 0, .int .u8 0, .int .u32 0, .int .u32 0] 8 rfl (World.shaped_of_RefB (by kernel_rfl) (by kernel_rfl)) (by kernel_rfl) (by kernel_rfl) (by kernel_rfl) (door_met os _)) ?_
 intro W base args ds gs before hval hW _ _ hL _
 exact law_contractG (l := [(true, N), (true, Pl), (true, N), (true, Pl), (false, B8), (false, B8), (false, U32), (false, U32)]) (X := fun x => okL [(true, N), (true, Pl), (true, N), (true, Pl), (false, B8), (false, B8), (false, U32), (false, U32)] x) (fun x hx => (t_lcarries x.2.2.2.2.1 x.2.2.2.2.2.1 x.2.2.2.2.2.2.1 x.2.2.2.2.2.2.2.1 x.2.1.1 x.2.1.2.1 x.2.1.2.2.1 x.2.1.2.2.2 x.1.1 x.1.2.1 x.1.2.2.1 x.1.2.2.2.1 x.1.2.2.2.2.1 x.1.2.2.2.2.2 x.2.2.2.1.1 x.2.2.2.1.2.1 x.2.2.2.1.2.2.1 x.2.2.2.1.2.2.2 x.2.2.1.1 x.2.2.1.2.1 x.2.2.1.2.2.1 x.2.2.1.2.2.2.1 x.2.2.1.2.2.2.2.1 x.2.2.1.2.2.2.2.2).weaken fun _ => ⟨⟨(rng8 hx.2.2.2.2.1).1, (rng8 hx.2.2.2.2.1).2, (rng8 hx.2.2.2.2.2.1).1, (rng8 hx.2.2.2.2.2.1).2⟩, rng32 hx.2.2.2.2.2.2.1, rng32 hx.2.2.2.2.2.2.2.1⟩) (by kernel_rfl) (by kernel_rfl) (by kernel_rfl) (rt := 4) (by kernel_rfl) (by kernel_rfl) rfl
  (fun hl => by
   match ds, hl with
   | [a, b, c, d, e, f, g, h], _ => rfl) hval hW (fun _ h _ => h) (glob hL)
theorem row_holds : Rows.TransitionCarriesSaid :=
 OpenClaim.holds_of_wide (p := Tryz.pinned) (s := Rows.transitionCarriesSpec) (c := Rows.transitionCarriesRow) 4 Tryz.f4 rfl rfl rfl rfl rfl rfl rfl ⟨rfl, rfl, rfl, rfl, rfl⟩ rfl rfl rfl rfl rfl (by kernel_rfl) Tryz.func4 (by kernel_rfl)
  (of_decide_eq_true (by kernel_rfl)) (by unfold Func.isWrapper; first | (rw [if_pos (by decide +kernel)]; kernel_rfl) | (rw [if_neg (by decide +kernel)]; exact ⟨rfl, rfl⟩))
  (fun os started H enc _ => lifted os started H enc)
theorem card_holds : Rows.TransitionCarriesCardSaid :=
 Claim7.holds_tied_plain_at .later [] [.data] true (true, "8d34f0744786fd7c39e706a5cb03fb7d28e9aba694b3e0ff5ff76b916b3ca405") true
  row_holds (fun _ h => by cases h) (by kernel_rfl) (fun _ h => by cases h) transitionCarries_row_tie rfl ⟨rfl, rfl⟩ (by kernel_rfl) rfl
  (fun f fn hf hfn => by
   obtain rfl : f = 4 := Option.some.inj ((show Tryz.prog.funcNamed "postilion/postilionlaw20.TransitionCarries" = some 4 by kernel_rfl).symm.trans hf) |>.symm
   obtain rfl : fn = Tryz.f4 := (Option.some.inj (Tryz.func4.symm.trans hfn)).symm
   exact ⟨by kernel_rfl, fun j t ht => by
    rw [show Tryz.f4.params = #[29, 33, 29, 33, 5, 5, 34, 34] by kernel_rfl] at ht
    have hm : t ∈ [29, 33, 29, 33, 5, 5, 34, 34] := by simpa using Array.mem_of_getElem? ht
    have hall : ([29, 33, 29, 33, 5, 5, 34, 34].all fun u => !Tryz.prog.wantsStandIn u) = true := by kernel_rfl
    exact (show Tryz.prog.wantsStandIn t = false by simpa using List.all_eq_true.1 hall t hm)⟩)
  (by kernel_rfl)
end Go.Proofs.YtgphkkpblecfgabGreatDoor.transitionCarries
