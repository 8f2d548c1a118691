/- InspectAccepts: for every input the law returns true, and each argument reads afterwards as it read before. The listed variable is tied to the program's text: no conditions beyond the card's own. -/
import Derived.Test.YtlobbofhlcjlmaaGreatDoorRows
import Derived.Test.YtlobbofhlcjlmaaGreatDoorTie
import Derived.Test.YtlobbofhlcjlmaaGreatDoorCards
import Derived.Test.YtlobbofhlcjlmaaGreatDoorInBk
import Derived.Test.YtlobbofhlcjlmaaGreatDoorH20
import Derived.JoinedCond
import Derived.SevenTiedAt
import Derived.LaidMore
import Derived.ProofKit
set_option linter.unusedSimpArgs false
set_option linter.unusedVariables false
namespace Go.Proofs.YtlobbofhlcjlmaaGreatDoor.inspectAccepts
open Go Go.ChangeShapes Go.WideShapes Go.ChangeAt Go.RowKit Go.Eng Go.Eng.In
theorem own:ownKnob Tryz.prog.godebug=none:=by kernel_rfl
theorem door_met (os:Os) (args:Array Value):laidMetH Tryz.prog [("postilion/survey.keyWords", Rows.laid_postilion_survey_keyWords)] ((World.doorLaid Tryz.prog 400 os).forCall (fun _ _=>0) ⟨#[],args,[]⟩).memory :=
 laidMetH_of_parts3 (fuel:=8) (laidMet_of_run' 8 (by kernel_rfl) (by kernel_rfl)) (by kernel_rfl) (by kernel_rfl)
theorem glob {W:World} (h:laidMetH Tryz.prog [("postilion/survey.keyWords", Rows.laid_postilion_survey_keyWords)] W):rU Tryz.prog ⟨W,aKw W,noM,noE⟩ Sv.G0:=by
 rw [MakeChecks.laidMetH_plain _ _ _ (by kernel_rfl)] at h
 obtain ⟨ps,hv,_⟩:=h
 exact (laid_strs (P:=Tryz.prog) (n := "postilion/survey.keyWords") (g:=0) (m:=17) (ta:=177) (te:=9) (xs:=Sv.kw) (by kernel_rfl) (by kernel_rfl) (by kernel_rfl) (by kernel_rfl) (by kernel_rfl) (by decide) (by decide) hv).1
set_option maxRecDepth 100000 in
theorem lifted (os:Os) (started:os.Started) (H:Type) (enc:TypeId×Value→H) :
  ReturnsInHanded {} Tryz.checked os 4 .any (fun w args=>(Rows.inspectAcceptsSpec.pre enc Tryz.prog Tryz.f4 [] false w args∧laidMetH Tryz.prog [("postilion/survey.keyWords", Rows.laid_postilion_survey_keyWords)] w)∧sizedMet enc Tryz.prog Tryz.f4 (OpenSpec.ofChange Rows.inspectAcceptsSpec) false w args)
   (Rows.inspectAcceptsSpec.post enc Tryz.prog Tryz.f4 false true false false):=by
 refine returnsInHanded_of_change_and (C:=Tryz.checked) (X:=fun w _=>laidMetH Tryz.prog [("postilion/survey.keyWords", Rows.laid_postilion_survey_keyWords)] w) (fun _ _ _ hh h=>h.of_heap hh) own started (by kernel_rfl) Tryz.func4
  (ChangeSpec.witness_shaped (enc:=enc) (C:=Tryz.checked) (os:=os) (X:=fun w _=>laidMetH Tryz.prog [("postilion/survey.keyWords", Rows.laid_postilion_survey_keyWords)] w) false (World.doorLaid Tryz.prog 400 os) #[.agg #[.slice none 0 0,.slice none 0 0,.slice none 0 0,.slice none 0 0,.slice none 0 0,.slice none 0 0],.agg #[.int .i64 0,.int .i64 0,.slice none 0 0,.slice none 0 0]] 8 rfl (World.shaped_of_RefB (by kernel_rfl) (by kernel_rfl)) (by kernel_rfl) (by kernel_rfl) (by kernel_rfl) (door_met os _)) ?_
 intro W base args ds gs before hval hW _ _ hL _
 exact law_contractG (l:=[(true,N),(true,Pl)]) (X:=fun x=>okL [(true,N),(true,Pl)] x) (fun x hx=>(aTo x.1.1 x.1.2.1 x.1.2.2.1 x.1.2.2.2.1 x.1.2.2.2.2.1 x.1.2.2.2.2.2 x.2.1.1 x.2.1.2.1 x.2.1.2.2.1 x.2.1.2.2.2)) (by kernel_rfl) (by kernel_rfl) (by kernel_rfl) (rt:=4) (by kernel_rfl) (by kernel_rfl) rfl
  (fun hl=>by
   match ds,hl with
   | [a,b],_=>rfl) hval hW (fun _ h _=>h) (glob hL)
theorem aKi:Rows.InspectAcceptsSaid :=
 OpenClaim.holds_of_wide (p:=Tryz.pinned) (s:=Rows.inspectAcceptsSpec) (c:=Rows.inspectAcceptsRow) 4 Tryz.f4 rfl rfl rfl rfl rfl rfl rfl ⟨rfl,rfl,rfl,rfl,rfl⟩ rfl rfl rfl rfl rfl (by kernel_rfl) Tryz.func4 (by kernel_rfl)
  (of_decide_eq_true (by kernel_rfl)) (by unfold Func.isWrapper;first | (rw [if_pos (by decide +kernel)];kernel_rfl) | (rw [if_neg (by decide +kernel)];exact ⟨rfl,rfl⟩))
  (fun os started H enc _=>lifted os started H enc)
theorem card_holds:Rows.InspectAcceptsCardSaid :=
 Claim7.holds_tied_plain_at .later [] [.data] true (true, "1589f7aeae2c93f1c26f2eaf270715b8122d050927f0a0cdc3a3d7c2714a56fa") true
  aKi (fun _ h=>by cases h) (by kernel_rfl) (fun _ h=>by cases h) inspectAccepts_row_tie rfl ⟨rfl,rfl⟩ (by kernel_rfl) rfl
  (fun f fn hf hfn=>by
   obtain rfl:f=4:=Option.some.inj ((show Tryz.prog.funcNamed "postilion/postilionlaw19.InspectAccepts" = some 4 by kernel_rfl).symm.trans hf) |>.symm
   obtain rfl:fn=Tryz.f4:=(Option.some.inj (Tryz.func4.symm.trans hfn)).symm
   exact ⟨by kernel_rfl,fun j t ht=>by
    rw [show Tryz.f4.params=#[29,44] by kernel_rfl] at ht
    have hm:t ∈ [29,44]:=by simpa using Array.mem_of_getElem? ht
    have hall:([29,44].all fun u=>!Tryz.prog.wantsStandIn u)=true:=by kernel_rfl
    exact (show Tryz.prog.wantsStandIn t=false by simpa using List.all_eq_true.1 hall t hm)⟩)
  (by kernel_rfl)
end Go.Proofs.YtlobbofhlcjlmaaGreatDoor.inspectAccepts
