/- InspectTrue: for every input the law returns true, and each argument reads afterwards as it read before. The listed variable is tied to the program's text: no conditions beyond the card's own. -/
import Derived.Test.YtlobbofhlcjlmaaGreatDoorRows
import Derived.Test.YtlobbofhlcjlmaaGreatDoorTie
import Derived.Test.YtlobbofhlcjlmaaGreatDoorCards
import Derived.Test.YtlobbofhlcjlmaaGreatDoorInUj
import Derived.Test.YtlobbofhlcjlmaaGreatDoorZ20
import Derived.JoinedCond
import Derived.SevenTiedAt
import Derived.LaidMore
import Derived.ProofKit
set_option linter.unusedSimpArgs false
set_option linter.unusedVariables false
namespace Go.Proofs.YtlobbofhlcjlmaaGreatDoor.inspectTrue
open Go Go.ChangeShapes Go.WideShapes Go.ChangeAt Go.RowKit Go.Eng Go.Eng.In
theorem own:ownKnob Tryz.prog.godebug=none:=by kernel_rfl
theorem door_met (os:Os) (args:Array Value):laidMetH Tryz.prog [("postilion/survey.keyWords", Rows.laid_postilion_survey_keyWords)] ((World.doorLaid Tryz.prog 400 os).forCall (fun _ _=>0) ⟨#[],args,[]⟩).memory :=
 laidMetH_of_parts3 (fuel:=8) (laidMet_of_run' 8 (by kernel_rfl) (by kernel_rfl)) (by kernel_rfl) (by kernel_rfl)
theorem glob {W:World} (h:laidMetH Tryz.prog [("postilion/survey.keyWords", Rows.laid_postilion_survey_keyWords)] W):relG Tryz.prog ⟨W,oldB W,noM,noE⟩ Sv.G0:=by
 rw [MakeChecks.laidMetH_plain _ _ _ (by kernel_rfl)] at h
 obtain ⟨ps,hv,_⟩:=h
 exact (laid_strs (P:=Tryz.prog) (n := "postilion/survey.keyWords") (g:=0) (m:=17) (ta:=177) (te:=9) (xs:=Sv.kw) (by kernel_rfl) (by kernel_rfl) (by kernel_rfl) (by kernel_rfl) (by kernel_rfl) (by decide) (by decide) hv).1
set_option maxRecDepth 100000 in
theorem lifted (os:Os) (started:os.Started) (H:Type) (enc:TypeId×Value→H) :
  ReturnsInHanded {} Tryz.checked os 3 .any (fun w args=>(Rows.inspectTrueSpec.pre enc Tryz.prog Tryz.f3 [] false w args∧laidMetH Tryz.prog [("postilion/survey.keyWords", Rows.laid_postilion_survey_keyWords)] w)∧sizedMet enc Tryz.prog Tryz.f3 (OpenSpec.ofChange Rows.inspectTrueSpec) false w args)
   (Rows.inspectTrueSpec.post enc Tryz.prog Tryz.f3 false true false false):=by
 refine returnsInHanded_of_change_and (C:=Tryz.checked) (X:=fun w _=>laidMetH Tryz.prog [("postilion/survey.keyWords", Rows.laid_postilion_survey_keyWords)] w) (fun _ _ _ hh h=>h.of_heap hh) own started (by kernel_rfl) Tryz.func3
  (ChangeSpec.witness_shaped (enc:=enc) (C:=Tryz.checked) (os:=os) (X:=fun w _=>laidMetH Tryz.prog [("postilion/survey.keyWords", Rows.laid_postilion_survey_keyWords)] w) false (World.doorLaid Tryz.prog 400 os) #[.agg #[.slice none 0 0,.slice none 0 0,.slice none 0 0,.slice none 0 0,.slice none 0 0,.slice none 0 0],.slice none 0 0,.agg #[.string ⟨#[]⟩,.int .i64 0,.int .i64 0,.int .i64 0,.int .i64 0]] 8 rfl (World.shaped_of_RefB (by kernel_rfl) (by kernel_rfl)) (by kernel_rfl) (by kernel_rfl) (by kernel_rfl) (door_met os _)) ?_
 intro W base args ds gs before hval hW _ _ hL _
 exact law_contractG (l:=[(true,N),(false,R),(true,Po)]) (X:=fun x=>okL [(true,N),(false,R),(true,Po)] x) (fun x hx=>(lr_true x.2.1 x.2.2.1.1 x.2.2.1.2.1 x.2.2.1.2.2.1 x.2.2.1.2.2.2.1 x.2.2.1.2.2.2.2 x.1.1 x.1.2.1 x.1.2.2.1 x.1.2.2.2.1 x.1.2.2.2.2.1 x.1.2.2.2.2.2).weaken fun _=>hx.2.1.1) (by kernel_rfl) (by kernel_rfl) (by kernel_rfl) (rt:=4) (by kernel_rfl) (by kernel_rfl) rfl
  (fun hl=>by
   match ds,hl with
   | [a,b,c],_=>rfl) hval hW (fun _ h _=>h) (glob hL)
theorem row_holds:Rows.InspectTrueSaid :=
 OpenClaim.holds_of_wide (p:=Tryz.pinned) (s:=Rows.inspectTrueSpec) (c:=Rows.inspectTrueRow) 3 Tryz.f3 rfl rfl rfl rfl rfl rfl rfl ⟨rfl,rfl,rfl,rfl,rfl⟩ rfl rfl rfl rfl rfl (by kernel_rfl) Tryz.func3 (by kernel_rfl)
  (of_decide_eq_true (by kernel_rfl)) (by unfold Func.isWrapper;first | (rw [if_pos (by decide +kernel)];kernel_rfl) | (rw [if_neg (by decide +kernel)];exact ⟨rfl,rfl⟩))
  (fun os started H enc _=>lifted os started H enc)
theorem card_holds:Rows.InspectTrueCardSaid :=
 Claim7.holds_tied_plain_at .later [] [.data] true (true, "1589f7aeae2c93f1c26f2eaf270715b8122d050927f0a0cdc3a3d7c2714a56fa") true
  row_holds (fun _ h=>by cases h) (by kernel_rfl) (fun _ h=>by cases h) inspectTrue_row_tie rfl ⟨rfl,rfl⟩ (by kernel_rfl) rfl
  (fun f fn hf hfn=>by
   obtain rfl:f=3:=Option.some.inj ((show Tryz.prog.funcNamed "postilion/postilionlaw19.InspectTrue" = some 3 by kernel_rfl).symm.trans hf) |>.symm
   obtain rfl:fn=Tryz.f3:=(Option.some.inj (Tryz.func3.symm.trans hfn)).symm
   exact ⟨by kernel_rfl,fun j t ht=>by
    rw [show Tryz.f3.params=#[29,30,32] by kernel_rfl] at ht
    have hm:t ∈ [29,30,32]:=by simpa using Array.mem_of_getElem? ht
    have hall:([29,30,32].all fun u=>!Tryz.prog.wantsStandIn u)=true:=by kernel_rfl
    exact (show Tryz.prog.wantsStandIn t=false by simpa using List.all_eq_true.1 hall t hm)⟩)
  (by kernel_rfl)
end Go.Proofs.YtlobbofhlcjlmaaGreatDoor.inspectTrue
