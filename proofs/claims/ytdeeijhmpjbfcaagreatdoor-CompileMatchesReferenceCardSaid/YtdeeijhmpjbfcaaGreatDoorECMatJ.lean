/- PeECML -/
import Derived.Test.YtdeeijhmpjbfcaaGreatDoorECMatI
import Derived.Test.YtdeeijhmpjbfcaaGreatDoorRows
import Derived.JoinedCond
import Derived.LaidMore
import Derived.ProofKit
set_option linter.all false
namespace Go.Proofs.YtdeeijhmpjbfcaaGreatDoor.compileMatchesReference
open Go Go.ChangeShapes Go.WideShapes Go.ChangeAt Go.RowKit Go.Eng Go.Eng.Sv
theorem own:ownKnob Tryz.prog.godebug=none:=by kernel_rfl
theorem door_met(os:Os)(args:Array Value):laidMetH Tryz.prog [("postilion/survey.keyWords", Rows.laid_postilion_survey_keyWords)] ((World.doorLaid Tryz.prog 400 os).forCall (λ_ _=>0) ⟨#[],args,[]⟩).memory:=
 laidMetH_of_parts3 (fuel:=8) (laidMet_of_run' 8 (by kernel_rfl) (by kernel_rfl)) (by kernel_rfl) (by kernel_rfl)
theorem glob{W:World}(h:laidMetH Tryz.prog [("postilion/survey.keyWords", Rows.laid_postilion_survey_keyWords)] W):me Tryz.prog ⟨W,Uw W,noM,noE⟩ G0:=by
 rw[MakeChecks.laidMetH_plain _ _ _ (by kernel_rfl)]at h;obtain⟨ps,hv,_⟩:=h;exact(laid_strs (P:=Tryz.prog) (n := "postilion/survey.keyWords") (g:=0) (m:=17) (ta:=244) (te:=9) (xs:=kw) (by kernel_rfl) (by kernel_rfl) (by kernel_rfl) (by kernel_rfl) (by kernel_rfl) (by decide) (by decide) hv).1
set_option maxRecDepth 100000 in
theorem lifted(os:Os)(started:os.Started)(H:Type)(enc:TypeId×Value->H):
  ReturnsInHanded {} Tryz.checked os 3 .any (λw args=>(Rows.compileMatchesReferenceSpec.pre enc Tryz.prog Tryz.f3 [] false w args/\laidMetH Tryz.prog [("postilion/survey.keyWords", Rows.laid_postilion_survey_keyWords)] w)/\sizedMet enc Tryz.prog Tryz.f3 (OpenSpec.ofChange Rows.compileMatchesReferenceSpec) false w args)
   (Rows.compileMatchesReferenceSpec.post enc Tryz.prog Tryz.f3 false true false false):=by
 refine returnsInHanded_of_change_and (C:=Tryz.checked) (X:=λw _=>laidMetH Tryz.prog [("postilion/survey.keyWords", Rows.laid_postilion_survey_keyWords)] w) (λ_ _ _ hh h=>h.of_heap hh) own started (by kernel_rfl) Tryz.func3
  (ChangeSpec.witness_shaped (enc:=enc) (C:=Tryz.checked) (os:=os) (X:=λw _=>laidMetH Tryz.prog [("postilion/survey.keyWords", Rows.laid_postilion_survey_keyWords)] w) false (World.doorLaid Tryz.prog 400 os) #[.agg #[.slice none 0 0,.slice none 0 0,.slice none 0 0,.slice none 0 0,.slice none 0 0,.slice none 0 0],.int .i64 0,.int .i64 0,.agg #[.int .i64 0,.int .i64 0,.slice none 0 0,.slice none 0 0],.int .i64 0] 8 rfl (World.shaped_of_RefB (by kernel_rfl) (by kernel_rfl)) (by kernel_rfl) (by kernel_rfl) (by kernel_rfl) (door_met os _)) ?_
 intro W base args ds gs before hval hW _ _ hL _;exact law_contractG (l:=[(true,N),(false,I),(false,I),(true,Pl),(false,I)]) (X:=λx=>okL [(true,N),(false,I),(false,I),(true,Pl),(false,I)] x) (λx hx=>(aBx x.2.1 x.2.2.1 x.2.2.2.2.1 x.1.1 x.1.2.1 x.1.2.2.1 x.1.2.2.2.1 x.1.2.2.2.2.1 x.1.2.2.2.2.2 x.2.2.2.1.1 x.2.2.2.1.2.1 x.2.2.2.1.2.2.1 x.2.2.2.1.2.2.2).weaken λ_=>trivial) (by kernel_rfl) (by kernel_rfl) (by kernel_rfl) (rt:=4) (by kernel_rfl) (by kernel_rfl) rfl
  (λhl=>by
   match ds,hl with
   |[a,b,c,d,e],_=>rfl) hval hW (λ_ h _=>h) (glob hL)
end Go.Proofs.YtdeeijhmpjbfcaaGreatDoor.compileMatchesReference
