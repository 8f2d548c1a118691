/-
  DERIVED. GIVEN WITH THE SEED: THE CARDS: each row of YtmofcccjepbhjaaDoorRows.lean that lists a variable, with what it lists TIED to the program's text (the seventh form; the later family's looks); each row that meets fmt, with fmt's text TOLD by the authors' own Lean function (tested against real Go, not proved from fmt's source: count such statements apart). THE CARD IS WHAT COUNTS. Prove the row's statement (the work); the ties are given (YtmofcccjepbhjaaDoorTie.lean); close each card by the builder's one call (the guide's Derived/Test/ToyasCard.lean, 'card_holds'). Laid BY PROGRAM, IN A SANDBOX (cutbox-door.mjs). By AI agents, Wed Nov 11 2026. No macro, syntax, notation, axiom, sorry.
-/
import Derived.Test.YtmofcccjepbhjaaDoorRows
import GoSem.ClaimSeven
namespace Go.Proofs.YtmofcccjepbhjaaDoor
namespace Rows

/-- THE TIED CARD OF 'postilionlaw11.SurveyMatchesReference'. -/
def surveyMatchesReferenceCard : Claim7 := { stood := { row := surveyMatchesReferenceRow, standIns := [], harness := (true, "70732bdccffe8adf23fc20b19f9c94bc4f281ab9bcdf1ae3a6ea02275f6331c2"), looks := false }, kinds := [], alts := [], laidByText := true, laidKinds := [.data], laidTests := true, laidLooks := .later }
def SurveyMatchesReferenceCardSaid : Prop := Claim7.holds Tryd.pinned (.plain (OpenSpec.ofChange surveyMatchesReferenceSpec)) surveyMatchesReferenceCard

/-- THE TIED CARD OF 'postilionlaw11.SurveyDistances'. -/
def surveyDistancesCard : Claim7 := { stood := { row := surveyDistancesRow, standIns := [], harness := (true, "70732bdccffe8adf23fc20b19f9c94bc4f281ab9bcdf1ae3a6ea02275f6331c2"), looks := false }, kinds := [], alts := [], laidByText := true, laidKinds := [.data], laidTests := true, laidLooks := .later }
def SurveyDistancesCardSaid : Prop := Claim7.holds Tryd.pinned (.plain (OpenSpec.ofChange surveyDistancesSpec)) surveyDistancesCard

/-- THE TIED CARD OF 'postilionlaw11.SurveyTriangles'. -/
def surveyTrianglesCard : Claim7 := { stood := { row := surveyTrianglesRow, standIns := [], harness := (true, "70732bdccffe8adf23fc20b19f9c94bc4f281ab9bcdf1ae3a6ea02275f6331c2"), looks := false }, kinds := [], alts := [], laidByText := true, laidKinds := [.data], laidTests := true, laidLooks := .later }
def SurveyTrianglesCardSaid : Prop := Claim7.holds Tryd.pinned (.plain (OpenSpec.ofChange surveyTrianglesSpec)) surveyTrianglesCard

/-- THE TIED CARD OF 'postilionlaw11.SurveyLines'. -/
def surveyLinesCard : Claim7 := { stood := { row := surveyLinesRow, standIns := [], harness := (true, "70732bdccffe8adf23fc20b19f9c94bc4f281ab9bcdf1ae3a6ea02275f6331c2"), looks := false }, kinds := [], alts := [], laidByText := true, laidKinds := [.data], laidTests := true, laidLooks := .later }
def SurveyLinesCardSaid : Prop := Claim7.holds Tryd.pinned (.plain (OpenSpec.ofChange surveyLinesSpec)) surveyLinesCard

/-- THE TIED CARD OF 'postilionlaw11.SurveyReaches'. -/
def surveyReachesCard : Claim7 := { stood := { row := surveyReachesRow, standIns := [], harness := (true, "70732bdccffe8adf23fc20b19f9c94bc4f281ab9bcdf1ae3a6ea02275f6331c2"), looks := false }, kinds := [], alts := [], laidByText := true, laidKinds := [.data], laidTests := true, laidLooks := .later }
def SurveyReachesCardSaid : Prop := Claim7.holds Tryd.pinned (.plain (OpenSpec.ofChange surveyReachesSpec)) surveyReachesCard

/-- THE SECOND FORM's CARD OF 'postilionlaw11.SurveyMatchesReference'. -/
def surveyMatchesReferenceUptoCard : Claim7 := { stood := { row := surveyMatchesReferenceUptoRow, standIns := [], harness := (true, "70732bdccffe8adf23fc20b19f9c94bc4f281ab9bcdf1ae3a6ea02275f6331c2"), looks := false }, kinds := [], alts := [], laidByText := true, laidKinds := [.data], laidTests := true, laidLooks := .later }
def SurveyMatchesReferenceUptoCardSaid : Prop := Claim7.holds Tryd.pinned (.plain (OpenSpec.upto surveyMatchesReferenceSpec)) surveyMatchesReferenceUptoCard

/-- THE SECOND FORM's CARD OF 'postilionlaw11.SurveyDistances'. -/
def surveyDistancesUptoCard : Claim7 := { stood := { row := surveyDistancesUptoRow, standIns := [], harness := (true, "70732bdccffe8adf23fc20b19f9c94bc4f281ab9bcdf1ae3a6ea02275f6331c2"), looks := false }, kinds := [], alts := [], laidByText := true, laidKinds := [.data], laidTests := true, laidLooks := .later }
def SurveyDistancesUptoCardSaid : Prop := Claim7.holds Tryd.pinned (.plain (OpenSpec.upto surveyDistancesSpec)) surveyDistancesUptoCard

/-- THE SECOND FORM's CARD OF 'postilionlaw11.SurveyTriangles'. -/
def surveyTrianglesUptoCard : Claim7 := { stood := { row := surveyTrianglesUptoRow, standIns := [], harness := (true, "70732bdccffe8adf23fc20b19f9c94bc4f281ab9bcdf1ae3a6ea02275f6331c2"), looks := false }, kinds := [], alts := [], laidByText := true, laidKinds := [.data], laidTests := true, laidLooks := .later }
def SurveyTrianglesUptoCardSaid : Prop := Claim7.holds Tryd.pinned (.plain (OpenSpec.upto surveyTrianglesSpec)) surveyTrianglesUptoCard

/-- THE SECOND FORM's CARD OF 'postilionlaw11.SurveyLines'. -/
def surveyLinesUptoCard : Claim7 := { stood := { row := surveyLinesUptoRow, standIns := [], harness := (true, "70732bdccffe8adf23fc20b19f9c94bc4f281ab9bcdf1ae3a6ea02275f6331c2"), looks := false }, kinds := [], alts := [], laidByText := true, laidKinds := [.data], laidTests := true, laidLooks := .later }
def SurveyLinesUptoCardSaid : Prop := Claim7.holds Tryd.pinned (.plain (OpenSpec.upto surveyLinesSpec)) surveyLinesUptoCard

/-- THE SECOND FORM's CARD OF 'postilionlaw11.SurveyReaches'. -/
def surveyReachesUptoCard : Claim7 := { stood := { row := surveyReachesUptoRow, standIns := [], harness := (true, "70732bdccffe8adf23fc20b19f9c94bc4f281ab9bcdf1ae3a6ea02275f6331c2"), looks := false }, kinds := [], alts := [], laidByText := true, laidKinds := [.data], laidTests := true, laidLooks := .later }
def SurveyReachesUptoCardSaid : Prop := Claim7.holds Tryd.pinned (.plain (OpenSpec.upto surveyReachesSpec)) surveyReachesUptoCard
end Rows
end Go.Proofs.YtmofcccjepbhjaaDoor
