/-
  DERIVED. GIVEN WITH THE SEED: THE CARDS: each row of YtmofcccjepbhjabDoorRows.lean that lists a variable, with what it lists TIED to the program's text (the seventh form; the later family's looks); each row that meets fmt, with fmt's text TOLD by the authors' own Lean function (tested against real Go, not proved from fmt's source: count such statements apart). THE CARD IS WHAT COUNTS. Prove the row's statement (the work); the ties are given (YtmofcccjepbhjabDoorTie.lean); close each card by the builder's one call (the guide's Derived/Test/ToyasCard.lean, 'card_holds'). Laid BY PROGRAM, IN A SANDBOX (cutbox-door.mjs). By AI agents, Wed Nov 11 2026. No macro, syntax, notation, axiom, sorry.
-/
import Derived.Test.YtmofcccjepbhjabDoorRows
import GoSem.ClaimSeven
namespace Go.Proofs.YtmofcccjepbhjabDoor
namespace Rows

/-- THE TIED CARD OF 'postilionlaw11.SurveyBeginnings'. -/
def surveyBeginningsCard : Claim7 := { stood := { row := surveyBeginningsRow, standIns := [], harness := (true, "62dc42abaceb0a67ba43f9107c149f5455ac18f55110d3fea30408d7699ba5e0"), looks := false }, kinds := [], alts := [], laidByText := true, laidKinds := [.data], laidTests := true, laidLooks := .later }
def SurveyBeginningsCardSaid : Prop := Claim7.holds Tryd.pinned (.plain (OpenSpec.ofChange surveyBeginningsSpec)) surveyBeginningsCard

/-- THE TIED CARD OF 'postilionlaw11.SurveyOwners'. -/
def surveyOwnersCard : Claim7 := { stood := { row := surveyOwnersRow, standIns := [], harness := (true, "62dc42abaceb0a67ba43f9107c149f5455ac18f55110d3fea30408d7699ba5e0"), looks := false }, kinds := [], alts := [], laidByText := true, laidKinds := [.data], laidTests := true, laidLooks := .later }
def SurveyOwnersCardSaid : Prop := Claim7.holds Tryd.pinned (.plain (OpenSpec.ofChange surveyOwnersSpec)) surveyOwnersCard

/-- THE TIED CARD OF 'postilionlaw11.SurveyNames'. -/
def surveyNamesCard : Claim7 := { stood := { row := surveyNamesRow, standIns := [], harness := (true, "62dc42abaceb0a67ba43f9107c149f5455ac18f55110d3fea30408d7699ba5e0"), looks := false }, kinds := [], alts := [], laidByText := true, laidKinds := [.data], laidTests := true, laidLooks := .later }
def SurveyNamesCardSaid : Prop := Claim7.holds Tryd.pinned (.plain (OpenSpec.ofChange surveyNamesSpec)) surveyNamesCard

/-- THE TIED CARD OF 'postilionlaw13.TimetableFirst'. -/
def timetableFirstCard : Claim7 := { stood := { row := timetableFirstRow, standIns := [], harness := (true, "62dc42abaceb0a67ba43f9107c149f5455ac18f55110d3fea30408d7699ba5e0"), looks := false }, kinds := [], alts := [], laidByText := true, laidKinds := [.data], laidTests := true, laidLooks := .later }
def TimetableFirstCardSaid : Prop := Claim7.holds Tryd.pinned (.plain (OpenSpec.ofChange timetableFirstSpec)) timetableFirstCard

/-- THE TIED CARD OF 'postilionlaw13.TimetableLater'. -/
def timetableLaterCard : Claim7 := { stood := { row := timetableLaterRow, standIns := [], harness := (true, "62dc42abaceb0a67ba43f9107c149f5455ac18f55110d3fea30408d7699ba5e0"), looks := false }, kinds := [], alts := [], laidByText := true, laidKinds := [.data], laidTests := true, laidLooks := .later }
def TimetableLaterCardSaid : Prop := Claim7.holds Tryd.pinned (.plain (OpenSpec.ofChange timetableLaterSpec)) timetableLaterCard

/-- THE TIED CARD OF 'postilionlaw13.TimetableLists'. -/
def timetableListsCard : Claim7 := { stood := { row := timetableListsRow, standIns := [], harness := (true, "62dc42abaceb0a67ba43f9107c149f5455ac18f55110d3fea30408d7699ba5e0"), looks := false }, kinds := [], alts := [], laidByText := true, laidKinds := [.data], laidTests := true, laidLooks := .later }
def TimetableListsCardSaid : Prop := Claim7.holds Tryd.pinned (.plain (OpenSpec.ofChange timetableListsSpec)) timetableListsCard

/-- THE TIED CARD OF 'postilionlaw13.TimetableWait'. -/
def timetableWaitCard : Claim7 := { stood := { row := timetableWaitRow, standIns := [], harness := (true, "62dc42abaceb0a67ba43f9107c149f5455ac18f55110d3fea30408d7699ba5e0"), looks := false }, kinds := [], alts := [], laidByText := true, laidKinds := [.data], laidTests := true, laidLooks := .later }
def TimetableWaitCardSaid : Prop := Claim7.holds Tryd.pinned (.plain (OpenSpec.ofChange timetableWaitSpec)) timetableWaitCard

/-- THE TIED CARD OF 'postilionlaw13.TimetableReached'. -/
def timetableReachedCard : Claim7 := { stood := { row := timetableReachedRow, standIns := [], harness := (true, "62dc42abaceb0a67ba43f9107c149f5455ac18f55110d3fea30408d7699ba5e0"), looks := false }, kinds := [], alts := [], laidByText := true, laidKinds := [.data], laidTests := true, laidLooks := .later }
def TimetableReachedCardSaid : Prop := Claim7.holds Tryd.pinned (.plain (OpenSpec.ofChange timetableReachedSpec)) timetableReachedCard

/-- THE TIED CARD OF 'postilionlaw13.TimetableHolidays'. -/
def timetableHolidaysCard : Claim7 := { stood := { row := timetableHolidaysRow, standIns := [], harness := (true, "62dc42abaceb0a67ba43f9107c149f5455ac18f55110d3fea30408d7699ba5e0"), looks := false }, kinds := [], alts := [], laidByText := true, laidKinds := [.data], laidTests := true, laidLooks := .later }
def TimetableHolidaysCardSaid : Prop := Claim7.holds Tryd.pinned (.plain (OpenSpec.ofChange timetableHolidaysSpec)) timetableHolidaysCard

/-- THE SECOND FORM's CARD OF 'postilionlaw11.SurveyBeginnings'. -/
def surveyBeginningsUptoCard : Claim7 := { stood := { row := surveyBeginningsUptoRow, standIns := [], harness := (true, "62dc42abaceb0a67ba43f9107c149f5455ac18f55110d3fea30408d7699ba5e0"), looks := false }, kinds := [], alts := [], laidByText := true, laidKinds := [.data], laidTests := true, laidLooks := .later }
def SurveyBeginningsUptoCardSaid : Prop := Claim7.holds Tryd.pinned (.plain (OpenSpec.upto surveyBeginningsSpec)) surveyBeginningsUptoCard

/-- THE SECOND FORM's CARD OF 'postilionlaw11.SurveyOwners'. -/
def surveyOwnersUptoCard : Claim7 := { stood := { row := surveyOwnersUptoRow, standIns := [], harness := (true, "62dc42abaceb0a67ba43f9107c149f5455ac18f55110d3fea30408d7699ba5e0"), looks := false }, kinds := [], alts := [], laidByText := true, laidKinds := [.data], laidTests := true, laidLooks := .later }
def SurveyOwnersUptoCardSaid : Prop := Claim7.holds Tryd.pinned (.plain (OpenSpec.upto surveyOwnersSpec)) surveyOwnersUptoCard

/-- THE SECOND FORM's CARD OF 'postilionlaw11.SurveyNames'. -/
def surveyNamesUptoCard : Claim7 := { stood := { row := surveyNamesUptoRow, standIns := [], harness := (true, "62dc42abaceb0a67ba43f9107c149f5455ac18f55110d3fea30408d7699ba5e0"), looks := false }, kinds := [], alts := [], laidByText := true, laidKinds := [.data], laidTests := true, laidLooks := .later }
def SurveyNamesUptoCardSaid : Prop := Claim7.holds Tryd.pinned (.plain (OpenSpec.upto surveyNamesSpec)) surveyNamesUptoCard

/-- THE SECOND FORM's CARD OF 'postilionlaw13.TimetableFirst'. -/
def timetableFirstUptoCard : Claim7 := { stood := { row := timetableFirstUptoRow, standIns := [], harness := (true, "62dc42abaceb0a67ba43f9107c149f5455ac18f55110d3fea30408d7699ba5e0"), looks := false }, kinds := [], alts := [], laidByText := true, laidKinds := [.data], laidTests := true, laidLooks := .later }
def TimetableFirstUptoCardSaid : Prop := Claim7.holds Tryd.pinned (.plain (OpenSpec.upto timetableFirstSpec)) timetableFirstUptoCard

/-- THE SECOND FORM's CARD OF 'postilionlaw13.TimetableLater'. -/
def timetableLaterUptoCard : Claim7 := { stood := { row := timetableLaterUptoRow, standIns := [], harness := (true, "62dc42abaceb0a67ba43f9107c149f5455ac18f55110d3fea30408d7699ba5e0"), looks := false }, kinds := [], alts := [], laidByText := true, laidKinds := [.data], laidTests := true, laidLooks := .later }
def TimetableLaterUptoCardSaid : Prop := Claim7.holds Tryd.pinned (.plain (OpenSpec.upto timetableLaterSpec)) timetableLaterUptoCard

/-- THE SECOND FORM's CARD OF 'postilionlaw13.TimetableLists'. -/
def timetableListsUptoCard : Claim7 := { stood := { row := timetableListsUptoRow, standIns := [], harness := (true, "62dc42abaceb0a67ba43f9107c149f5455ac18f55110d3fea30408d7699ba5e0"), looks := false }, kinds := [], alts := [], laidByText := true, laidKinds := [.data], laidTests := true, laidLooks := .later }
def TimetableListsUptoCardSaid : Prop := Claim7.holds Tryd.pinned (.plain (OpenSpec.upto timetableListsSpec)) timetableListsUptoCard

/-- THE SECOND FORM's CARD OF 'postilionlaw13.TimetableWait'. -/
def timetableWaitUptoCard : Claim7 := { stood := { row := timetableWaitUptoRow, standIns := [], harness := (true, "62dc42abaceb0a67ba43f9107c149f5455ac18f55110d3fea30408d7699ba5e0"), looks := false }, kinds := [], alts := [], laidByText := true, laidKinds := [.data], laidTests := true, laidLooks := .later }
def TimetableWaitUptoCardSaid : Prop := Claim7.holds Tryd.pinned (.plain (OpenSpec.upto timetableWaitSpec)) timetableWaitUptoCard

/-- THE SECOND FORM's CARD OF 'postilionlaw13.TimetableReached'. -/
def timetableReachedUptoCard : Claim7 := { stood := { row := timetableReachedUptoRow, standIns := [], harness := (true, "62dc42abaceb0a67ba43f9107c149f5455ac18f55110d3fea30408d7699ba5e0"), looks := false }, kinds := [], alts := [], laidByText := true, laidKinds := [.data], laidTests := true, laidLooks := .later }
def TimetableReachedUptoCardSaid : Prop := Claim7.holds Tryd.pinned (.plain (OpenSpec.upto timetableReachedSpec)) timetableReachedUptoCard

/-- THE SECOND FORM's CARD OF 'postilionlaw13.TimetableHolidays'. -/
def timetableHolidaysUptoCard : Claim7 := { stood := { row := timetableHolidaysUptoRow, standIns := [], harness := (true, "62dc42abaceb0a67ba43f9107c149f5455ac18f55110d3fea30408d7699ba5e0"), looks := false }, kinds := [], alts := [], laidByText := true, laidKinds := [.data], laidTests := true, laidLooks := .later }
def TimetableHolidaysUptoCardSaid : Prop := Claim7.holds Tryd.pinned (.plain (OpenSpec.upto timetableHolidaysSpec)) timetableHolidaysUptoCard
end Rows
end Go.Proofs.YtmofcccjepbhjabDoor
