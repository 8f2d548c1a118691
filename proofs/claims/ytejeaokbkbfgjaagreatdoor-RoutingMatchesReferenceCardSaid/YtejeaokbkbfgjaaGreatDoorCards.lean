/-
  DERIVED. GIVEN WITH THE SEED: THE CARDS: each row of YtejeaokbkbfgjaaGreatDoorRows.lean that lists a variable, with what it lists TIED to the program's text (the seventh form; the later family's looks); each row that meets fmt, with fmt's text TOLD by the authors' own Lean function (tested against real Go, not proved from fmt's source: count such statements apart). THE CARD IS WHAT COUNTS. Prove the row's statement (the work); the ties are given (YtejeaokbkbfgjaaGreatDoorTie.lean); close each card by the builder's one call (the guide's Derived/Test/ToyasCard.lean, 'card_holds'). Laid BY PROGRAM, IN A SANDBOX (cutbox-door.mjs). By AI agents, Wed Nov 11 2026. No macro, syntax, notation, axiom, sorry.
-/
import Derived.Test.YtejeaokbkbfgjaaGreatDoorRows
import GoSem.ClaimSeven
namespace Go.Proofs.YtejeaokbkbfgjaaGreatDoor
namespace Rows

/-- THE TIED CARD OF 'postilionlaw13.TimetableMatchesReference'. -/
def timetableMatchesReferenceCard : Claim7 := { stood := { row := timetableMatchesReferenceRow, standIns := [], harness := (true, "de2741a30ca49095f5b40f6ed704698c2598b58f8bf480234fac179d702db8bd"), looks := false }, kinds := [], alts := [], laidByText := true, laidKinds := [.data], laidTests := true, laidLooks := .later }
def TimetableMatchesReferenceCardSaid : Prop := Claim7.holds Tryz.pinned (.plain (OpenSpec.ofChange timetableMatchesReferenceSpec)) timetableMatchesReferenceCard

/-- THE TIED CARD OF 'postilionlaw16.RoutingMatchesReference'. -/
def routingMatchesReferenceCard : Claim7 := { stood := { row := routingMatchesReferenceRow, standIns := [], harness := (true, "de2741a30ca49095f5b40f6ed704698c2598b58f8bf480234fac179d702db8bd"), looks := false }, kinds := [], alts := [], laidByText := true, laidKinds := [.data], laidTests := true, laidLooks := .later }
def RoutingMatchesReferenceCardSaid : Prop := Claim7.holds Tryz.pinned (.plain (OpenSpec.ofChange routingMatchesReferenceSpec)) routingMatchesReferenceCard

/-- THE TIED CARD OF 'postilionlaw16.RoutingSteps'. -/
def routingStepsCard : Claim7 := { stood := { row := routingStepsRow, standIns := [], harness := (true, "de2741a30ca49095f5b40f6ed704698c2598b58f8bf480234fac179d702db8bd"), looks := false }, kinds := [], alts := [], laidByText := true, laidKinds := [.data], laidTests := true, laidLooks := .later }
def RoutingStepsCardSaid : Prop := Claim7.holds Tryz.pinned (.plain (OpenSpec.ofChange routingStepsSpec)) routingStepsCard

/-- THE TIED CARD OF 'postilionlaw16.RoutingLeast'. -/
def routingLeastCard : Claim7 := { stood := { row := routingLeastRow, standIns := [], harness := (true, "de2741a30ca49095f5b40f6ed704698c2598b58f8bf480234fac179d702db8bd"), looks := false }, kinds := [], alts := [], laidByText := true, laidKinds := [.data], laidTests := true, laidLooks := .later }
def RoutingLeastCardSaid : Prop := Claim7.holds Tryz.pinned (.plain (OpenSpec.ofChange routingLeastSpec)) routingLeastCard

/-- THE TIED CARD OF 'postilionlaw16.RoutingStar'. -/
def routingStarCard : Claim7 := { stood := { row := routingStarRow, standIns := [], harness := (true, "de2741a30ca49095f5b40f6ed704698c2598b58f8bf480234fac179d702db8bd"), looks := false }, kinds := [], alts := [], laidByText := true, laidKinds := [.data], laidTests := true, laidLooks := .later }
def RoutingStarCardSaid : Prop := Claim7.holds Tryz.pinned (.plain (OpenSpec.ofChange routingStarSpec)) routingStarCard

/-- THE TIED CARD OF 'postilionlaw16.RoutingRanges'. -/
def routingRangesCard : Claim7 := { stood := { row := routingRangesRow, standIns := [], harness := (true, "de2741a30ca49095f5b40f6ed704698c2598b58f8bf480234fac179d702db8bd"), looks := false }, kinds := [], alts := [], laidByText := true, laidKinds := [.data], laidTests := true, laidLooks := .later }
def RoutingRangesCardSaid : Prop := Claim7.holds Tryz.pinned (.plain (OpenSpec.ofChange routingRangesSpec)) routingRangesCard

/-- THE TIED CARD OF 'postilionlaw16.RoutingLines'. -/
def routingLinesCard : Claim7 := { stood := { row := routingLinesRow, standIns := [], harness := (true, "de2741a30ca49095f5b40f6ed704698c2598b58f8bf480234fac179d702db8bd"), looks := false }, kinds := [], alts := [], laidByText := true, laidKinds := [.data], laidTests := true, laidLooks := .later }
def RoutingLinesCardSaid : Prop := Claim7.holds Tryz.pinned (.plain (OpenSpec.ofChange routingLinesSpec)) routingLinesCard

/-- THE TIED CARD OF 'postilionlaw16.RoutingTime'. -/
def routingTimeCard : Claim7 := { stood := { row := routingTimeRow, standIns := [], harness := (true, "de2741a30ca49095f5b40f6ed704698c2598b58f8bf480234fac179d702db8bd"), looks := false }, kinds := [], alts := [], laidByText := true, laidKinds := [.data], laidTests := true, laidLooks := .later }
def RoutingTimeCardSaid : Prop := Claim7.holds Tryz.pinned (.plain (OpenSpec.ofChange routingTimeSpec)) routingTimeCard

/-- THE SECOND FORM's CARD OF 'postilionlaw13.TimetableMatchesReference'. -/
def timetableMatchesReferenceUptoCard : Claim7 := { stood := { row := timetableMatchesReferenceUptoRow, standIns := [], harness := (true, "de2741a30ca49095f5b40f6ed704698c2598b58f8bf480234fac179d702db8bd"), looks := false }, kinds := [], alts := [], laidByText := true, laidKinds := [.data], laidTests := true, laidLooks := .later }
def TimetableMatchesReferenceUptoCardSaid : Prop := Claim7.holds Tryz.pinned (.plain (OpenSpec.upto timetableMatchesReferenceSpec)) timetableMatchesReferenceUptoCard

/-- THE SECOND FORM's CARD OF 'postilionlaw16.RoutingMatchesReference'. -/
def routingMatchesReferenceUptoCard : Claim7 := { stood := { row := routingMatchesReferenceUptoRow, standIns := [], harness := (true, "de2741a30ca49095f5b40f6ed704698c2598b58f8bf480234fac179d702db8bd"), looks := false }, kinds := [], alts := [], laidByText := true, laidKinds := [.data], laidTests := true, laidLooks := .later }
def RoutingMatchesReferenceUptoCardSaid : Prop := Claim7.holds Tryz.pinned (.plain (OpenSpec.upto routingMatchesReferenceSpec)) routingMatchesReferenceUptoCard

/-- THE SECOND FORM's CARD OF 'postilionlaw16.RoutingSteps'. -/
def routingStepsUptoCard : Claim7 := { stood := { row := routingStepsUptoRow, standIns := [], harness := (true, "de2741a30ca49095f5b40f6ed704698c2598b58f8bf480234fac179d702db8bd"), looks := false }, kinds := [], alts := [], laidByText := true, laidKinds := [.data], laidTests := true, laidLooks := .later }
def RoutingStepsUptoCardSaid : Prop := Claim7.holds Tryz.pinned (.plain (OpenSpec.upto routingStepsSpec)) routingStepsUptoCard

/-- THE SECOND FORM's CARD OF 'postilionlaw16.RoutingLeast'. -/
def routingLeastUptoCard : Claim7 := { stood := { row := routingLeastUptoRow, standIns := [], harness := (true, "de2741a30ca49095f5b40f6ed704698c2598b58f8bf480234fac179d702db8bd"), looks := false }, kinds := [], alts := [], laidByText := true, laidKinds := [.data], laidTests := true, laidLooks := .later }
def RoutingLeastUptoCardSaid : Prop := Claim7.holds Tryz.pinned (.plain (OpenSpec.upto routingLeastSpec)) routingLeastUptoCard

/-- THE SECOND FORM's CARD OF 'postilionlaw16.RoutingStar'. -/
def routingStarUptoCard : Claim7 := { stood := { row := routingStarUptoRow, standIns := [], harness := (true, "de2741a30ca49095f5b40f6ed704698c2598b58f8bf480234fac179d702db8bd"), looks := false }, kinds := [], alts := [], laidByText := true, laidKinds := [.data], laidTests := true, laidLooks := .later }
def RoutingStarUptoCardSaid : Prop := Claim7.holds Tryz.pinned (.plain (OpenSpec.upto routingStarSpec)) routingStarUptoCard

/-- THE SECOND FORM's CARD OF 'postilionlaw16.RoutingRanges'. -/
def routingRangesUptoCard : Claim7 := { stood := { row := routingRangesUptoRow, standIns := [], harness := (true, "de2741a30ca49095f5b40f6ed704698c2598b58f8bf480234fac179d702db8bd"), looks := false }, kinds := [], alts := [], laidByText := true, laidKinds := [.data], laidTests := true, laidLooks := .later }
def RoutingRangesUptoCardSaid : Prop := Claim7.holds Tryz.pinned (.plain (OpenSpec.upto routingRangesSpec)) routingRangesUptoCard

/-- THE SECOND FORM's CARD OF 'postilionlaw16.RoutingLines'. -/
def routingLinesUptoCard : Claim7 := { stood := { row := routingLinesUptoRow, standIns := [], harness := (true, "de2741a30ca49095f5b40f6ed704698c2598b58f8bf480234fac179d702db8bd"), looks := false }, kinds := [], alts := [], laidByText := true, laidKinds := [.data], laidTests := true, laidLooks := .later }
def RoutingLinesUptoCardSaid : Prop := Claim7.holds Tryz.pinned (.plain (OpenSpec.upto routingLinesSpec)) routingLinesUptoCard

/-- THE SECOND FORM's CARD OF 'postilionlaw16.RoutingTime'. -/
def routingTimeUptoCard : Claim7 := { stood := { row := routingTimeUptoRow, standIns := [], harness := (true, "de2741a30ca49095f5b40f6ed704698c2598b58f8bf480234fac179d702db8bd"), looks := false }, kinds := [], alts := [], laidByText := true, laidKinds := [.data], laidTests := true, laidLooks := .later }
def RoutingTimeUptoCardSaid : Prop := Claim7.holds Tryz.pinned (.plain (OpenSpec.upto routingTimeSpec)) routingTimeUptoCard
end Rows
end Go.Proofs.YtejeaokbkbfgjaaGreatDoor
