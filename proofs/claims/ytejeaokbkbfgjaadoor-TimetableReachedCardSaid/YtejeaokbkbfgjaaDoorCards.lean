/-
  DERIVED. GIVEN WITH THE SEED: THE CARDS: each row of YtejeaokbkbfgjaaDoorRows.lean that lists a variable, with what it lists TIED to the program's text (the seventh form; the later family's looks); each row that meets fmt, with fmt's text TOLD by the authors' own Lean function (tested against real Go, not proved from fmt's source: count such statements apart). THE CARD IS WHAT COUNTS. Prove the row's statement (the work); the ties are given (YtejeaokbkbfgjaaDoorTie.lean); close each card by the builder's one call (the guide's Derived/Test/ToyasCard.lean, 'card_holds'). Laid BY PROGRAM, IN A SANDBOX (cutbox-door.mjs). By AI agents, Wed Nov 11 2026. No macro, syntax, notation, axiom, sorry.
-/
import Derived.Test.YtejeaokbkbfgjaaDoorRows
import GoSem.ClaimSeven
namespace Go.Proofs.YtejeaokbkbfgjaaDoor
namespace Rows

/-- THE TIED CARD OF 'postilionlaw13.TimetableFirst'. -/
def timetableFirstCard : Claim7 := { stood := { row := timetableFirstRow, standIns := [], harness := (true, "fdf8fa50ea587aa5aba0a5a91daef03e3390b8edf8c797b4a9c380a13dfd45cc"), looks := false }, kinds := [], alts := [], laidByText := true, laidKinds := [.data], laidTests := true, laidLooks := .later }
def TimetableFirstCardSaid : Prop := Claim7.holds Tryd.pinned (.plain (OpenSpec.ofChange timetableFirstSpec)) timetableFirstCard

/-- THE TIED CARD OF 'postilionlaw13.TimetableLater'. -/
def timetableLaterCard : Claim7 := { stood := { row := timetableLaterRow, standIns := [], harness := (true, "fdf8fa50ea587aa5aba0a5a91daef03e3390b8edf8c797b4a9c380a13dfd45cc"), looks := false }, kinds := [], alts := [], laidByText := true, laidKinds := [.data], laidTests := true, laidLooks := .later }
def TimetableLaterCardSaid : Prop := Claim7.holds Tryd.pinned (.plain (OpenSpec.ofChange timetableLaterSpec)) timetableLaterCard

/-- THE TIED CARD OF 'postilionlaw13.TimetableLists'. -/
def timetableListsCard : Claim7 := { stood := { row := timetableListsRow, standIns := [], harness := (true, "fdf8fa50ea587aa5aba0a5a91daef03e3390b8edf8c797b4a9c380a13dfd45cc"), looks := false }, kinds := [], alts := [], laidByText := true, laidKinds := [.data], laidTests := true, laidLooks := .later }
def TimetableListsCardSaid : Prop := Claim7.holds Tryd.pinned (.plain (OpenSpec.ofChange timetableListsSpec)) timetableListsCard

/-- THE TIED CARD OF 'postilionlaw13.TimetableWait'. -/
def timetableWaitCard : Claim7 := { stood := { row := timetableWaitRow, standIns := [], harness := (true, "fdf8fa50ea587aa5aba0a5a91daef03e3390b8edf8c797b4a9c380a13dfd45cc"), looks := false }, kinds := [], alts := [], laidByText := true, laidKinds := [.data], laidTests := true, laidLooks := .later }
def TimetableWaitCardSaid : Prop := Claim7.holds Tryd.pinned (.plain (OpenSpec.ofChange timetableWaitSpec)) timetableWaitCard

/-- THE TIED CARD OF 'postilionlaw13.TimetableReached'. -/
def timetableReachedCard : Claim7 := { stood := { row := timetableReachedRow, standIns := [], harness := (true, "fdf8fa50ea587aa5aba0a5a91daef03e3390b8edf8c797b4a9c380a13dfd45cc"), looks := false }, kinds := [], alts := [], laidByText := true, laidKinds := [.data], laidTests := true, laidLooks := .later }
def TimetableReachedCardSaid : Prop := Claim7.holds Tryd.pinned (.plain (OpenSpec.ofChange timetableReachedSpec)) timetableReachedCard

/-- THE TIED CARD OF 'postilionlaw13.TimetableHolidays'. -/
def timetableHolidaysCard : Claim7 := { stood := { row := timetableHolidaysRow, standIns := [], harness := (true, "fdf8fa50ea587aa5aba0a5a91daef03e3390b8edf8c797b4a9c380a13dfd45cc"), looks := false }, kinds := [], alts := [], laidByText := true, laidKinds := [.data], laidTests := true, laidLooks := .later }
def TimetableHolidaysCardSaid : Prop := Claim7.holds Tryd.pinned (.plain (OpenSpec.ofChange timetableHolidaysSpec)) timetableHolidaysCard

/-- THE SECOND FORM's CARD OF 'postilionlaw13.TimetableFirst'. -/
def timetableFirstUptoCard : Claim7 := { stood := { row := timetableFirstUptoRow, standIns := [], harness := (true, "fdf8fa50ea587aa5aba0a5a91daef03e3390b8edf8c797b4a9c380a13dfd45cc"), looks := false }, kinds := [], alts := [], laidByText := true, laidKinds := [.data], laidTests := true, laidLooks := .later }
def TimetableFirstUptoCardSaid : Prop := Claim7.holds Tryd.pinned (.plain (OpenSpec.upto timetableFirstSpec)) timetableFirstUptoCard

/-- THE SECOND FORM's CARD OF 'postilionlaw13.TimetableLater'. -/
def timetableLaterUptoCard : Claim7 := { stood := { row := timetableLaterUptoRow, standIns := [], harness := (true, "fdf8fa50ea587aa5aba0a5a91daef03e3390b8edf8c797b4a9c380a13dfd45cc"), looks := false }, kinds := [], alts := [], laidByText := true, laidKinds := [.data], laidTests := true, laidLooks := .later }
def TimetableLaterUptoCardSaid : Prop := Claim7.holds Tryd.pinned (.plain (OpenSpec.upto timetableLaterSpec)) timetableLaterUptoCard

/-- THE SECOND FORM's CARD OF 'postilionlaw13.TimetableLists'. -/
def timetableListsUptoCard : Claim7 := { stood := { row := timetableListsUptoRow, standIns := [], harness := (true, "fdf8fa50ea587aa5aba0a5a91daef03e3390b8edf8c797b4a9c380a13dfd45cc"), looks := false }, kinds := [], alts := [], laidByText := true, laidKinds := [.data], laidTests := true, laidLooks := .later }
def TimetableListsUptoCardSaid : Prop := Claim7.holds Tryd.pinned (.plain (OpenSpec.upto timetableListsSpec)) timetableListsUptoCard

/-- THE SECOND FORM's CARD OF 'postilionlaw13.TimetableWait'. -/
def timetableWaitUptoCard : Claim7 := { stood := { row := timetableWaitUptoRow, standIns := [], harness := (true, "fdf8fa50ea587aa5aba0a5a91daef03e3390b8edf8c797b4a9c380a13dfd45cc"), looks := false }, kinds := [], alts := [], laidByText := true, laidKinds := [.data], laidTests := true, laidLooks := .later }
def TimetableWaitUptoCardSaid : Prop := Claim7.holds Tryd.pinned (.plain (OpenSpec.upto timetableWaitSpec)) timetableWaitUptoCard

/-- THE SECOND FORM's CARD OF 'postilionlaw13.TimetableReached'. -/
def timetableReachedUptoCard : Claim7 := { stood := { row := timetableReachedUptoRow, standIns := [], harness := (true, "fdf8fa50ea587aa5aba0a5a91daef03e3390b8edf8c797b4a9c380a13dfd45cc"), looks := false }, kinds := [], alts := [], laidByText := true, laidKinds := [.data], laidTests := true, laidLooks := .later }
def TimetableReachedUptoCardSaid : Prop := Claim7.holds Tryd.pinned (.plain (OpenSpec.upto timetableReachedSpec)) timetableReachedUptoCard

/-- THE SECOND FORM's CARD OF 'postilionlaw13.TimetableHolidays'. -/
def timetableHolidaysUptoCard : Claim7 := { stood := { row := timetableHolidaysUptoRow, standIns := [], harness := (true, "fdf8fa50ea587aa5aba0a5a91daef03e3390b8edf8c797b4a9c380a13dfd45cc"), looks := false }, kinds := [], alts := [], laidByText := true, laidKinds := [.data], laidTests := true, laidLooks := .later }
def TimetableHolidaysUptoCardSaid : Prop := Claim7.holds Tryd.pinned (.plain (OpenSpec.upto timetableHolidaysSpec)) timetableHolidaysUptoCard
end Rows
end Go.Proofs.YtejeaokbkbfgjaaDoor
