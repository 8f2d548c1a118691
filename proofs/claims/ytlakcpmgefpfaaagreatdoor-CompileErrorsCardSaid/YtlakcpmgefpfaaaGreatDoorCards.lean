/-
  DERIVED. GIVEN WITH THE SEED: THE CARDS: each row of YtlakcpmgefpfaaaGreatDoorRows.lean that lists a variable, with what it lists TIED to the program's text (the seventh form; the later family's looks); each row that meets fmt, with fmt's text TOLD by the authors' own Lean function (tested against real Go, not proved from fmt's source: count such statements apart). THE CARD IS WHAT COUNTS. Prove the row's statement (the work); the ties are given (YtlakcpmgefpfaaaGreatDoorTie.lean); close each card by the builder's one call (the guide's Derived/Test/ToyasCard.lean, 'card_holds'). Laid BY PROGRAM, IN A SANDBOX (cutbox-door.mjs). By AI agents, Wed Nov 11 2026. No macro, syntax, notation, axiom, sorry.
-/
import Derived.Test.YtlakcpmgefpfaaaGreatDoorRows
import GoSem.ClaimSeven
namespace Go.Proofs.YtlakcpmgefpfaaaGreatDoor
namespace Rows

/-- THE TIED CARD OF 'postilionlaw21.CompileGroups'. -/
def compileGroupsCard : Claim7 := { stood := { row := compileGroupsRow, standIns := [], harness := (true, "6c010faa3433c819d2cfc3b11268bd8050d496e0cd10985083fc1a8a324e33fb"), looks := true }, kinds := [], alts := [], laidByText := true, laidKinds := [.data], laidTests := true, laidLooks := .later }
def CompileGroupsCardSaid : Prop := Claim7.holds Tryz.pinned (.plain (OpenSpec.ofChange compileGroupsSpec)) compileGroupsCard

/-- THE TIED CARD OF 'postilionlaw21.CompileDays'. -/
def compileDaysCard : Claim7 := { stood := { row := compileDaysRow, standIns := [], harness := (true, "6c010faa3433c819d2cfc3b11268bd8050d496e0cd10985083fc1a8a324e33fb"), looks := true }, kinds := [], alts := [], laidByText := true, laidKinds := [.data], laidTests := true, laidLooks := .later }
def CompileDaysCardSaid : Prop := Claim7.holds Tryz.pinned (.plain (OpenSpec.ofChange compileDaysSpec)) compileDaysCard

/-- THE TIED CARD OF 'postilionlaw21.CompileErrors'. -/
def compileErrorsCard : Claim7 := { stood := { row := compileErrorsRow, standIns := [], harness := (true, "6c010faa3433c819d2cfc3b11268bd8050d496e0cd10985083fc1a8a324e33fb"), looks := true }, kinds := [], alts := [], laidByText := true, laidKinds := [.data], laidTests := true, laidLooks := .later }
def CompileErrorsCardSaid : Prop := Claim7.holds Tryz.pinned (.plain (OpenSpec.ofChange compileErrorsSpec)) compileErrorsCard

/-- THE TIED CARD OF 'postilionlaw21.CompilePlans'. -/
def compilePlansCard : Claim7 := { stood := { row := compilePlansRow, standIns := [], harness := (true, "6c010faa3433c819d2cfc3b11268bd8050d496e0cd10985083fc1a8a324e33fb"), looks := true }, kinds := [], alts := [], laidByText := true, laidKinds := [.data], laidTests := true, laidLooks := .later }
def CompilePlansCardSaid : Prop := Claim7.holds Tryz.pinned (.plain (OpenSpec.ofChange compilePlansSpec)) compilePlansCard

/-- THE TIED CARD OF 'postilionlaw21.CompileSorts'. -/
def compileSortsCard : Claim7 := { stood := { row := compileSortsRow, standIns := [], harness := (true, "6c010faa3433c819d2cfc3b11268bd8050d496e0cd10985083fc1a8a324e33fb"), looks := true }, kinds := [], alts := [], laidByText := true, laidKinds := [.data], laidTests := true, laidLooks := .later }
def CompileSortsCardSaid : Prop := Claim7.holds Tryz.pinned (.plain (OpenSpec.ofChange compileSortsSpec)) compileSortsCard

/-- THE TIED CARD OF 'postilionlaw21.CompilePromises'. -/
def compilePromisesCard : Claim7 := { stood := { row := compilePromisesRow, standIns := [], harness := (true, "6c010faa3433c819d2cfc3b11268bd8050d496e0cd10985083fc1a8a324e33fb"), looks := true }, kinds := [], alts := [], laidByText := true, laidKinds := [.data], laidTests := true, laidLooks := .later }
def CompilePromisesCardSaid : Prop := Claim7.holds Tryz.pinned (.plain (OpenSpec.ofChange compilePromisesSpec)) compilePromisesCard

/-- THE SECOND FORM's CARD OF 'postilionlaw21.CompileGroups'. -/
def compileGroupsUptoCard : Claim7 := { stood := { row := compileGroupsUptoRow, standIns := [], harness := (true, "6c010faa3433c819d2cfc3b11268bd8050d496e0cd10985083fc1a8a324e33fb"), looks := true }, kinds := [], alts := [], laidByText := true, laidKinds := [.data], laidTests := true, laidLooks := .later }
def CompileGroupsUptoCardSaid : Prop := Claim7.holds Tryz.pinned (.plain (OpenSpec.upto compileGroupsSpec)) compileGroupsUptoCard

/-- THE SECOND FORM's CARD OF 'postilionlaw21.CompileDays'. -/
def compileDaysUptoCard : Claim7 := { stood := { row := compileDaysUptoRow, standIns := [], harness := (true, "6c010faa3433c819d2cfc3b11268bd8050d496e0cd10985083fc1a8a324e33fb"), looks := true }, kinds := [], alts := [], laidByText := true, laidKinds := [.data], laidTests := true, laidLooks := .later }
def CompileDaysUptoCardSaid : Prop := Claim7.holds Tryz.pinned (.plain (OpenSpec.upto compileDaysSpec)) compileDaysUptoCard

/-- THE SECOND FORM's CARD OF 'postilionlaw21.CompileErrors'. -/
def compileErrorsUptoCard : Claim7 := { stood := { row := compileErrorsUptoRow, standIns := [], harness := (true, "6c010faa3433c819d2cfc3b11268bd8050d496e0cd10985083fc1a8a324e33fb"), looks := true }, kinds := [], alts := [], laidByText := true, laidKinds := [.data], laidTests := true, laidLooks := .later }
def CompileErrorsUptoCardSaid : Prop := Claim7.holds Tryz.pinned (.plain (OpenSpec.upto compileErrorsSpec)) compileErrorsUptoCard

/-- THE SECOND FORM's CARD OF 'postilionlaw21.CompilePlans'. -/
def compilePlansUptoCard : Claim7 := { stood := { row := compilePlansUptoRow, standIns := [], harness := (true, "6c010faa3433c819d2cfc3b11268bd8050d496e0cd10985083fc1a8a324e33fb"), looks := true }, kinds := [], alts := [], laidByText := true, laidKinds := [.data], laidTests := true, laidLooks := .later }
def CompilePlansUptoCardSaid : Prop := Claim7.holds Tryz.pinned (.plain (OpenSpec.upto compilePlansSpec)) compilePlansUptoCard

/-- THE SECOND FORM's CARD OF 'postilionlaw21.CompileSorts'. -/
def compileSortsUptoCard : Claim7 := { stood := { row := compileSortsUptoRow, standIns := [], harness := (true, "6c010faa3433c819d2cfc3b11268bd8050d496e0cd10985083fc1a8a324e33fb"), looks := true }, kinds := [], alts := [], laidByText := true, laidKinds := [.data], laidTests := true, laidLooks := .later }
def CompileSortsUptoCardSaid : Prop := Claim7.holds Tryz.pinned (.plain (OpenSpec.upto compileSortsSpec)) compileSortsUptoCard

/-- THE SECOND FORM's CARD OF 'postilionlaw21.CompilePromises'. -/
def compilePromisesUptoCard : Claim7 := { stood := { row := compilePromisesUptoRow, standIns := [], harness := (true, "6c010faa3433c819d2cfc3b11268bd8050d496e0cd10985083fc1a8a324e33fb"), looks := true }, kinds := [], alts := [], laidByText := true, laidKinds := [.data], laidTests := true, laidLooks := .later }
def CompilePromisesUptoCardSaid : Prop := Claim7.holds Tryz.pinned (.plain (OpenSpec.upto compilePromisesSpec)) compilePromisesUptoCard
end Rows
end Go.Proofs.YtlakcpmgefpfaaaGreatDoor
