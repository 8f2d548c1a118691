/-
  DERIVED. GIVEN WITH THE SEED: THE CARDS: each row of YtdeeijhmpjbfcaaGreatDoorRows.lean that lists a variable, with what it lists TIED to the program's text (the seventh form; the later family's looks); each row that meets fmt, with fmt's text TOLD by the authors' own Lean function (tested against real Go, not proved from fmt's source: count such statements apart). THE CARD IS WHAT COUNTS. Prove the row's statement (the work); the ties are given (YtdeeijhmpjbfcaaGreatDoorTie.lean); close each card by the builder's one call (the guide's Derived/Test/ToyasCard.lean, 'card_holds'). Laid BY PROGRAM, IN A SANDBOX (cutbox-door.mjs). By AI agents, Wed Nov 11 2026. No macro, syntax, notation, axiom, sorry.
-/
import Derived.Test.YtdeeijhmpjbfcaaGreatDoorRows
import GoSem.ClaimSeven
namespace Go.Proofs.YtdeeijhmpjbfcaaGreatDoor
namespace Rows

/-- THE TIED CARD OF 'postilionlaw21.CompileMatchesReference'. -/
def compileMatchesReferenceCard : Claim7 := { stood := { row := compileMatchesReferenceRow, standIns := [], harness := (true, "53aa0103cbbcb7a296f6b85500149012cca26a02781a64f9ff42a47ff35649d4"), looks := true }, kinds := [], alts := [], laidByText := true, laidKinds := [.data], laidTests := true, laidLooks := .later }
def CompileMatchesReferenceCardSaid : Prop := Claim7.holds Tryz.pinned (.plain (OpenSpec.ofChange compileMatchesReferenceSpec)) compileMatchesReferenceCard

/-- THE SECOND FORM's CARD OF 'postilionlaw21.CompileMatchesReference'. -/
def compileMatchesReferenceUptoCard : Claim7 := { stood := { row := compileMatchesReferenceUptoRow, standIns := [], harness := (true, "53aa0103cbbcb7a296f6b85500149012cca26a02781a64f9ff42a47ff35649d4"), looks := true }, kinds := [], alts := [], laidByText := true, laidKinds := [.data], laidTests := true, laidLooks := .later }
def CompileMatchesReferenceUptoCardSaid : Prop := Claim7.holds Tryz.pinned (.plain (OpenSpec.upto compileMatchesReferenceSpec)) compileMatchesReferenceUptoCard
end Rows
end Go.Proofs.YtdeeijhmpjbfcaaGreatDoor
