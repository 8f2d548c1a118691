/-
  DERIVED. GIVEN WITH THE SEED: THE CARDS: each row of YtlobbofhlcjlmaaGreatDoorRows.lean that lists a variable, with what it lists TIED to the program's text (the seventh form; the later family's looks); each row that meets fmt, with fmt's text TOLD by the authors' own Lean function (tested against real Go, not proved from fmt's source: count such statements apart). THE CARD IS WHAT COUNTS. Prove the row's statement (the work); the ties are given (YtlobbofhlcjlmaaGreatDoorTie.lean); close each card by the builder's one call (the guide's Derived/Test/ToyasCard.lean, 'card_holds'). Laid BY PROGRAM, IN A SANDBOX (cutbox-door.mjs). By AI agents, Wed Nov 11 2026. No macro, syntax, notation, axiom, sorry.
-/
import Derived.Test.YtlobbofhlcjlmaaGreatDoorRows
import GoSem.ClaimSeven
namespace Go.Proofs.YtlobbofhlcjlmaaGreatDoor
namespace Rows

/-- THE TIED CARD OF 'postilionlaw19.InspectTrue'. -/
def inspectTrueCard : Claim7 := { stood := { row := inspectTrueRow, standIns := [], harness := (true, "1589f7aeae2c93f1c26f2eaf270715b8122d050927f0a0cdc3a3d7c2714a56fa"), looks := true }, kinds := [], alts := [], laidByText := true, laidKinds := [.data], laidTests := true, laidLooks := .later }
def InspectTrueCardSaid : Prop := Claim7.holds Tryz.pinned (.plain (OpenSpec.ofChange inspectTrueSpec)) inspectTrueCard

/-- THE TIED CARD OF 'postilionlaw19.InspectAccepts'. -/
def inspectAcceptsCard : Claim7 := { stood := { row := inspectAcceptsRow, standIns := [], harness := (true, "1589f7aeae2c93f1c26f2eaf270715b8122d050927f0a0cdc3a3d7c2714a56fa"), looks := true }, kinds := [], alts := [], laidByText := true, laidKinds := [.data], laidTests := true, laidLooks := .later }
def InspectAcceptsCardSaid : Prop := Claim7.holds Tryz.pinned (.plain (OpenSpec.ofChange inspectAcceptsSpec)) inspectAcceptsCard

/-- THE SECOND FORM's CARD OF 'postilionlaw19.InspectTrue'. -/
def inspectTrueUptoCard : Claim7 := { stood := { row := inspectTrueUptoRow, standIns := [], harness := (true, "1589f7aeae2c93f1c26f2eaf270715b8122d050927f0a0cdc3a3d7c2714a56fa"), looks := true }, kinds := [], alts := [], laidByText := true, laidKinds := [.data], laidTests := true, laidLooks := .later }
def InspectTrueUptoCardSaid : Prop := Claim7.holds Tryz.pinned (.plain (OpenSpec.upto inspectTrueSpec)) inspectTrueUptoCard

/-- THE SECOND FORM's CARD OF 'postilionlaw19.InspectAccepts'. -/
def inspectAcceptsUptoCard : Claim7 := { stood := { row := inspectAcceptsUptoRow, standIns := [], harness := (true, "1589f7aeae2c93f1c26f2eaf270715b8122d050927f0a0cdc3a3d7c2714a56fa"), looks := true }, kinds := [], alts := [], laidByText := true, laidKinds := [.data], laidTests := true, laidLooks := .later }
def InspectAcceptsUptoCardSaid : Prop := Claim7.holds Tryz.pinned (.plain (OpenSpec.upto inspectAcceptsSpec)) inspectAcceptsUptoCard
end Rows
end Go.Proofs.YtlobbofhlcjlmaaGreatDoor
