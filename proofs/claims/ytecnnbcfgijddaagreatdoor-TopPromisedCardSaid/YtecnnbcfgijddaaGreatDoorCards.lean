/-
  DERIVED. GIVEN WITH THE SEED: THE CARDS: each row of YtecnnbcfgijddaaGreatDoorRows.lean that lists a variable, with what it lists TIED to the program's text (the seventh form; the later family's looks); each row that meets fmt, with fmt's text TOLD by the authors' own Lean function (tested against real Go, not proved from fmt's source: count such statements apart). THE CARD IS WHAT COUNTS. Prove the row's statement (the work); the ties are given (YtecnnbcfgijddaaGreatDoorTie.lean); close each card by the builder's one call (the guide's Derived/Test/ToyasCard.lean, 'card_holds'). Laid BY PROGRAM, IN A SANDBOX (cutbox-door.mjs). By AI agents, Wed Nov 11 2026. No macro, syntax, notation, axiom, sorry.
-/
import Derived.Test.YtecnnbcfgijddaaGreatDoorRows
import GoSem.ClaimSeven
namespace Go.Proofs.YtecnnbcfgijddaaGreatDoor
namespace Rows

/-- THE TIED CARD OF 'postiliontop.TopBroken'. -/
def topBrokenCard : Claim7 := { stood := { row := topBrokenRow, standIns := [], harness := (true, "b287e206479245ec50e5d47adfb2f10e8d782965ae80960af0fcf265a6ef697e"), looks := true }, kinds := [], alts := [], laidByText := true, laidKinds := [.data, .data, .data, .data], laidTests := true, laidLooks := .later }
def TopBrokenCardSaid : Prop := Claim7.holds Tryz.pinned (.plain (OpenSpec.ofChange topBrokenSpec)) topBrokenCard

/-- THE TIED CARD OF 'postiliontop.TopPromised'. -/
def topPromisedCard : Claim7 := { stood := { row := topPromisedRow, standIns := [], harness := (true, "b287e206479245ec50e5d47adfb2f10e8d782965ae80960af0fcf265a6ef697e"), looks := true }, kinds := [], alts := [], laidByText := true, laidKinds := [.data, .data, .data, .data], laidTests := true, laidLooks := .later }
def TopPromisedCardSaid : Prop := Claim7.holds Tryz.pinned (.plain (OpenSpec.ofChange topPromisedSpec)) topPromisedCard

/-- THE TIED CARD OF 'postiliontop.TopCompiled'. -/
def topCompiledCard : Claim7 := { stood := { row := topCompiledRow, standIns := [], harness := (true, "b287e206479245ec50e5d47adfb2f10e8d782965ae80960af0fcf265a6ef697e"), looks := true }, kinds := [], alts := [], laidByText := true, laidKinds := [.data, .data, .data, .data], laidTests := true, laidLooks := .later }
def TopCompiledCardSaid : Prop := Claim7.holds Tryz.pinned (.plain (OpenSpec.ofChange topCompiledSpec)) topCompiledCard

/-- THE SECOND FORM's CARD OF 'postiliontop.TopBroken'. -/
def topBrokenUptoCard : Claim7 := { stood := { row := topBrokenUptoRow, standIns := [], harness := (true, "b287e206479245ec50e5d47adfb2f10e8d782965ae80960af0fcf265a6ef697e"), looks := true }, kinds := [], alts := [], laidByText := true, laidKinds := [.data, .data, .data, .data], laidTests := true, laidLooks := .later }
def TopBrokenUptoCardSaid : Prop := Claim7.holds Tryz.pinned (.plain (OpenSpec.upto topBrokenSpec)) topBrokenUptoCard

/-- THE SECOND FORM's CARD OF 'postiliontop.TopPromised'. -/
def topPromisedUptoCard : Claim7 := { stood := { row := topPromisedUptoRow, standIns := [], harness := (true, "b287e206479245ec50e5d47adfb2f10e8d782965ae80960af0fcf265a6ef697e"), looks := true }, kinds := [], alts := [], laidByText := true, laidKinds := [.data, .data, .data, .data], laidTests := true, laidLooks := .later }
def TopPromisedUptoCardSaid : Prop := Claim7.holds Tryz.pinned (.plain (OpenSpec.upto topPromisedSpec)) topPromisedUptoCard

/-- THE SECOND FORM's CARD OF 'postiliontop.TopCompiled'. -/
def topCompiledUptoCard : Claim7 := { stood := { row := topCompiledUptoRow, standIns := [], harness := (true, "b287e206479245ec50e5d47adfb2f10e8d782965ae80960af0fcf265a6ef697e"), looks := true }, kinds := [], alts := [], laidByText := true, laidKinds := [.data, .data, .data, .data], laidTests := true, laidLooks := .later }
def TopCompiledUptoCardSaid : Prop := Claim7.holds Tryz.pinned (.plain (OpenSpec.upto topCompiledSpec)) topCompiledUptoCard
end Rows
end Go.Proofs.YtecnnbcfgijddaaGreatDoor
