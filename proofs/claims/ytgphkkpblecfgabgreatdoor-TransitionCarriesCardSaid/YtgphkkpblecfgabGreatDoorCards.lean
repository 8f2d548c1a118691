/-
  DERIVED. GIVEN WITH THE SEED: THE CARDS: each row of YtgphkkpblecfgabGreatDoorRows.lean that lists a variable, with what it lists TIED to the program's text (the seventh form; the later family's looks); each row that meets fmt, with fmt's text TOLD by the authors' own Lean function (tested against real Go, not proved from fmt's source: count such statements apart). THE CARD IS WHAT COUNTS. Prove the row's statement (the work); the ties are given (YtgphkkpblecfgabGreatDoorTie.lean); close each card by the builder's one call (the guide's Derived/Test/ToyasCard.lean, 'card_holds'). Laid BY PROGRAM, IN A SANDBOX (cutbox-door.mjs). By AI agents, Wed Nov 11 2026. No macro, syntax, notation, axiom, sorry.
-/
import Derived.Test.YtgphkkpblecfgabGreatDoorRows
import GoSem.ClaimSeven
namespace Go.Proofs.YtgphkkpblecfgabGreatDoor
namespace Rows

/-- THE TIED CARD OF 'postilionlaw20.TransitionPlaces'. -/
def transitionPlacesCard : Claim7 := { stood := { row := transitionPlacesRow, standIns := [], harness := (true, "8d34f0744786fd7c39e706a5cb03fb7d28e9aba694b3e0ff5ff76b916b3ca405"), looks := true }, kinds := [], alts := [], laidByText := true, laidKinds := [.data], laidTests := true, laidLooks := .later }
def TransitionPlacesCardSaid : Prop := Claim7.holds Tryz.pinned (.plain (OpenSpec.ofChange transitionPlacesSpec)) transitionPlacesCard

/-- THE TIED CARD OF 'postilionlaw20.TransitionCarries'. -/
def transitionCarriesCard : Claim7 := { stood := { row := transitionCarriesRow, standIns := [], harness := (true, "8d34f0744786fd7c39e706a5cb03fb7d28e9aba694b3e0ff5ff76b916b3ca405"), looks := true }, kinds := [], alts := [], laidByText := true, laidKinds := [.data], laidTests := true, laidLooks := .later }
def TransitionCarriesCardSaid : Prop := Claim7.holds Tryz.pinned (.plain (OpenSpec.ofChange transitionCarriesSpec)) transitionCarriesCard

/-- THE TIED CARD OF 'postilionlaw20.TransitionEarlyLate'. -/
def transitionEarlyLateCard : Claim7 := { stood := { row := transitionEarlyLateRow, standIns := [], harness := (true, "8d34f0744786fd7c39e706a5cb03fb7d28e9aba694b3e0ff5ff76b916b3ca405"), looks := true }, kinds := [], alts := [], laidByText := true, laidKinds := [.data], laidTests := true, laidLooks := .later }
def TransitionEarlyLateCardSaid : Prop := Claim7.holds Tryz.pinned (.plain (OpenSpec.ofChange transitionEarlyLateSpec)) transitionEarlyLateCard

/-- THE TIED CARD OF 'postilionlaw20.TransitionSafe'. -/
def transitionSafeCard : Claim7 := { stood := { row := transitionSafeRow, standIns := [], harness := (true, "8d34f0744786fd7c39e706a5cb03fb7d28e9aba694b3e0ff5ff76b916b3ca405"), looks := true }, kinds := [], alts := [], laidByText := true, laidKinds := [.data], laidTests := true, laidLooks := .later }
def TransitionSafeCardSaid : Prop := Claim7.holds Tryz.pinned (.plain (OpenSpec.ofChange transitionSafeSpec)) transitionSafeCard

/-- THE TIED CARD OF 'postilionlaw20.TransitionChains'. -/
def transitionChainsCard : Claim7 := { stood := { row := transitionChainsRow, standIns := [], harness := (true, "8d34f0744786fd7c39e706a5cb03fb7d28e9aba694b3e0ff5ff76b916b3ca405"), looks := true }, kinds := [], alts := [], laidByText := true, laidKinds := [.data], laidTests := true, laidLooks := .later }
def TransitionChainsCardSaid : Prop := Claim7.holds Tryz.pinned (.plain (OpenSpec.ofChange transitionChainsSpec)) transitionChainsCard

/-- THE TIED CARD OF 'postilionlaw20.TransitionUnsafe'. -/
def transitionUnsafeCard : Claim7 := { stood := { row := transitionUnsafeRow, standIns := [], harness := (true, "8d34f0744786fd7c39e706a5cb03fb7d28e9aba694b3e0ff5ff76b916b3ca405"), looks := true }, kinds := [], alts := [], laidByText := true, laidKinds := [.data], laidTests := true, laidLooks := .later }
def TransitionUnsafeCardSaid : Prop := Claim7.holds Tryz.pinned (.plain (OpenSpec.ofChange transitionUnsafeSpec)) transitionUnsafeCard

/-- THE TIED CARD OF 'postilionlaw20.TransitionAgain'. -/
def transitionAgainCard : Claim7 := { stood := { row := transitionAgainRow, standIns := [], harness := (true, "8d34f0744786fd7c39e706a5cb03fb7d28e9aba694b3e0ff5ff76b916b3ca405"), looks := true }, kinds := [], alts := [], laidByText := true, laidKinds := [.data], laidTests := true, laidLooks := .later }
def TransitionAgainCardSaid : Prop := Claim7.holds Tryz.pinned (.plain (OpenSpec.ofChange transitionAgainSpec)) transitionAgainCard

/-- THE SECOND FORM's CARD OF 'postilionlaw20.TransitionPlaces'. -/
def transitionPlacesUptoCard : Claim7 := { stood := { row := transitionPlacesUptoRow, standIns := [], harness := (true, "8d34f0744786fd7c39e706a5cb03fb7d28e9aba694b3e0ff5ff76b916b3ca405"), looks := true }, kinds := [], alts := [], laidByText := true, laidKinds := [.data], laidTests := true, laidLooks := .later }
def TransitionPlacesUptoCardSaid : Prop := Claim7.holds Tryz.pinned (.plain (OpenSpec.upto transitionPlacesSpec)) transitionPlacesUptoCard

/-- THE SECOND FORM's CARD OF 'postilionlaw20.TransitionCarries'. -/
def transitionCarriesUptoCard : Claim7 := { stood := { row := transitionCarriesUptoRow, standIns := [], harness := (true, "8d34f0744786fd7c39e706a5cb03fb7d28e9aba694b3e0ff5ff76b916b3ca405"), looks := true }, kinds := [], alts := [], laidByText := true, laidKinds := [.data], laidTests := true, laidLooks := .later }
def TransitionCarriesUptoCardSaid : Prop := Claim7.holds Tryz.pinned (.plain (OpenSpec.upto transitionCarriesSpec)) transitionCarriesUptoCard

/-- THE SECOND FORM's CARD OF 'postilionlaw20.TransitionEarlyLate'. -/
def transitionEarlyLateUptoCard : Claim7 := { stood := { row := transitionEarlyLateUptoRow, standIns := [], harness := (true, "8d34f0744786fd7c39e706a5cb03fb7d28e9aba694b3e0ff5ff76b916b3ca405"), looks := true }, kinds := [], alts := [], laidByText := true, laidKinds := [.data], laidTests := true, laidLooks := .later }
def TransitionEarlyLateUptoCardSaid : Prop := Claim7.holds Tryz.pinned (.plain (OpenSpec.upto transitionEarlyLateSpec)) transitionEarlyLateUptoCard

/-- THE SECOND FORM's CARD OF 'postilionlaw20.TransitionSafe'. -/
def transitionSafeUptoCard : Claim7 := { stood := { row := transitionSafeUptoRow, standIns := [], harness := (true, "8d34f0744786fd7c39e706a5cb03fb7d28e9aba694b3e0ff5ff76b916b3ca405"), looks := true }, kinds := [], alts := [], laidByText := true, laidKinds := [.data], laidTests := true, laidLooks := .later }
def TransitionSafeUptoCardSaid : Prop := Claim7.holds Tryz.pinned (.plain (OpenSpec.upto transitionSafeSpec)) transitionSafeUptoCard

/-- THE SECOND FORM's CARD OF 'postilionlaw20.TransitionChains'. -/
def transitionChainsUptoCard : Claim7 := { stood := { row := transitionChainsUptoRow, standIns := [], harness := (true, "8d34f0744786fd7c39e706a5cb03fb7d28e9aba694b3e0ff5ff76b916b3ca405"), looks := true }, kinds := [], alts := [], laidByText := true, laidKinds := [.data], laidTests := true, laidLooks := .later }
def TransitionChainsUptoCardSaid : Prop := Claim7.holds Tryz.pinned (.plain (OpenSpec.upto transitionChainsSpec)) transitionChainsUptoCard

/-- THE SECOND FORM's CARD OF 'postilionlaw20.TransitionUnsafe'. -/
def transitionUnsafeUptoCard : Claim7 := { stood := { row := transitionUnsafeUptoRow, standIns := [], harness := (true, "8d34f0744786fd7c39e706a5cb03fb7d28e9aba694b3e0ff5ff76b916b3ca405"), looks := true }, kinds := [], alts := [], laidByText := true, laidKinds := [.data], laidTests := true, laidLooks := .later }
def TransitionUnsafeUptoCardSaid : Prop := Claim7.holds Tryz.pinned (.plain (OpenSpec.upto transitionUnsafeSpec)) transitionUnsafeUptoCard

/-- THE SECOND FORM's CARD OF 'postilionlaw20.TransitionAgain'. -/
def transitionAgainUptoCard : Claim7 := { stood := { row := transitionAgainUptoRow, standIns := [], harness := (true, "8d34f0744786fd7c39e706a5cb03fb7d28e9aba694b3e0ff5ff76b916b3ca405"), looks := true }, kinds := [], alts := [], laidByText := true, laidKinds := [.data], laidTests := true, laidLooks := .later }
def TransitionAgainUptoCardSaid : Prop := Claim7.holds Tryz.pinned (.plain (OpenSpec.upto transitionAgainSpec)) transitionAgainUptoCard
end Rows
end Go.Proofs.YtgphkkpblecfgabGreatDoor
