/-
  NARROWER THAN 'FOR EVERY INPUT', by the rows' own cells (each row's printed sentence says how): TransitionPlaces: laid · TransitionCarries: laid · TransitionEarlyLate: laid · TransitionSafe: laid · TransitionChains: laid · TransitionUnsafe: laid · TransitionAgain: laid.
  DERIVED. THE GIVEN ROWS OF THIS SEAT. 7 by the template 'for every input the law returns true; each argument reads behind the call as it read before'; 0 by the template 'total and deterministic' (their statements: YtgphkkpblecfgabGreatDoorTotals.lean).
  GIVEN WITH THE SEED: the statements are not yours to turn. If you find one false, say at which input.
  Laid BY PROGRAM, IN A SANDBOX (cutbox-rows.mjs): the forced cells as the released guide's own fill.sh prints them over the translation 7dd7d6dc387748ea… (all of the seat's roots in one cut). By AI agents, Wed Nov 11 2026. No macro, syntax, notation, axiom, sorry.
-/
import Derived.Test.YtgphkkpblecfgabGreatDoorChecked
import GoSem.Claim
import GoSem.ClaimJoined
import GoSem.ClaimMapViews
import Derived.JoinedTies
import Derived.KernelRfl
namespace Go.Proofs.YtgphkkpblecfgabGreatDoor
/- THE CELL 'sum', in the pinned program and in every row, IS THE sha256 OF THE DUMP (.gsa) THAT YtgphkkpblecfgabGreatDoorProg.lean LOADS. Nothing in Lean hashes anything: it is a label: what it is worth is what the hold of that sum in a sandbox is worth. -/
noncomputable def Tryz.pinned : Pinned := { name := "ytgphkkpblecfgabgreatdoor", sum := "7dd7d6dc387748ea4b71b7d614b8ebdabe06c31965aab68d67c0d3e367ab4a04", checked := Tryz.checked }
namespace Rows
def none {H : Type} : Left H := { results := [], args := [] }

/- WHAT THE LISTED PACKAGE-LEVEL VARIABLES READ AS WHEN THE CALL BEGINS. Each datum BY PROGRAM (the guide's laid-datum.mjs) off the statement by which the dump's own 'gosem.cut.vars' lays the variable. In a bare row this is a premise. The card (YtgphkkpblecfgabGreatDoorCards.lean) ties it to the program's text. -/
def laid_postilion_survey_keyWords {H : Type} : DataW H := .agg [.lit (.string [99, 97, 108, 101, 110, 100, 97, 114]), .lit (.string [111, 112, 101, 114, 97, 116, 111, 114]), .lit (.string [111, 102, 102, 105, 99, 101]), .lit (.string [108, 105, 110, 101]), .lit (.string [99, 108, 97, 115, 115]), .lit (.string [122, 111, 110, 101]), .lit (.string [119, 101, 101, 107]), .lit (.string [104, 111, 108, 105, 100, 97, 121]), .lit (.string [112, 111, 99, 107, 101, 116, 115]), .lit (.string [112, 97, 115, 115, 101, 115]), .lit (.string [109, 105, 110, 117, 116, 101, 115]), .lit (.string [99, 111, 100, 101, 115]), .lit (.string [97, 116]), .lit (.string [116, 114, 97, 118, 101, 108]), .lit (.string [108, 111, 97, 100]), .lit (.string [99, 117, 116]), .lit (.string [100, 101, 108, 105, 118, 101, 114])]

/-- 'postilionlaw20.TransitionPlaces': WHATEVER THE INPUT: true; the input reads as it did. -/
def transitionPlacesSpec : ChangeSpec := { name := "transitionPlaces", fn := fun _ => fun
  | [d1, d2, d3, d4, d5, d6, d7] => { results := [.lit (.bool true)], args := [d1, d2, d3, d4, d5, d6, d7] }
  | _ => none }
def transitionPlacesRow : OpenClaim := { program := "ytgphkkpblecfgabgreatdoor", sum := "7dd7d6dc387748ea4b71b7d614b8ebdabe06c31965aab68d67c0d3e367ab4a04", func := "postilion/postilionlaw20.TransitionPlaces", spec := "transitionPlaces", unfollowed := true, recurses := true, named := ["postilion/survey.keyWords"], apart := false, laid := [("postilion/survey.keyWords", laid_postilion_survey_keyWords)] }
def TransitionPlacesSaid : Prop := transitionPlacesRow.holds Tryz.pinned (OpenSpec.ofChange transitionPlacesSpec)

/-- ITS FALSE NEIGHBOUR: 'it returns false'. Refute it at one input. -/
def transitionPlacesWrong : ChangeSpec := { name := "transitionPlaces", fn := fun _ => fun
  | [d1, d2, d3, d4, d5, d6, d7] => { results := [.lit (.bool false)], args := [d1, d2, d3, d4, d5, d6, d7] }
  | _ => none }
def TransitionPlacesWrongFalsely : Prop := transitionPlacesRow.holds Tryz.pinned (OpenSpec.ofChange transitionPlacesWrong)

/-- 'postilionlaw20.TransitionCarries': WHATEVER THE INPUT: true; the input reads as it did. -/
def transitionCarriesSpec : ChangeSpec := { name := "transitionCarries", fn := fun _ => fun
  | [d1, d2, d3, d4, d5, d6, d7, d8] => { results := [.lit (.bool true)], args := [d1, d2, d3, d4, d5, d6, d7, d8] }
  | _ => none }
def transitionCarriesRow : OpenClaim := { program := "ytgphkkpblecfgabgreatdoor", sum := "7dd7d6dc387748ea4b71b7d614b8ebdabe06c31965aab68d67c0d3e367ab4a04", func := "postilion/postilionlaw20.TransitionCarries", spec := "transitionCarries", unfollowed := true, recurses := true, named := ["postilion/survey.keyWords"], apart := false, laid := [("postilion/survey.keyWords", laid_postilion_survey_keyWords)] }
def TransitionCarriesSaid : Prop := transitionCarriesRow.holds Tryz.pinned (OpenSpec.ofChange transitionCarriesSpec)

/-- ITS FALSE NEIGHBOUR: 'it returns false'. Refute it at one input. -/
def transitionCarriesWrong : ChangeSpec := { name := "transitionCarries", fn := fun _ => fun
  | [d1, d2, d3, d4, d5, d6, d7, d8] => { results := [.lit (.bool false)], args := [d1, d2, d3, d4, d5, d6, d7, d8] }
  | _ => none }
def TransitionCarriesWrongFalsely : Prop := transitionCarriesRow.holds Tryz.pinned (OpenSpec.ofChange transitionCarriesWrong)

/-- 'postilionlaw20.TransitionEarlyLate': WHATEVER THE INPUT: true; the input reads as it did. -/
def transitionEarlyLateSpec : ChangeSpec := { name := "transitionEarlyLate", fn := fun _ => fun
  | [d1, d2, d3, d4, d5, d6, d7, d8] => { results := [.lit (.bool true)], args := [d1, d2, d3, d4, d5, d6, d7, d8] }
  | _ => none }
def transitionEarlyLateRow : OpenClaim := { program := "ytgphkkpblecfgabgreatdoor", sum := "7dd7d6dc387748ea4b71b7d614b8ebdabe06c31965aab68d67c0d3e367ab4a04", func := "postilion/postilionlaw20.TransitionEarlyLate", spec := "transitionEarlyLate", unfollowed := true, recurses := true, named := ["postilion/survey.keyWords"], apart := false, laid := [("postilion/survey.keyWords", laid_postilion_survey_keyWords)] }
def TransitionEarlyLateSaid : Prop := transitionEarlyLateRow.holds Tryz.pinned (OpenSpec.ofChange transitionEarlyLateSpec)

/-- ITS FALSE NEIGHBOUR: 'it returns false'. Refute it at one input. -/
def transitionEarlyLateWrong : ChangeSpec := { name := "transitionEarlyLate", fn := fun _ => fun
  | [d1, d2, d3, d4, d5, d6, d7, d8] => { results := [.lit (.bool false)], args := [d1, d2, d3, d4, d5, d6, d7, d8] }
  | _ => none }
def TransitionEarlyLateWrongFalsely : Prop := transitionEarlyLateRow.holds Tryz.pinned (OpenSpec.ofChange transitionEarlyLateWrong)

/-- 'postilionlaw20.TransitionSafe': WHATEVER THE INPUT: true; the input reads as it did. -/
def transitionSafeSpec : ChangeSpec := { name := "transitionSafe", fn := fun _ => fun
  | [d1, d2, d3, d4, d5, d6, d7, d8] => { results := [.lit (.bool true)], args := [d1, d2, d3, d4, d5, d6, d7, d8] }
  | _ => none }
def transitionSafeRow : OpenClaim := { program := "ytgphkkpblecfgabgreatdoor", sum := "7dd7d6dc387748ea4b71b7d614b8ebdabe06c31965aab68d67c0d3e367ab4a04", func := "postilion/postilionlaw20.TransitionSafe", spec := "transitionSafe", unfollowed := true, recurses := true, named := ["postilion/survey.keyWords"], apart := false, laid := [("postilion/survey.keyWords", laid_postilion_survey_keyWords)] }
def TransitionSafeSaid : Prop := transitionSafeRow.holds Tryz.pinned (OpenSpec.ofChange transitionSafeSpec)

/-- ITS FALSE NEIGHBOUR: 'it returns false'. Refute it at one input. -/
def transitionSafeWrong : ChangeSpec := { name := "transitionSafe", fn := fun _ => fun
  | [d1, d2, d3, d4, d5, d6, d7, d8] => { results := [.lit (.bool false)], args := [d1, d2, d3, d4, d5, d6, d7, d8] }
  | _ => none }
def TransitionSafeWrongFalsely : Prop := transitionSafeRow.holds Tryz.pinned (OpenSpec.ofChange transitionSafeWrong)

/-- 'postilionlaw20.TransitionChains': WHATEVER THE INPUT: true; the input reads as it did. -/
def transitionChainsSpec : ChangeSpec := { name := "transitionChains", fn := fun _ => fun
  | [d1, d2, d3, d4, d5, d6, d7] => { results := [.lit (.bool true)], args := [d1, d2, d3, d4, d5, d6, d7] }
  | _ => none }
def transitionChainsRow : OpenClaim := { program := "ytgphkkpblecfgabgreatdoor", sum := "7dd7d6dc387748ea4b71b7d614b8ebdabe06c31965aab68d67c0d3e367ab4a04", func := "postilion/postilionlaw20.TransitionChains", spec := "transitionChains", unfollowed := true, recurses := true, named := ["postilion/survey.keyWords"], apart := false, laid := [("postilion/survey.keyWords", laid_postilion_survey_keyWords)] }
def TransitionChainsSaid : Prop := transitionChainsRow.holds Tryz.pinned (OpenSpec.ofChange transitionChainsSpec)

/-- ITS FALSE NEIGHBOUR: 'it returns false'. Refute it at one input. -/
def transitionChainsWrong : ChangeSpec := { name := "transitionChains", fn := fun _ => fun
  | [d1, d2, d3, d4, d5, d6, d7] => { results := [.lit (.bool false)], args := [d1, d2, d3, d4, d5, d6, d7] }
  | _ => none }
def TransitionChainsWrongFalsely : Prop := transitionChainsRow.holds Tryz.pinned (OpenSpec.ofChange transitionChainsWrong)

/-- 'postilionlaw20.TransitionUnsafe': WHATEVER THE INPUT: true; the input reads as it did. -/
def transitionUnsafeSpec : ChangeSpec := { name := "transitionUnsafe", fn := fun _ => fun
  | [d1, d2, d3, d4] => { results := [.lit (.bool true)], args := [d1, d2, d3, d4] }
  | _ => none }
def transitionUnsafeRow : OpenClaim := { program := "ytgphkkpblecfgabgreatdoor", sum := "7dd7d6dc387748ea4b71b7d614b8ebdabe06c31965aab68d67c0d3e367ab4a04", func := "postilion/postilionlaw20.TransitionUnsafe", spec := "transitionUnsafe", unfollowed := true, recurses := true, named := ["postilion/survey.keyWords"], apart := false, laid := [("postilion/survey.keyWords", laid_postilion_survey_keyWords)] }
def TransitionUnsafeSaid : Prop := transitionUnsafeRow.holds Tryz.pinned (OpenSpec.ofChange transitionUnsafeSpec)

/-- ITS FALSE NEIGHBOUR: 'it returns false'. Refute it at one input. -/
def transitionUnsafeWrong : ChangeSpec := { name := "transitionUnsafe", fn := fun _ => fun
  | [d1, d2, d3, d4] => { results := [.lit (.bool false)], args := [d1, d2, d3, d4] }
  | _ => none }
def TransitionUnsafeWrongFalsely : Prop := transitionUnsafeRow.holds Tryz.pinned (OpenSpec.ofChange transitionUnsafeWrong)

/-- 'postilionlaw20.TransitionAgain': WHATEVER THE INPUT: true; the input reads as it did. -/
def transitionAgainSpec : ChangeSpec := { name := "transitionAgain", fn := fun _ => fun
  | [d1, d2, d3, d4, d5, d6] => { results := [.lit (.bool true)], args := [d1, d2, d3, d4, d5, d6] }
  | _ => none }
def transitionAgainRow : OpenClaim := { program := "ytgphkkpblecfgabgreatdoor", sum := "7dd7d6dc387748ea4b71b7d614b8ebdabe06c31965aab68d67c0d3e367ab4a04", func := "postilion/postilionlaw20.TransitionAgain", spec := "transitionAgain", unfollowed := true, recurses := true, named := ["postilion/survey.keyWords"], apart := false, laid := [("postilion/survey.keyWords", laid_postilion_survey_keyWords)] }
def TransitionAgainSaid : Prop := transitionAgainRow.holds Tryz.pinned (OpenSpec.ofChange transitionAgainSpec)

/-- ITS FALSE NEIGHBOUR: 'it returns false'. Refute it at one input. -/
def transitionAgainWrong : ChangeSpec := { name := "transitionAgain", fn := fun _ => fun
  | [d1, d2, d3, d4, d5, d6] => { results := [.lit (.bool false)], args := [d1, d2, d3, d4, d5, d6] }
  | _ => none }
def TransitionAgainWrongFalsely : Prop := transitionAgainRow.holds Tryz.pinned (OpenSpec.ofChange transitionAgainWrong)

/- THE SECOND FORM. 'bulk': how many values and letters a reading holds, each counted each time it is reached (what is shared counts as often as it is met; a slice's spare places count too). A statement '..UptoSaid' is the law's where the arguments, and the package variables that the reading takes, are together of bulk at most 1048576: NARROWER than '..Said'. Prove '..Said' where nothing that the law and all that it calls make is longer than what came in: it says more and counts as full. Else prove '..UptoSaid'. A law counts once. -/
mutual
def uptoBulk {H : Type} : DataW H → Nat
  | .lit (.string bytes) => bytes.length + 1
  | .lit _ => 1
  | .nil => 1
  | .ptr d => uptoBulk d + 1
  | .slice elems spare => uptoBulkAll elems + uptoBulkAll spare + 1
  | .agg parts => uptoBulkAll parts + 1
  | .iface _ d => uptoBulk d + 1
  | .map entries => uptoBulkEntries entries + 1
  | .held _ => 1
def uptoBulkAll {H : Type} : List (DataW H) → Nat
  | [] => 0
  | d :: r => uptoBulk d + uptoBulkAll r
def uptoBulkEntries {H : Type} : List (Lit × DataW H) → Nat
  | [] => 0
  | x :: r => uptoBulkEntry x + uptoBulkEntries r
def uptoBulkEntry {H : Type} : Lit × DataW H → Nat
  | (.string bytes, d) => bytes.length + uptoBulk d + 1
  | (_, d) => uptoBulk d + 1
 end
def uptoSmall : (H : Type) → List (DataW H) → Bool := fun _ ds => decide (uptoBulkAll ds ≤ 1048576)
def OpenSpec.upto (s : _root_.Go.ChangeSpec) : _root_.Go.OpenSpec := { _root_.Go.OpenSpec.ofChange s with cond := some uptoSmall }

/-- 'postilionlaw20.TransitionPlaces', WHERE WHAT IT READS IS OF BULK AT MOST 1048576: true; the input reads as it did. -/
def transitionPlacesUptoRow : OpenClaim := { program := "ytgphkkpblecfgabgreatdoor", sum := "7dd7d6dc387748ea4b71b7d614b8ebdabe06c31965aab68d67c0d3e367ab4a04", func := "postilion/postilionlaw20.TransitionPlaces", spec := "transitionPlaces", unfollowed := true, recurses := true, named := ["postilion/survey.keyWords"], apart := false, laid := [("postilion/survey.keyWords", laid_postilion_survey_keyWords)], narrowed := true }
def TransitionPlacesUptoSaid : Prop := transitionPlacesUptoRow.holds Tryz.pinned (OpenSpec.upto transitionPlacesSpec)

/-- 'postilionlaw20.TransitionCarries', WHERE WHAT IT READS IS OF BULK AT MOST 1048576: true; the input reads as it did. -/
def transitionCarriesUptoRow : OpenClaim := { program := "ytgphkkpblecfgabgreatdoor", sum := "7dd7d6dc387748ea4b71b7d614b8ebdabe06c31965aab68d67c0d3e367ab4a04", func := "postilion/postilionlaw20.TransitionCarries", spec := "transitionCarries", unfollowed := true, recurses := true, named := ["postilion/survey.keyWords"], apart := false, laid := [("postilion/survey.keyWords", laid_postilion_survey_keyWords)], narrowed := true }
def TransitionCarriesUptoSaid : Prop := transitionCarriesUptoRow.holds Tryz.pinned (OpenSpec.upto transitionCarriesSpec)

/-- 'postilionlaw20.TransitionEarlyLate', WHERE WHAT IT READS IS OF BULK AT MOST 1048576: true; the input reads as it did. -/
def transitionEarlyLateUptoRow : OpenClaim := { program := "ytgphkkpblecfgabgreatdoor", sum := "7dd7d6dc387748ea4b71b7d614b8ebdabe06c31965aab68d67c0d3e367ab4a04", func := "postilion/postilionlaw20.TransitionEarlyLate", spec := "transitionEarlyLate", unfollowed := true, recurses := true, named := ["postilion/survey.keyWords"], apart := false, laid := [("postilion/survey.keyWords", laid_postilion_survey_keyWords)], narrowed := true }
def TransitionEarlyLateUptoSaid : Prop := transitionEarlyLateUptoRow.holds Tryz.pinned (OpenSpec.upto transitionEarlyLateSpec)

/-- 'postilionlaw20.TransitionSafe', WHERE WHAT IT READS IS OF BULK AT MOST 1048576: true; the input reads as it did. -/
def transitionSafeUptoRow : OpenClaim := { program := "ytgphkkpblecfgabgreatdoor", sum := "7dd7d6dc387748ea4b71b7d614b8ebdabe06c31965aab68d67c0d3e367ab4a04", func := "postilion/postilionlaw20.TransitionSafe", spec := "transitionSafe", unfollowed := true, recurses := true, named := ["postilion/survey.keyWords"], apart := false, laid := [("postilion/survey.keyWords", laid_postilion_survey_keyWords)], narrowed := true }
def TransitionSafeUptoSaid : Prop := transitionSafeUptoRow.holds Tryz.pinned (OpenSpec.upto transitionSafeSpec)

/-- 'postilionlaw20.TransitionChains', WHERE WHAT IT READS IS OF BULK AT MOST 1048576: true; the input reads as it did. -/
def transitionChainsUptoRow : OpenClaim := { program := "ytgphkkpblecfgabgreatdoor", sum := "7dd7d6dc387748ea4b71b7d614b8ebdabe06c31965aab68d67c0d3e367ab4a04", func := "postilion/postilionlaw20.TransitionChains", spec := "transitionChains", unfollowed := true, recurses := true, named := ["postilion/survey.keyWords"], apart := false, laid := [("postilion/survey.keyWords", laid_postilion_survey_keyWords)], narrowed := true }
def TransitionChainsUptoSaid : Prop := transitionChainsUptoRow.holds Tryz.pinned (OpenSpec.upto transitionChainsSpec)

/-- 'postilionlaw20.TransitionUnsafe', WHERE WHAT IT READS IS OF BULK AT MOST 1048576: true; the input reads as it did. -/
def transitionUnsafeUptoRow : OpenClaim := { program := "ytgphkkpblecfgabgreatdoor", sum := "7dd7d6dc387748ea4b71b7d614b8ebdabe06c31965aab68d67c0d3e367ab4a04", func := "postilion/postilionlaw20.TransitionUnsafe", spec := "transitionUnsafe", unfollowed := true, recurses := true, named := ["postilion/survey.keyWords"], apart := false, laid := [("postilion/survey.keyWords", laid_postilion_survey_keyWords)], narrowed := true }
def TransitionUnsafeUptoSaid : Prop := transitionUnsafeUptoRow.holds Tryz.pinned (OpenSpec.upto transitionUnsafeSpec)

/-- 'postilionlaw20.TransitionAgain', WHERE WHAT IT READS IS OF BULK AT MOST 1048576: true; the input reads as it did. -/
def transitionAgainUptoRow : OpenClaim := { program := "ytgphkkpblecfgabgreatdoor", sum := "7dd7d6dc387748ea4b71b7d614b8ebdabe06c31965aab68d67c0d3e367ab4a04", func := "postilion/postilionlaw20.TransitionAgain", spec := "transitionAgain", unfollowed := true, recurses := true, named := ["postilion/survey.keyWords"], apart := false, laid := [("postilion/survey.keyWords", laid_postilion_survey_keyWords)], narrowed := true }
def TransitionAgainUptoSaid : Prop := transitionAgainUptoRow.holds Tryz.pinned (OpenSpec.upto transitionAgainSpec)

end Rows
end Go.Proofs.YtgphkkpblecfgabGreatDoor
