/-
  NARROWER THAN 'FOR EVERY INPUT', by the rows' own cells (each row's printed sentence says how): TimetableMatchesReference: laid · RoutingMatchesReference: laid · RoutingSteps: laid · RoutingLeast: laid · RoutingStar: laid · RoutingRanges: laid · RoutingLines: laid · RoutingTime: laid.
  DERIVED. THE GIVEN ROWS OF THIS SEAT. 8 by the template 'for every input the law returns true; each argument reads behind the call as it read before'; 0 by the template 'total and deterministic' (their statements: YtejeaokbkbfgjaaGreatDoorTotals.lean).
  GIVEN WITH THE SEED: the statements are not yours to turn. If you find one false, say at which input.
  Laid BY PROGRAM, IN A SANDBOX (cutbox-rows.mjs): the forced cells as the released guide's own fill.sh prints them over the translation 47c062176f071fcf… (all of the seat's roots in one cut). By AI agents, Wed Nov 11 2026. No macro, syntax, notation, axiom, sorry.
-/
import Derived.Test.YtejeaokbkbfgjaaGreatDoorChecked
import GoSem.Claim
import GoSem.ClaimJoined
import GoSem.ClaimMapViews
import Derived.JoinedTies
import Derived.KernelRfl
namespace Go.Proofs.YtejeaokbkbfgjaaGreatDoor
/- THE CELL 'sum', in the pinned program and in every row, IS THE sha256 OF THE DUMP (.gsa) THAT YtejeaokbkbfgjaaGreatDoorProg.lean LOADS. Nothing in Lean hashes anything: it is a label: what it is worth is what the hold of that sum in a sandbox is worth. -/
noncomputable def Tryz.pinned : Pinned := { name := "ytejeaokbkbfgjaagreatdoor", sum := "47c062176f071fcf235c5e93de0994f6a426da5c1d9c78830452c90dd28d0594", checked := Tryz.checked }
namespace Rows
def none {H : Type} : Left H := { results := [], args := [] }

/- WHAT THE LISTED PACKAGE-LEVEL VARIABLES READ AS WHEN THE CALL BEGINS. Each datum BY PROGRAM (the guide's laid-datum.mjs) off the statement by which the dump's own 'gosem.cut.vars' lays the variable. In a bare row this is a premise. The card (YtejeaokbkbfgjaaGreatDoorCards.lean) ties it to the program's text. -/
def laid_postilion_survey_keyWords {H : Type} : DataW H := .agg [.lit (.string [99, 97, 108, 101, 110, 100, 97, 114]), .lit (.string [111, 112, 101, 114, 97, 116, 111, 114]), .lit (.string [111, 102, 102, 105, 99, 101]), .lit (.string [108, 105, 110, 101]), .lit (.string [99, 108, 97, 115, 115]), .lit (.string [122, 111, 110, 101]), .lit (.string [119, 101, 101, 107]), .lit (.string [104, 111, 108, 105, 100, 97, 121]), .lit (.string [112, 111, 99, 107, 101, 116, 115]), .lit (.string [112, 97, 115, 115, 101, 115]), .lit (.string [109, 105, 110, 117, 116, 101, 115]), .lit (.string [99, 111, 100, 101, 115]), .lit (.string [97, 116]), .lit (.string [116, 114, 97, 118, 101, 108]), .lit (.string [108, 111, 97, 100]), .lit (.string [99, 117, 116]), .lit (.string [100, 101, 108, 105, 118, 101, 114])]

/-- 'postilionlaw13.TimetableMatchesReference': WHATEVER THE INPUT: true; the input reads as it did. -/
def timetableMatchesReferenceSpec : ChangeSpec := { name := "timetableMatchesReference", fn := fun _ => fun
  | [d1, d2, d3, d4] => { results := [.lit (.bool true)], args := [d1, d2, d3, d4] }
  | _ => none }
def timetableMatchesReferenceRow : OpenClaim := { program := "ytejeaokbkbfgjaagreatdoor", sum := "47c062176f071fcf235c5e93de0994f6a426da5c1d9c78830452c90dd28d0594", func := "postilion/postilionlaw13.TimetableMatchesReference", spec := "timetableMatchesReference", unfollowed := true, recurses := true, named := ["postilion/survey.keyWords"], apart := false, laid := [("postilion/survey.keyWords", laid_postilion_survey_keyWords)] }
def TimetableMatchesReferenceSaid : Prop := timetableMatchesReferenceRow.holds Tryz.pinned (OpenSpec.ofChange timetableMatchesReferenceSpec)

/-- ITS FALSE NEIGHBOUR: 'it returns false'. Refute it at one input. -/
def timetableMatchesReferenceWrong : ChangeSpec := { name := "timetableMatchesReference", fn := fun _ => fun
  | [d1, d2, d3, d4] => { results := [.lit (.bool false)], args := [d1, d2, d3, d4] }
  | _ => none }
def TimetableMatchesReferenceWrongFalsely : Prop := timetableMatchesReferenceRow.holds Tryz.pinned (OpenSpec.ofChange timetableMatchesReferenceWrong)

/-- 'postilionlaw16.RoutingMatchesReference': WHATEVER THE INPUT: true; the input reads as it did. -/
def routingMatchesReferenceSpec : ChangeSpec := { name := "routingMatchesReference", fn := fun _ => fun
  | [d1, d2, d3] => { results := [.lit (.bool true)], args := [d1, d2, d3] }
  | _ => none }
def routingMatchesReferenceRow : OpenClaim := { program := "ytejeaokbkbfgjaagreatdoor", sum := "47c062176f071fcf235c5e93de0994f6a426da5c1d9c78830452c90dd28d0594", func := "postilion/postilionlaw16.RoutingMatchesReference", spec := "routingMatchesReference", unfollowed := true, recurses := true, named := ["postilion/survey.keyWords"], apart := false, laid := [("postilion/survey.keyWords", laid_postilion_survey_keyWords)] }
def RoutingMatchesReferenceSaid : Prop := routingMatchesReferenceRow.holds Tryz.pinned (OpenSpec.ofChange routingMatchesReferenceSpec)

/-- ITS FALSE NEIGHBOUR: 'it returns false'. Refute it at one input. -/
def routingMatchesReferenceWrong : ChangeSpec := { name := "routingMatchesReference", fn := fun _ => fun
  | [d1, d2, d3] => { results := [.lit (.bool false)], args := [d1, d2, d3] }
  | _ => none }
def RoutingMatchesReferenceWrongFalsely : Prop := routingMatchesReferenceRow.holds Tryz.pinned (OpenSpec.ofChange routingMatchesReferenceWrong)

/-- 'postilionlaw16.RoutingSteps': WHATEVER THE INPUT: true; the input reads as it did. -/
def routingStepsSpec : ChangeSpec := { name := "routingSteps", fn := fun _ => fun
  | [d1, d2, d3, d4, d5] => { results := [.lit (.bool true)], args := [d1, d2, d3, d4, d5] }
  | _ => none }
def routingStepsRow : OpenClaim := { program := "ytejeaokbkbfgjaagreatdoor", sum := "47c062176f071fcf235c5e93de0994f6a426da5c1d9c78830452c90dd28d0594", func := "postilion/postilionlaw16.RoutingSteps", spec := "routingSteps", unfollowed := true, recurses := true, named := ["postilion/survey.keyWords"], apart := false, laid := [("postilion/survey.keyWords", laid_postilion_survey_keyWords)] }
def RoutingStepsSaid : Prop := routingStepsRow.holds Tryz.pinned (OpenSpec.ofChange routingStepsSpec)

/-- ITS FALSE NEIGHBOUR: 'it returns false'. Refute it at one input. -/
def routingStepsWrong : ChangeSpec := { name := "routingSteps", fn := fun _ => fun
  | [d1, d2, d3, d4, d5] => { results := [.lit (.bool false)], args := [d1, d2, d3, d4, d5] }
  | _ => none }
def RoutingStepsWrongFalsely : Prop := routingStepsRow.holds Tryz.pinned (OpenSpec.ofChange routingStepsWrong)

/-- 'postilionlaw16.RoutingLeast': WHATEVER THE INPUT: true; the input reads as it did. -/
def routingLeastSpec : ChangeSpec := { name := "routingLeast", fn := fun _ => fun
  | [d1, d2, d3, d4, d5] => { results := [.lit (.bool true)], args := [d1, d2, d3, d4, d5] }
  | _ => none }
def routingLeastRow : OpenClaim := { program := "ytejeaokbkbfgjaagreatdoor", sum := "47c062176f071fcf235c5e93de0994f6a426da5c1d9c78830452c90dd28d0594", func := "postilion/postilionlaw16.RoutingLeast", spec := "routingLeast", unfollowed := true, recurses := true, named := ["postilion/survey.keyWords"], apart := false, laid := [("postilion/survey.keyWords", laid_postilion_survey_keyWords)] }
def RoutingLeastSaid : Prop := routingLeastRow.holds Tryz.pinned (OpenSpec.ofChange routingLeastSpec)

/-- ITS FALSE NEIGHBOUR: 'it returns false'. Refute it at one input. -/
def routingLeastWrong : ChangeSpec := { name := "routingLeast", fn := fun _ => fun
  | [d1, d2, d3, d4, d5] => { results := [.lit (.bool false)], args := [d1, d2, d3, d4, d5] }
  | _ => none }
def RoutingLeastWrongFalsely : Prop := routingLeastRow.holds Tryz.pinned (OpenSpec.ofChange routingLeastWrong)

/-- 'postilionlaw16.RoutingStar': WHATEVER THE INPUT: true; the input reads as it did. -/
def routingStarSpec : ChangeSpec := { name := "routingStar", fn := fun _ => fun
  | [d1, d2, d3] => { results := [.lit (.bool true)], args := [d1, d2, d3] }
  | _ => none }
def routingStarRow : OpenClaim := { program := "ytejeaokbkbfgjaagreatdoor", sum := "47c062176f071fcf235c5e93de0994f6a426da5c1d9c78830452c90dd28d0594", func := "postilion/postilionlaw16.RoutingStar", spec := "routingStar", unfollowed := true, recurses := true, named := ["postilion/survey.keyWords"], apart := false, laid := [("postilion/survey.keyWords", laid_postilion_survey_keyWords)] }
def RoutingStarSaid : Prop := routingStarRow.holds Tryz.pinned (OpenSpec.ofChange routingStarSpec)

/-- ITS FALSE NEIGHBOUR: 'it returns false'. Refute it at one input. -/
def routingStarWrong : ChangeSpec := { name := "routingStar", fn := fun _ => fun
  | [d1, d2, d3] => { results := [.lit (.bool false)], args := [d1, d2, d3] }
  | _ => none }
def RoutingStarWrongFalsely : Prop := routingStarRow.holds Tryz.pinned (OpenSpec.ofChange routingStarWrong)

/-- 'postilionlaw16.RoutingRanges': WHATEVER THE INPUT: true; the input reads as it did. -/
def routingRangesSpec : ChangeSpec := { name := "routingRanges", fn := fun _ => fun
  | [d1, d2, d3, d4, d5] => { results := [.lit (.bool true)], args := [d1, d2, d3, d4, d5] }
  | _ => none }
def routingRangesRow : OpenClaim := { program := "ytejeaokbkbfgjaagreatdoor", sum := "47c062176f071fcf235c5e93de0994f6a426da5c1d9c78830452c90dd28d0594", func := "postilion/postilionlaw16.RoutingRanges", spec := "routingRanges", unfollowed := true, recurses := true, named := ["postilion/survey.keyWords"], apart := false, laid := [("postilion/survey.keyWords", laid_postilion_survey_keyWords)] }
def RoutingRangesSaid : Prop := routingRangesRow.holds Tryz.pinned (OpenSpec.ofChange routingRangesSpec)

/-- ITS FALSE NEIGHBOUR: 'it returns false'. Refute it at one input. -/
def routingRangesWrong : ChangeSpec := { name := "routingRanges", fn := fun _ => fun
  | [d1, d2, d3, d4, d5] => { results := [.lit (.bool false)], args := [d1, d2, d3, d4, d5] }
  | _ => none }
def RoutingRangesWrongFalsely : Prop := routingRangesRow.holds Tryz.pinned (OpenSpec.ofChange routingRangesWrong)

/-- 'postilionlaw16.RoutingLines': WHATEVER THE INPUT: true; the input reads as it did. -/
def routingLinesSpec : ChangeSpec := { name := "routingLines", fn := fun _ => fun
  | [d1, d2, d3, d4, d5] => { results := [.lit (.bool true)], args := [d1, d2, d3, d4, d5] }
  | _ => none }
def routingLinesRow : OpenClaim := { program := "ytejeaokbkbfgjaagreatdoor", sum := "47c062176f071fcf235c5e93de0994f6a426da5c1d9c78830452c90dd28d0594", func := "postilion/postilionlaw16.RoutingLines", spec := "routingLines", unfollowed := true, recurses := true, named := ["postilion/survey.keyWords"], apart := false, laid := [("postilion/survey.keyWords", laid_postilion_survey_keyWords)] }
def RoutingLinesSaid : Prop := routingLinesRow.holds Tryz.pinned (OpenSpec.ofChange routingLinesSpec)

/-- ITS FALSE NEIGHBOUR: 'it returns false'. Refute it at one input. -/
def routingLinesWrong : ChangeSpec := { name := "routingLines", fn := fun _ => fun
  | [d1, d2, d3, d4, d5] => { results := [.lit (.bool false)], args := [d1, d2, d3, d4, d5] }
  | _ => none }
def RoutingLinesWrongFalsely : Prop := routingLinesRow.holds Tryz.pinned (OpenSpec.ofChange routingLinesWrong)

/-- 'postilionlaw16.RoutingTime': WHATEVER THE INPUT: true; the input reads as it did. -/
def routingTimeSpec : ChangeSpec := { name := "routingTime", fn := fun _ => fun
  | [d1, d2, d3, d4, d5] => { results := [.lit (.bool true)], args := [d1, d2, d3, d4, d5] }
  | _ => none }
def routingTimeRow : OpenClaim := { program := "ytejeaokbkbfgjaagreatdoor", sum := "47c062176f071fcf235c5e93de0994f6a426da5c1d9c78830452c90dd28d0594", func := "postilion/postilionlaw16.RoutingTime", spec := "routingTime", unfollowed := true, recurses := true, named := ["postilion/survey.keyWords"], apart := false, laid := [("postilion/survey.keyWords", laid_postilion_survey_keyWords)] }
def RoutingTimeSaid : Prop := routingTimeRow.holds Tryz.pinned (OpenSpec.ofChange routingTimeSpec)

/-- ITS FALSE NEIGHBOUR: 'it returns false'. Refute it at one input. -/
def routingTimeWrong : ChangeSpec := { name := "routingTime", fn := fun _ => fun
  | [d1, d2, d3, d4, d5] => { results := [.lit (.bool false)], args := [d1, d2, d3, d4, d5] }
  | _ => none }
def RoutingTimeWrongFalsely : Prop := routingTimeRow.holds Tryz.pinned (OpenSpec.ofChange routingTimeWrong)

/- THE SECOND FORM. 'bulk': how many values and letters a reading holds, each counted each time it is reached (what is shared counts as often as it is met; a slice's spare places count too). A statement '..UptoSaid' is the law's where the arguments, and the package variables that the reading takes, are together of bulk at most 1048576: NARROWER than '..Said'. Prove '..Said' where nothing that the law and all that it calls make is longer than what came in: it says more and counts as full. Else prove '..UptoSaid'. A law counts once. -/
mutual
def uptoBulk {H : Type} : DataW H → Nat
  | .lit (.string bytes) => bytes.length + 1
  | .lit _ => 1
  | .nil => 1
  | .ptr d => uptoBulk d + 1
  | .slice elems spare => uptoBulkAll elems + uptoBulkAll spare + 1
  | .agg parts => uptoBulkAll parts + 1
  | .iface _ d => uptoBulk d + 1
  | .map entries => uptoBulkEntries entries + 1
  | .held _ => 1
def uptoBulkAll {H : Type} : List (DataW H) → Nat
  | [] => 0
  | d :: r => uptoBulk d + uptoBulkAll r
def uptoBulkEntries {H : Type} : List (Lit × DataW H) → Nat
  | [] => 0
  | x :: r => uptoBulkEntry x + uptoBulkEntries r
def uptoBulkEntry {H : Type} : Lit × DataW H → Nat
  | (.string bytes, d) => bytes.length + uptoBulk d + 1
  | (_, d) => uptoBulk d + 1
 end
def uptoSmall : (H : Type) → List (DataW H) → Bool := fun _ ds => decide (uptoBulkAll ds ≤ 1048576)
def OpenSpec.upto (s : _root_.Go.ChangeSpec) : _root_.Go.OpenSpec := { _root_.Go.OpenSpec.ofChange s with cond := some uptoSmall }

/-- 'postilionlaw13.TimetableMatchesReference', WHERE WHAT IT READS IS OF BULK AT MOST 1048576: true; the input reads as it did. -/
def timetableMatchesReferenceUptoRow : OpenClaim := { program := "ytejeaokbkbfgjaagreatdoor", sum := "47c062176f071fcf235c5e93de0994f6a426da5c1d9c78830452c90dd28d0594", func := "postilion/postilionlaw13.TimetableMatchesReference", spec := "timetableMatchesReference", unfollowed := true, recurses := true, named := ["postilion/survey.keyWords"], apart := false, laid := [("postilion/survey.keyWords", laid_postilion_survey_keyWords)], narrowed := true }
def TimetableMatchesReferenceUptoSaid : Prop := timetableMatchesReferenceUptoRow.holds Tryz.pinned (OpenSpec.upto timetableMatchesReferenceSpec)

/-- 'postilionlaw16.RoutingMatchesReference', WHERE WHAT IT READS IS OF BULK AT MOST 1048576: true; the input reads as it did. -/
def routingMatchesReferenceUptoRow : OpenClaim := { program := "ytejeaokbkbfgjaagreatdoor", sum := "47c062176f071fcf235c5e93de0994f6a426da5c1d9c78830452c90dd28d0594", func := "postilion/postilionlaw16.RoutingMatchesReference", spec := "routingMatchesReference", unfollowed := true, recurses := true, named := ["postilion/survey.keyWords"], apart := false, laid := [("postilion/survey.keyWords", laid_postilion_survey_keyWords)], narrowed := true }
def RoutingMatchesReferenceUptoSaid : Prop := routingMatchesReferenceUptoRow.holds Tryz.pinned (OpenSpec.upto routingMatchesReferenceSpec)

/-- 'postilionlaw16.RoutingSteps', WHERE WHAT IT READS IS OF BULK AT MOST 1048576: true; the input reads as it did. -/
def routingStepsUptoRow : OpenClaim := { program := "ytejeaokbkbfgjaagreatdoor", sum := "47c062176f071fcf235c5e93de0994f6a426da5c1d9c78830452c90dd28d0594", func := "postilion/postilionlaw16.RoutingSteps", spec := "routingSteps", unfollowed := true, recurses := true, named := ["postilion/survey.keyWords"], apart := false, laid := [("postilion/survey.keyWords", laid_postilion_survey_keyWords)], narrowed := true }
def RoutingStepsUptoSaid : Prop := routingStepsUptoRow.holds Tryz.pinned (OpenSpec.upto routingStepsSpec)

/-- 'postilionlaw16.RoutingLeast', WHERE WHAT IT READS IS OF BULK AT MOST 1048576: true; the input reads as it did. -/
def routingLeastUptoRow : OpenClaim := { program := "ytejeaokbkbfgjaagreatdoor", sum := "47c062176f071fcf235c5e93de0994f6a426da5c1d9c78830452c90dd28d0594", func := "postilion/postilionlaw16.RoutingLeast", spec := "routingLeast", unfollowed := true, recurses := true, named := ["postilion/survey.keyWords"], apart := false, laid := [("postilion/survey.keyWords", laid_postilion_survey_keyWords)], narrowed := true }
def RoutingLeastUptoSaid : Prop := routingLeastUptoRow.holds Tryz.pinned (OpenSpec.upto routingLeastSpec)

/-- 'postilionlaw16.RoutingStar', WHERE WHAT IT READS IS OF BULK AT MOST 1048576: true; the input reads as it did. -/
def routingStarUptoRow : OpenClaim := { program := "ytejeaokbkbfgjaagreatdoor", sum := "47c062176f071fcf235c5e93de0994f6a426da5c1d9c78830452c90dd28d0594", func := "postilion/postilionlaw16.RoutingStar", spec := "routingStar", unfollowed := true, recurses := true, named := ["postilion/survey.keyWords"], apart := false, laid := [("postilion/survey.keyWords", laid_postilion_survey_keyWords)], narrowed := true }
def RoutingStarUptoSaid : Prop := routingStarUptoRow.holds Tryz.pinned (OpenSpec.upto routingStarSpec)

/-- 'postilionlaw16.RoutingRanges', WHERE WHAT IT READS IS OF BULK AT MOST 1048576: true; the input reads as it did. -/
def routingRangesUptoRow : OpenClaim := { program := "ytejeaokbkbfgjaagreatdoor", sum := "47c062176f071fcf235c5e93de0994f6a426da5c1d9c78830452c90dd28d0594", func := "postilion/postilionlaw16.RoutingRanges", spec := "routingRanges", unfollowed := true, recurses := true, named := ["postilion/survey.keyWords"], apart := false, laid := [("postilion/survey.keyWords", laid_postilion_survey_keyWords)], narrowed := true }
def RoutingRangesUptoSaid : Prop := routingRangesUptoRow.holds Tryz.pinned (OpenSpec.upto routingRangesSpec)

/-- 'postilionlaw16.RoutingLines', WHERE WHAT IT READS IS OF BULK AT MOST 1048576: true; the input reads as it did. -/
def routingLinesUptoRow : OpenClaim := { program := "ytejeaokbkbfgjaagreatdoor", sum := "47c062176f071fcf235c5e93de0994f6a426da5c1d9c78830452c90dd28d0594", func := "postilion/postilionlaw16.RoutingLines", spec := "routingLines", unfollowed := true, recurses := true, named := ["postilion/survey.keyWords"], apart := false, laid := [("postilion/survey.keyWords", laid_postilion_survey_keyWords)], narrowed := true }
def RoutingLinesUptoSaid : Prop := routingLinesUptoRow.holds Tryz.pinned (OpenSpec.upto routingLinesSpec)

/-- 'postilionlaw16.RoutingTime', WHERE WHAT IT READS IS OF BULK AT MOST 1048576: true; the input reads as it did. -/
def routingTimeUptoRow : OpenClaim := { program := "ytejeaokbkbfgjaagreatdoor", sum := "47c062176f071fcf235c5e93de0994f6a426da5c1d9c78830452c90dd28d0594", func := "postilion/postilionlaw16.RoutingTime", spec := "routingTime", unfollowed := true, recurses := true, named := ["postilion/survey.keyWords"], apart := false, laid := [("postilion/survey.keyWords", laid_postilion_survey_keyWords)], narrowed := true }
def RoutingTimeUptoSaid : Prop := routingTimeUptoRow.holds Tryz.pinned (OpenSpec.upto routingTimeSpec)

end Rows
end Go.Proofs.YtejeaokbkbfgjaaGreatDoor
