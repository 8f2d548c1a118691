/-
  NARROWER THAN 'FOR EVERY INPUT', by the rows' own cells (each row's printed sentence says how): TimetableFirst: laid · TimetableLater: laid · TimetableLists: laid · TimetableWait: laid · TimetableReached: laid · TimetableHolidays: laid.
  DERIVED. THE GIVEN ROWS OF THIS SEAT. 6 by the template 'for every input the law returns true; each argument reads behind the call as it read before'; 0 by the template 'total and deterministic' (their statements: YtejeaokbkbfgjaaDoorTotals.lean).
  GIVEN WITH THE SEED: the statements are not yours to turn. If you find one false, say at which input.
  Laid BY PROGRAM, IN A SANDBOX (cutbox-rows.mjs): the forced cells as the released guide's own fill.sh prints them over the translation a005e95d828c8c31… (all of the seat's roots in one cut). By AI agents, Wed Nov 11 2026. No macro, syntax, notation, axiom, sorry.
-/
import Derived.Test.YtejeaokbkbfgjaaDoorChecked
import GoSem.Claim
import GoSem.ClaimJoined
import GoSem.ClaimMapViews
import Derived.JoinedTies
import Derived.KernelRfl
namespace Go.Proofs.YtejeaokbkbfgjaaDoor
/- THE CELL 'sum', in the pinned program and in every row, IS THE sha256 OF THE DUMP (.gsa) THAT YtejeaokbkbfgjaaDoorProg.lean LOADS. Nothing in Lean hashes anything: it is a label: what it is worth is what the hold of that sum in a sandbox is worth. -/
noncomputable def Tryd.pinned : Pinned := { name := "ytejeaokbkbfgjaadoor", sum := "a005e95d828c8c315021c511f6894cf7be79e860a853a8bdb88dd3c42dc219f0", checked := Tryd.checked }
namespace Rows
def none {H : Type} : Left H := { results := [], args := [] }

/- WHAT THE LISTED PACKAGE-LEVEL VARIABLES READ AS WHEN THE CALL BEGINS. Each datum BY PROGRAM (the guide's laid-datum.mjs) off the statement by which the dump's own 'gosem.cut.vars' lays the variable. In a bare row this is a premise. The card (YtejeaokbkbfgjaaDoorCards.lean) ties it to the program's text. -/
def laid_postilion_survey_keyWords {H : Type} : DataW H := .agg [.lit (.string [99, 97, 108, 101, 110, 100, 97, 114]), .lit (.string [111, 112, 101, 114, 97, 116, 111, 114]), .lit (.string [111, 102, 102, 105, 99, 101]), .lit (.string [108, 105, 110, 101]), .lit (.string [99, 108, 97, 115, 115]), .lit (.string [122, 111, 110, 101]), .lit (.string [119, 101, 101, 107]), .lit (.string [104, 111, 108, 105, 100, 97, 121]), .lit (.string [112, 111, 99, 107, 101, 116, 115]), .lit (.string [112, 97, 115, 115, 101, 115]), .lit (.string [109, 105, 110, 117, 116, 101, 115]), .lit (.string [99, 111, 100, 101, 115]), .lit (.string [97, 116]), .lit (.string [116, 114, 97, 118, 101, 108]), .lit (.string [108, 111, 97, 100]), .lit (.string [99, 117, 116]), .lit (.string [100, 101, 108, 105, 118, 101, 114])]

/-- 'postilionlaw13.TimetableFirst': WHATEVER THE INPUT: true; the input reads as it did. -/
def timetableFirstSpec : ChangeSpec := { name := "timetableFirst", fn := fun _ => fun
  | [d1, d2, d3, d4] => { results := [.lit (.bool true)], args := [d1, d2, d3, d4] }
  | _ => none }
def timetableFirstRow : OpenClaim := { program := "ytejeaokbkbfgjaadoor", sum := "a005e95d828c8c315021c511f6894cf7be79e860a853a8bdb88dd3c42dc219f0", func := "postilion/postilionlaw13.TimetableFirst", spec := "timetableFirst", unfollowed := true, recurses := true, named := ["postilion/survey.keyWords"], apart := false, laid := [("postilion/survey.keyWords", laid_postilion_survey_keyWords)] }
def TimetableFirstSaid : Prop := timetableFirstRow.holds Tryd.pinned (OpenSpec.ofChange timetableFirstSpec)

/-- ITS FALSE NEIGHBOUR: 'it returns false'. Refute it at one input. -/
def timetableFirstWrong : ChangeSpec := { name := "timetableFirst", fn := fun _ => fun
  | [d1, d2, d3, d4] => { results := [.lit (.bool false)], args := [d1, d2, d3, d4] }
  | _ => none }
def TimetableFirstWrongFalsely : Prop := timetableFirstRow.holds Tryd.pinned (OpenSpec.ofChange timetableFirstWrong)

/-- 'postilionlaw13.TimetableLater': WHATEVER THE INPUT: true; the input reads as it did. -/
def timetableLaterSpec : ChangeSpec := { name := "timetableLater", fn := fun _ => fun
  | [d1, d2, d3, d4] => { results := [.lit (.bool true)], args := [d1, d2, d3, d4] }
  | _ => none }
def timetableLaterRow : OpenClaim := { program := "ytejeaokbkbfgjaadoor", sum := "a005e95d828c8c315021c511f6894cf7be79e860a853a8bdb88dd3c42dc219f0", func := "postilion/postilionlaw13.TimetableLater", spec := "timetableLater", unfollowed := true, recurses := true, named := ["postilion/survey.keyWords"], apart := false, laid := [("postilion/survey.keyWords", laid_postilion_survey_keyWords)] }
def TimetableLaterSaid : Prop := timetableLaterRow.holds Tryd.pinned (OpenSpec.ofChange timetableLaterSpec)

/-- ITS FALSE NEIGHBOUR: 'it returns false'. Refute it at one input. -/
def timetableLaterWrong : ChangeSpec := { name := "timetableLater", fn := fun _ => fun
  | [d1, d2, d3, d4] => { results := [.lit (.bool false)], args := [d1, d2, d3, d4] }
  | _ => none }
def TimetableLaterWrongFalsely : Prop := timetableLaterRow.holds Tryd.pinned (OpenSpec.ofChange timetableLaterWrong)

/-- 'postilionlaw13.TimetableLists': WHATEVER THE INPUT: true; the input reads as it did. -/
def timetableListsSpec : ChangeSpec := { name := "timetableLists", fn := fun _ => fun
  | [d1, d2, d3, d4, d5] => { results := [.lit (.bool true)], args := [d1, d2, d3, d4, d5] }
  | _ => none }
def timetableListsRow : OpenClaim := { program := "ytejeaokbkbfgjaadoor", sum := "a005e95d828c8c315021c511f6894cf7be79e860a853a8bdb88dd3c42dc219f0", func := "postilion/postilionlaw13.TimetableLists", spec := "timetableLists", unfollowed := true, recurses := true, named := ["postilion/survey.keyWords"], apart := false, laid := [("postilion/survey.keyWords", laid_postilion_survey_keyWords)] }
def TimetableListsSaid : Prop := timetableListsRow.holds Tryd.pinned (OpenSpec.ofChange timetableListsSpec)

/-- ITS FALSE NEIGHBOUR: 'it returns false'. Refute it at one input. -/
def timetableListsWrong : ChangeSpec := { name := "timetableLists", fn := fun _ => fun
  | [d1, d2, d3, d4, d5] => { results := [.lit (.bool false)], args := [d1, d2, d3, d4, d5] }
  | _ => none }
def TimetableListsWrongFalsely : Prop := timetableListsRow.holds Tryd.pinned (OpenSpec.ofChange timetableListsWrong)

/-- 'postilionlaw13.TimetableWait': WHATEVER THE INPUT: true; the input reads as it did. -/
def timetableWaitSpec : ChangeSpec := { name := "timetableWait", fn := fun _ => fun
  | [d1, d2, d3, d4, d5, d6] => { results := [.lit (.bool true)], args := [d1, d2, d3, d4, d5, d6] }
  | _ => none }
def timetableWaitRow : OpenClaim := { program := "ytejeaokbkbfgjaadoor", sum := "a005e95d828c8c315021c511f6894cf7be79e860a853a8bdb88dd3c42dc219f0", func := "postilion/postilionlaw13.TimetableWait", spec := "timetableWait", unfollowed := true, recurses := true, named := ["postilion/survey.keyWords"], apart := false, laid := [("postilion/survey.keyWords", laid_postilion_survey_keyWords)] }
def TimetableWaitSaid : Prop := timetableWaitRow.holds Tryd.pinned (OpenSpec.ofChange timetableWaitSpec)

/-- ITS FALSE NEIGHBOUR: 'it returns false'. Refute it at one input. -/
def timetableWaitWrong : ChangeSpec := { name := "timetableWait", fn := fun _ => fun
  | [d1, d2, d3, d4, d5, d6] => { results := [.lit (.bool false)], args := [d1, d2, d3, d4, d5, d6] }
  | _ => none }
def TimetableWaitWrongFalsely : Prop := timetableWaitRow.holds Tryd.pinned (OpenSpec.ofChange timetableWaitWrong)

/-- 'postilionlaw13.TimetableReached': WHATEVER THE INPUT: true; the input reads as it did. -/
def timetableReachedSpec : ChangeSpec := { name := "timetableReached", fn := fun _ => fun
  | [d1, d2, d3, d4] => { results := [.lit (.bool true)], args := [d1, d2, d3, d4] }
  | _ => none }
def timetableReachedRow : OpenClaim := { program := "ytejeaokbkbfgjaadoor", sum := "a005e95d828c8c315021c511f6894cf7be79e860a853a8bdb88dd3c42dc219f0", func := "postilion/postilionlaw13.TimetableReached", spec := "timetableReached", unfollowed := true, recurses := true, named := ["postilion/survey.keyWords"], apart := false, laid := [("postilion/survey.keyWords", laid_postilion_survey_keyWords)] }
def TimetableReachedSaid : Prop := timetableReachedRow.holds Tryd.pinned (OpenSpec.ofChange timetableReachedSpec)

/-- ITS FALSE NEIGHBOUR: 'it returns false'. Refute it at one input. -/
def timetableReachedWrong : ChangeSpec := { name := "timetableReached", fn := fun _ => fun
  | [d1, d2, d3, d4] => { results := [.lit (.bool false)], args := [d1, d2, d3, d4] }
  | _ => none }
def TimetableReachedWrongFalsely : Prop := timetableReachedRow.holds Tryd.pinned (OpenSpec.ofChange timetableReachedWrong)

/-- 'postilionlaw13.TimetableHolidays': WHATEVER THE INPUT: true; the input reads as it did. -/
def timetableHolidaysSpec : ChangeSpec := { name := "timetableHolidays", fn := fun _ => fun
  | [d1, d2, d3, d4] => { results := [.lit (.bool true)], args := [d1, d2, d3, d4] }
  | _ => none }
def timetableHolidaysRow : OpenClaim := { program := "ytejeaokbkbfgjaadoor", sum := "a005e95d828c8c315021c511f6894cf7be79e860a853a8bdb88dd3c42dc219f0", func := "postilion/postilionlaw13.TimetableHolidays", spec := "timetableHolidays", unfollowed := true, recurses := true, named := ["postilion/survey.keyWords"], apart := false, laid := [("postilion/survey.keyWords", laid_postilion_survey_keyWords)] }
def TimetableHolidaysSaid : Prop := timetableHolidaysRow.holds Tryd.pinned (OpenSpec.ofChange timetableHolidaysSpec)

/-- ITS FALSE NEIGHBOUR: 'it returns false'. Refute it at one input. -/
def timetableHolidaysWrong : ChangeSpec := { name := "timetableHolidays", fn := fun _ => fun
  | [d1, d2, d3, d4] => { results := [.lit (.bool false)], args := [d1, d2, d3, d4] }
  | _ => none }
def TimetableHolidaysWrongFalsely : Prop := timetableHolidaysRow.holds Tryd.pinned (OpenSpec.ofChange timetableHolidaysWrong)

/- THE SECOND FORM. 'bulk': how many values and letters a reading holds, each counted each time it is reached (what is shared counts as often as it is met; a slice's spare places count too). A statement '..UptoSaid' is the law's where the arguments, and the package variables that the reading takes, are together of bulk at most 1048576: NARROWER than '..Said'. Prove '..Said' where nothing that the law and all that it calls make is longer than what came in: it says more and counts as full. Else prove '..UptoSaid'. A law counts once. -/
mutual
def uptoBulk {H : Type} : DataW H → Nat
  | .lit (.string bytes) => bytes.length + 1
  | .lit _ => 1
  | .nil => 1
  | .ptr d => uptoBulk d + 1
  | .slice elems spare => uptoBulkAll elems + uptoBulkAll spare + 1
  | .agg parts => uptoBulkAll parts + 1
  | .iface _ d => uptoBulk d + 1
  | .map entries => uptoBulkEntries entries + 1
  | .held _ => 1
def uptoBulkAll {H : Type} : List (DataW H) → Nat
  | [] => 0
  | d :: r => uptoBulk d + uptoBulkAll r
def uptoBulkEntries {H : Type} : List (Lit × DataW H) → Nat
  | [] => 0
  | x :: r => uptoBulkEntry x + uptoBulkEntries r
def uptoBulkEntry {H : Type} : Lit × DataW H → Nat
  | (.string bytes, d) => bytes.length + uptoBulk d + 1
  | (_, d) => uptoBulk d + 1
 end
def uptoSmall : (H : Type) → List (DataW H) → Bool := fun _ ds => decide (uptoBulkAll ds ≤ 1048576)
def OpenSpec.upto (s : _root_.Go.ChangeSpec) : _root_.Go.OpenSpec := { _root_.Go.OpenSpec.ofChange s with cond := some uptoSmall }

/-- 'postilionlaw13.TimetableFirst', WHERE WHAT IT READS IS OF BULK AT MOST 1048576: true; the input reads as it did. -/
def timetableFirstUptoRow : OpenClaim := { program := "ytejeaokbkbfgjaadoor", sum := "a005e95d828c8c315021c511f6894cf7be79e860a853a8bdb88dd3c42dc219f0", func := "postilion/postilionlaw13.TimetableFirst", spec := "timetableFirst", unfollowed := true, recurses := true, named := ["postilion/survey.keyWords"], apart := false, laid := [("postilion/survey.keyWords", laid_postilion_survey_keyWords)], narrowed := true }
def TimetableFirstUptoSaid : Prop := timetableFirstUptoRow.holds Tryd.pinned (OpenSpec.upto timetableFirstSpec)

/-- 'postilionlaw13.TimetableLater', WHERE WHAT IT READS IS OF BULK AT MOST 1048576: true; the input reads as it did. -/
def timetableLaterUptoRow : OpenClaim := { program := "ytejeaokbkbfgjaadoor", sum := "a005e95d828c8c315021c511f6894cf7be79e860a853a8bdb88dd3c42dc219f0", func := "postilion/postilionlaw13.TimetableLater", spec := "timetableLater", unfollowed := true, recurses := true, named := ["postilion/survey.keyWords"], apart := false, laid := [("postilion/survey.keyWords", laid_postilion_survey_keyWords)], narrowed := true }
def TimetableLaterUptoSaid : Prop := timetableLaterUptoRow.holds Tryd.pinned (OpenSpec.upto timetableLaterSpec)

/-- 'postilionlaw13.TimetableLists', WHERE WHAT IT READS IS OF BULK AT MOST 1048576: true; the input reads as it did. -/
def timetableListsUptoRow : OpenClaim := { program := "ytejeaokbkbfgjaadoor", sum := "a005e95d828c8c315021c511f6894cf7be79e860a853a8bdb88dd3c42dc219f0", func := "postilion/postilionlaw13.TimetableLists", spec := "timetableLists", unfollowed := true, recurses := true, named := ["postilion/survey.keyWords"], apart := false, laid := [("postilion/survey.keyWords", laid_postilion_survey_keyWords)], narrowed := true }
def TimetableListsUptoSaid : Prop := timetableListsUptoRow.holds Tryd.pinned (OpenSpec.upto timetableListsSpec)

/-- 'postilionlaw13.TimetableWait', WHERE WHAT IT READS IS OF BULK AT MOST 1048576: true; the input reads as it did. -/
def timetableWaitUptoRow : OpenClaim := { program := "ytejeaokbkbfgjaadoor", sum := "a005e95d828c8c315021c511f6894cf7be79e860a853a8bdb88dd3c42dc219f0", func := "postilion/postilionlaw13.TimetableWait", spec := "timetableWait", unfollowed := true, recurses := true, named := ["postilion/survey.keyWords"], apart := false, laid := [("postilion/survey.keyWords", laid_postilion_survey_keyWords)], narrowed := true }
def TimetableWaitUptoSaid : Prop := timetableWaitUptoRow.holds Tryd.pinned (OpenSpec.upto timetableWaitSpec)

/-- 'postilionlaw13.TimetableReached', WHERE WHAT IT READS IS OF BULK AT MOST 1048576: true; the input reads as it did. -/
def timetableReachedUptoRow : OpenClaim := { program := "ytejeaokbkbfgjaadoor", sum := "a005e95d828c8c315021c511f6894cf7be79e860a853a8bdb88dd3c42dc219f0", func := "postilion/postilionlaw13.TimetableReached", spec := "timetableReached", unfollowed := true, recurses := true, named := ["postilion/survey.keyWords"], apart := false, laid := [("postilion/survey.keyWords", laid_postilion_survey_keyWords)], narrowed := true }
def TimetableReachedUptoSaid : Prop := timetableReachedUptoRow.holds Tryd.pinned (OpenSpec.upto timetableReachedSpec)

/-- 'postilionlaw13.TimetableHolidays', WHERE WHAT IT READS IS OF BULK AT MOST 1048576: true; the input reads as it did. -/
def timetableHolidaysUptoRow : OpenClaim := { program := "ytejeaokbkbfgjaadoor", sum := "a005e95d828c8c315021c511f6894cf7be79e860a853a8bdb88dd3c42dc219f0", func := "postilion/postilionlaw13.TimetableHolidays", spec := "timetableHolidays", unfollowed := true, recurses := true, named := ["postilion/survey.keyWords"], apart := false, laid := [("postilion/survey.keyWords", laid_postilion_survey_keyWords)], narrowed := true }
def TimetableHolidaysUptoSaid : Prop := timetableHolidaysUptoRow.holds Tryd.pinned (OpenSpec.upto timetableHolidaysSpec)

end Rows
end Go.Proofs.YtejeaokbkbfgjaaDoor
