/-
  NARROWER THAN 'FOR EVERY INPUT', by the rows' own cells (each row's printed sentence says how): CompileGroups: laid · CompileDays: laid · CompileErrors: laid · CompilePlans: laid · CompileSorts: laid · CompilePromises: laid.
  DERIVED. THE GIVEN ROWS OF THIS SEAT. 6 by the template 'for every input the law returns true; each argument reads behind the call as it read before'; 0 by the template 'total and deterministic' (their statements: YtlakcpmgefpfaaaGreatDoorTotals.lean).
  GIVEN WITH THE SEED: the statements are not yours to turn. If you find one false, say at which input.
  Laid BY PROGRAM, IN A SANDBOX (cutbox-rows.mjs): the forced cells as the released guide's own fill.sh prints them over the translation 4655248e14a70f96… (all of the seat's roots in one cut). By AI agents, Wed Nov 11 2026. No macro, syntax, notation, axiom, sorry.
-/
import Derived.Test.YtlakcpmgefpfaaaGreatDoorChecked
import GoSem.Claim
import GoSem.ClaimJoined
import GoSem.ClaimMapViews
import Derived.JoinedTies
import Derived.KernelRfl
namespace Go.Proofs.YtlakcpmgefpfaaaGreatDoor
/- THE CELL 'sum', in the pinned program and in every row, IS THE sha256 OF THE DUMP (.gsa) THAT YtlakcpmgefpfaaaGreatDoorProg.lean LOADS. Nothing in Lean hashes anything: it is a label: what it is worth is what the hold of that sum in a sandbox is worth. -/
noncomputable def Tryz.pinned : Pinned := { name := "ytlakcpmgefpfaaagreatdoor", sum := "4655248e14a70f962b0284a3411b074c9806b1ddb998440c68bec5838de3c2da", checked := Tryz.checked }
namespace Rows
def none {H : Type} : Left H := { results := [], args := [] }

/- WHAT THE LISTED PACKAGE-LEVEL VARIABLES READ AS WHEN THE CALL BEGINS. Each datum BY PROGRAM (the guide's laid-datum.mjs) off the statement by which the dump's own 'gosem.cut.vars' lays the variable. In a bare row this is a premise. The card (YtlakcpmgefpfaaaGreatDoorCards.lean) ties it to the program's text. -/
def laid_postilion_survey_keyWords {H : Type} : DataW H := .agg [.lit (.string [99, 97, 108, 101, 110, 100, 97, 114]), .lit (.string [111, 112, 101, 114, 97, 116, 111, 114]), .lit (.string [111, 102, 102, 105, 99, 101]), .lit (.string [108, 105, 110, 101]), .lit (.string [99, 108, 97, 115, 115]), .lit (.string [122, 111, 110, 101]), .lit (.string [119, 101, 101, 107]), .lit (.string [104, 111, 108, 105, 100, 97, 121]), .lit (.string [112, 111, 99, 107, 101, 116, 115]), .lit (.string [112, 97, 115, 115, 101, 115]), .lit (.string [109, 105, 110, 117, 116, 101, 115]), .lit (.string [99, 111, 100, 101, 115]), .lit (.string [97, 116]), .lit (.string [116, 114, 97, 118, 101, 108]), .lit (.string [108, 111, 97, 100]), .lit (.string [99, 117, 116]), .lit (.string [100, 101, 108, 105, 118, 101, 114])]

/-- 'postilionlaw21.CompileGroups': WHATEVER THE INPUT: true; the input reads as it did. -/
def compileGroupsSpec : ChangeSpec := { name := "compileGroups", fn := fun _ => fun
  | [d1, d2, d3, d4, d5] => { results := [.lit (.bool true)], args := [d1, d2, d3, d4, d5] }
  | _ => none }
def compileGroupsRow : OpenClaim := { program := "ytlakcpmgefpfaaagreatdoor", sum := "4655248e14a70f962b0284a3411b074c9806b1ddb998440c68bec5838de3c2da", func := "postilion/postilionlaw21.CompileGroups", spec := "compileGroups", unfollowed := true, recurses := true, named := ["postilion/survey.keyWords"], apart := false, laid := [("postilion/survey.keyWords", laid_postilion_survey_keyWords)] }
def CompileGroupsSaid : Prop := compileGroupsRow.holds Tryz.pinned (OpenSpec.ofChange compileGroupsSpec)

/-- ITS FALSE NEIGHBOUR: 'it returns false'. Refute it at one input. -/
def compileGroupsWrong : ChangeSpec := { name := "compileGroups", fn := fun _ => fun
  | [d1, d2, d3, d4, d5] => { results := [.lit (.bool false)], args := [d1, d2, d3, d4, d5] }
  | _ => none }
def CompileGroupsWrongFalsely : Prop := compileGroupsRow.holds Tryz.pinned (OpenSpec.ofChange compileGroupsWrong)

/-- 'postilionlaw21.CompileDays': WHATEVER THE INPUT: true; the input reads as it did. -/
def compileDaysSpec : ChangeSpec := { name := "compileDays", fn := fun _ => fun
  | [d1, d2, d3, d4, d5] => { results := [.lit (.bool true)], args := [d1, d2, d3, d4, d5] }
  | _ => none }
def compileDaysRow : OpenClaim := { program := "ytlakcpmgefpfaaagreatdoor", sum := "4655248e14a70f962b0284a3411b074c9806b1ddb998440c68bec5838de3c2da", func := "postilion/postilionlaw21.CompileDays", spec := "compileDays", unfollowed := true, recurses := true, named := ["postilion/survey.keyWords"], apart := false, laid := [("postilion/survey.keyWords", laid_postilion_survey_keyWords)] }
def CompileDaysSaid : Prop := compileDaysRow.holds Tryz.pinned (OpenSpec.ofChange compileDaysSpec)

/-- ITS FALSE NEIGHBOUR: 'it returns false'. Refute it at one input. -/
def compileDaysWrong : ChangeSpec := { name := "compileDays", fn := fun _ => fun
  | [d1, d2, d3, d4, d5] => { results := [.lit (.bool false)], args := [d1, d2, d3, d4, d5] }
  | _ => none }
def CompileDaysWrongFalsely : Prop := compileDaysRow.holds Tryz.pinned (OpenSpec.ofChange compileDaysWrong)

/-- 'postilionlaw21.CompileErrors': WHATEVER THE INPUT: true; the input reads as it did. -/
def compileErrorsSpec : ChangeSpec := { name := "compileErrors", fn := fun _ => fun
  | [d1, d2, d3] => { results := [.lit (.bool true)], args := [d1, d2, d3] }
  | _ => none }
def compileErrorsRow : OpenClaim := { program := "ytlakcpmgefpfaaagreatdoor", sum := "4655248e14a70f962b0284a3411b074c9806b1ddb998440c68bec5838de3c2da", func := "postilion/postilionlaw21.CompileErrors", spec := "compileErrors", unfollowed := true, recurses := true, named := ["postilion/survey.keyWords"], apart := false, laid := [("postilion/survey.keyWords", laid_postilion_survey_keyWords)] }
def CompileErrorsSaid : Prop := compileErrorsRow.holds Tryz.pinned (OpenSpec.ofChange compileErrorsSpec)

/-- ITS FALSE NEIGHBOUR: 'it returns false'. Refute it at one input. -/
def compileErrorsWrong : ChangeSpec := { name := "compileErrors", fn := fun _ => fun
  | [d1, d2, d3] => { results := [.lit (.bool false)], args := [d1, d2, d3] }
  | _ => none }
def CompileErrorsWrongFalsely : Prop := compileErrorsRow.holds Tryz.pinned (OpenSpec.ofChange compileErrorsWrong)

/-- 'postilionlaw21.CompilePlans': WHATEVER THE INPUT: true; the input reads as it did. -/
def compilePlansSpec : ChangeSpec := { name := "compilePlans", fn := fun _ => fun
  | [d1, d2, d3] => { results := [.lit (.bool true)], args := [d1, d2, d3] }
  | _ => none }
def compilePlansRow : OpenClaim := { program := "ytlakcpmgefpfaaagreatdoor", sum := "4655248e14a70f962b0284a3411b074c9806b1ddb998440c68bec5838de3c2da", func := "postilion/postilionlaw21.CompilePlans", spec := "compilePlans", unfollowed := true, recurses := true, named := ["postilion/survey.keyWords"], apart := false, laid := [("postilion/survey.keyWords", laid_postilion_survey_keyWords)] }
def CompilePlansSaid : Prop := compilePlansRow.holds Tryz.pinned (OpenSpec.ofChange compilePlansSpec)

/-- ITS FALSE NEIGHBOUR: 'it returns false'. Refute it at one input. -/
def compilePlansWrong : ChangeSpec := { name := "compilePlans", fn := fun _ => fun
  | [d1, d2, d3] => { results := [.lit (.bool false)], args := [d1, d2, d3] }
  | _ => none }
def CompilePlansWrongFalsely : Prop := compilePlansRow.holds Tryz.pinned (OpenSpec.ofChange compilePlansWrong)

/-- 'postilionlaw21.CompileSorts': WHATEVER THE INPUT: true; the input reads as it did. -/
def compileSortsSpec : ChangeSpec := { name := "compileSorts", fn := fun _ => fun
  | [d1, d2, d3, d4, d5] => { results := [.lit (.bool true)], args := [d1, d2, d3, d4, d5] }
  | _ => none }
def compileSortsRow : OpenClaim := { program := "ytlakcpmgefpfaaagreatdoor", sum := "4655248e14a70f962b0284a3411b074c9806b1ddb998440c68bec5838de3c2da", func := "postilion/postilionlaw21.CompileSorts", spec := "compileSorts", unfollowed := true, recurses := true, named := ["postilion/survey.keyWords"], apart := false, laid := [("postilion/survey.keyWords", laid_postilion_survey_keyWords)] }
def CompileSortsSaid : Prop := compileSortsRow.holds Tryz.pinned (OpenSpec.ofChange compileSortsSpec)

/-- ITS FALSE NEIGHBOUR: 'it returns false'. Refute it at one input. -/
def compileSortsWrong : ChangeSpec := { name := "compileSorts", fn := fun _ => fun
  | [d1, d2, d3, d4, d5] => { results := [.lit (.bool false)], args := [d1, d2, d3, d4, d5] }
  | _ => none }
def CompileSortsWrongFalsely : Prop := compileSortsRow.holds Tryz.pinned (OpenSpec.ofChange compileSortsWrong)

/-- 'postilionlaw21.CompilePromises': WHATEVER THE INPUT: true; the input reads as it did. -/
def compilePromisesSpec : ChangeSpec := { name := "compilePromises", fn := fun _ => fun
  | [d1, d2, d3, d4, d5, d6, d7] => { results := [.lit (.bool true)], args := [d1, d2, d3, d4, d5, d6, d7] }
  | _ => none }
def compilePromisesRow : OpenClaim := { program := "ytlakcpmgefpfaaagreatdoor", sum := "4655248e14a70f962b0284a3411b074c9806b1ddb998440c68bec5838de3c2da", func := "postilion/postilionlaw21.CompilePromises", spec := "compilePromises", unfollowed := true, recurses := true, named := ["postilion/survey.keyWords"], apart := false, laid := [("postilion/survey.keyWords", laid_postilion_survey_keyWords)] }
def CompilePromisesSaid : Prop := compilePromisesRow.holds Tryz.pinned (OpenSpec.ofChange compilePromisesSpec)

/-- ITS FALSE NEIGHBOUR: 'it returns false'. Refute it at one input. -/
def compilePromisesWrong : ChangeSpec := { name := "compilePromises", fn := fun _ => fun
  | [d1, d2, d3, d4, d5, d6, d7] => { results := [.lit (.bool false)], args := [d1, d2, d3, d4, d5, d6, d7] }
  | _ => none }
def CompilePromisesWrongFalsely : Prop := compilePromisesRow.holds Tryz.pinned (OpenSpec.ofChange compilePromisesWrong)

/- THE SECOND FORM. 'bulk': how many values and letters a reading holds, each counted each time it is reached (what is shared counts as often as it is met; a slice's spare places count too). A statement '..UptoSaid' is the law's where the arguments, and the package variables that the reading takes, are together of bulk at most 1048576: NARROWER than '..Said'. Prove '..Said' where nothing that the law and all that it calls make is longer than what came in: it says more and counts as full. Else prove '..UptoSaid'. A law counts once. -/
mutual
def uptoBulk {H : Type} : DataW H → Nat
  | .lit (.string bytes) => bytes.length + 1
  | .lit _ => 1
  | .nil => 1
  | .ptr d => uptoBulk d + 1
  | .slice elems spare => uptoBulkAll elems + uptoBulkAll spare + 1
  | .agg parts => uptoBulkAll parts + 1
  | .iface _ d => uptoBulk d + 1
  | .map entries => uptoBulkEntries entries + 1
  | .held _ => 1
def uptoBulkAll {H : Type} : List (DataW H) → Nat
  | [] => 0
  | d :: r => uptoBulk d + uptoBulkAll r
def uptoBulkEntries {H : Type} : List (Lit × DataW H) → Nat
  | [] => 0
  | x :: r => uptoBulkEntry x + uptoBulkEntries r
def uptoBulkEntry {H : Type} : Lit × DataW H → Nat
  | (.string bytes, d) => bytes.length + uptoBulk d + 1
  | (_, d) => uptoBulk d + 1
 end
def uptoSmall : (H : Type) → List (DataW H) → Bool := fun _ ds => decide (uptoBulkAll ds ≤ 1048576)
def OpenSpec.upto (s : _root_.Go.ChangeSpec) : _root_.Go.OpenSpec := { _root_.Go.OpenSpec.ofChange s with cond := some uptoSmall }

/-- 'postilionlaw21.CompileGroups', WHERE WHAT IT READS IS OF BULK AT MOST 1048576: true; the input reads as it did. -/
def compileGroupsUptoRow : OpenClaim := { program := "ytlakcpmgefpfaaagreatdoor", sum := "4655248e14a70f962b0284a3411b074c9806b1ddb998440c68bec5838de3c2da", func := "postilion/postilionlaw21.CompileGroups", spec := "compileGroups", unfollowed := true, recurses := true, named := ["postilion/survey.keyWords"], apart := false, laid := [("postilion/survey.keyWords", laid_postilion_survey_keyWords)], narrowed := true }
def CompileGroupsUptoSaid : Prop := compileGroupsUptoRow.holds Tryz.pinned (OpenSpec.upto compileGroupsSpec)

/-- 'postilionlaw21.CompileDays', WHERE WHAT IT READS IS OF BULK AT MOST 1048576: true; the input reads as it did. -/
def compileDaysUptoRow : OpenClaim := { program := "ytlakcpmgefpfaaagreatdoor", sum := "4655248e14a70f962b0284a3411b074c9806b1ddb998440c68bec5838de3c2da", func := "postilion/postilionlaw21.CompileDays", spec := "compileDays", unfollowed := true, recurses := true, named := ["postilion/survey.keyWords"], apart := false, laid := [("postilion/survey.keyWords", laid_postilion_survey_keyWords)], narrowed := true }
def CompileDaysUptoSaid : Prop := compileDaysUptoRow.holds Tryz.pinned (OpenSpec.upto compileDaysSpec)

/-- 'postilionlaw21.CompileErrors', WHERE WHAT IT READS IS OF BULK AT MOST 1048576: true; the input reads as it did. -/
def compileErrorsUptoRow : OpenClaim := { program := "ytlakcpmgefpfaaagreatdoor", sum := "4655248e14a70f962b0284a3411b074c9806b1ddb998440c68bec5838de3c2da", func := "postilion/postilionlaw21.CompileErrors", spec := "compileErrors", unfollowed := true, recurses := true, named := ["postilion/survey.keyWords"], apart := false, laid := [("postilion/survey.keyWords", laid_postilion_survey_keyWords)], narrowed := true }
def CompileErrorsUptoSaid : Prop := compileErrorsUptoRow.holds Tryz.pinned (OpenSpec.upto compileErrorsSpec)

/-- 'postilionlaw21.CompilePlans', WHERE WHAT IT READS IS OF BULK AT MOST 1048576: true; the input reads as it did. -/
def compilePlansUptoRow : OpenClaim := { program := "ytlakcpmgefpfaaagreatdoor", sum := "4655248e14a70f962b0284a3411b074c9806b1ddb998440c68bec5838de3c2da", func := "postilion/postilionlaw21.CompilePlans", spec := "compilePlans", unfollowed := true, recurses := true, named := ["postilion/survey.keyWords"], apart := false, laid := [("postilion/survey.keyWords", laid_postilion_survey_keyWords)], narrowed := true }
def CompilePlansUptoSaid : Prop := compilePlansUptoRow.holds Tryz.pinned (OpenSpec.upto compilePlansSpec)

/-- 'postilionlaw21.CompileSorts', WHERE WHAT IT READS IS OF BULK AT MOST 1048576: true; the input reads as it did. -/
def compileSortsUptoRow : OpenClaim := { program := "ytlakcpmgefpfaaagreatdoor", sum := "4655248e14a70f962b0284a3411b074c9806b1ddb998440c68bec5838de3c2da", func := "postilion/postilionlaw21.CompileSorts", spec := "compileSorts", unfollowed := true, recurses := true, named := ["postilion/survey.keyWords"], apart := false, laid := [("postilion/survey.keyWords", laid_postilion_survey_keyWords)], narrowed := true }
def CompileSortsUptoSaid : Prop := compileSortsUptoRow.holds Tryz.pinned (OpenSpec.upto compileSortsSpec)

/-- 'postilionlaw21.CompilePromises', WHERE WHAT IT READS IS OF BULK AT MOST 1048576: true; the input reads as it did. -/
def compilePromisesUptoRow : OpenClaim := { program := "ytlakcpmgefpfaaagreatdoor", sum := "4655248e14a70f962b0284a3411b074c9806b1ddb998440c68bec5838de3c2da", func := "postilion/postilionlaw21.CompilePromises", spec := "compilePromises", unfollowed := true, recurses := true, named := ["postilion/survey.keyWords"], apart := false, laid := [("postilion/survey.keyWords", laid_postilion_survey_keyWords)], narrowed := true }
def CompilePromisesUptoSaid : Prop := compilePromisesUptoRow.holds Tryz.pinned (OpenSpec.upto compilePromisesSpec)

end Rows
end Go.Proofs.YtlakcpmgefpfaaaGreatDoor
