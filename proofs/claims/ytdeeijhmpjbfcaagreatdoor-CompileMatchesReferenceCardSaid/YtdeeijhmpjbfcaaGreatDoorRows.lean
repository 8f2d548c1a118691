/-
  NARROWER THAN 'FOR EVERY INPUT', by the rows' own cells (each row's printed sentence says how): CompileMatchesReference: laid.
  DERIVED. THE GIVEN ROWS OF THIS SEAT. 1 by the template 'for every input the law returns true; each argument reads behind the call as it read before'; 0 by the template 'total and deterministic' (their statements: YtdeeijhmpjbfcaaGreatDoorTotals.lean).
  GIVEN WITH THE SEED: the statements are not yours to turn. If you find one false, say at which input.
  Laid BY PROGRAM, IN A SANDBOX (cutbox-rows.mjs): the forced cells as the released guide's own fill.sh prints them over the translation 5908037ff2e43b1e… (all of the seat's roots in one cut). By AI agents, Wed Nov 11 2026. No macro, syntax, notation, axiom, sorry.
-/
import Derived.Test.YtdeeijhmpjbfcaaGreatDoorChecked
import GoSem.Claim
import GoSem.ClaimJoined
import GoSem.ClaimMapViews
import Derived.JoinedTies
import Derived.KernelRfl
namespace Go.Proofs.YtdeeijhmpjbfcaaGreatDoor
/- THE CELL 'sum', in the pinned program and in every row, IS THE sha256 OF THE DUMP (.gsa) THAT YtdeeijhmpjbfcaaGreatDoorProg.lean LOADS. Nothing in Lean hashes anything: it is a label: what it is worth is what the hold of that sum in a sandbox is worth. -/
noncomputable def Tryz.pinned : Pinned := { name := "ytdeeijhmpjbfcaagreatdoor", sum := "5908037ff2e43b1e76c3e4f2e26f762945f0f884d8bd69fec64b4c2820134293", checked := Tryz.checked }
namespace Rows
def none {H : Type} : Left H := { results := [], args := [] }

/- WHAT THE LISTED PACKAGE-LEVEL VARIABLES READ AS WHEN THE CALL BEGINS. Each datum BY PROGRAM (the guide's laid-datum.mjs) off the statement by which the dump's own 'gosem.cut.vars' lays the variable. In a bare row this is a premise. The card (YtdeeijhmpjbfcaaGreatDoorCards.lean) ties it to the program's text. -/
def laid_postilion_survey_keyWords {H : Type} : DataW H := .agg [.lit (.string [99, 97, 108, 101, 110, 100, 97, 114]), .lit (.string [111, 112, 101, 114, 97, 116, 111, 114]), .lit (.string [111, 102, 102, 105, 99, 101]), .lit (.string [108, 105, 110, 101]), .lit (.string [99, 108, 97, 115, 115]), .lit (.string [122, 111, 110, 101]), .lit (.string [119, 101, 101, 107]), .lit (.string [104, 111, 108, 105, 100, 97, 121]), .lit (.string [112, 111, 99, 107, 101, 116, 115]), .lit (.string [112, 97, 115, 115, 101, 115]), .lit (.string [109, 105, 110, 117, 116, 101, 115]), .lit (.string [99, 111, 100, 101, 115]), .lit (.string [97, 116]), .lit (.string [116, 114, 97, 118, 101, 108]), .lit (.string [108, 111, 97, 100]), .lit (.string [99, 117, 116]), .lit (.string [100, 101, 108, 105, 118, 101, 114])]

/-- 'postilionlaw21.CompileMatchesReference': WHATEVER THE INPUT: true; the input reads as it did. -/
def compileMatchesReferenceSpec : ChangeSpec := { name := "compileMatchesReference", fn := fun _ => fun
  | [d1, d2, d3, d4, d5] => { results := [.lit (.bool true)], args := [d1, d2, d3, d4, d5] }
  | _ => none }
def compileMatchesReferenceRow : OpenClaim := { program := "ytdeeijhmpjbfcaagreatdoor", sum := "5908037ff2e43b1e76c3e4f2e26f762945f0f884d8bd69fec64b4c2820134293", func := "postilion/postilionlaw21.CompileMatchesReference", spec := "compileMatchesReference", unfollowed := true, recurses := true, named := ["postilion/survey.keyWords"], apart := false, laid := [("postilion/survey.keyWords", laid_postilion_survey_keyWords)] }
def CompileMatchesReferenceSaid : Prop := compileMatchesReferenceRow.holds Tryz.pinned (OpenSpec.ofChange compileMatchesReferenceSpec)

/-- ITS FALSE NEIGHBOUR: 'it returns false'. Refute it at one input. -/
def compileMatchesReferenceWrong : ChangeSpec := { name := "compileMatchesReference", fn := fun _ => fun
  | [d1, d2, d3, d4, d5] => { results := [.lit (.bool false)], args := [d1, d2, d3, d4, d5] }
  | _ => none }
def CompileMatchesReferenceWrongFalsely : Prop := compileMatchesReferenceRow.holds Tryz.pinned (OpenSpec.ofChange compileMatchesReferenceWrong)

/- THE SECOND FORM. 'bulk': how many values and letters a reading holds, each counted each time it is reached (what is shared counts as often as it is met; a slice's spare places count too). A statement '..UptoSaid' is the law's where the arguments, and the package variables that the reading takes, are together of bulk at most 1048576: NARROWER than '..Said'. Prove '..Said' where nothing that the law and all that it calls make is longer than what came in: it says more and counts as full. Else prove '..UptoSaid'. A law counts once. -/
mutual
def uptoBulk {H : Type} : DataW H → Nat
  | .lit (.string bytes) => bytes.length + 1
  | .lit _ => 1
  | .nil => 1
  | .ptr d => uptoBulk d + 1
  | .slice elems spare => uptoBulkAll elems + uptoBulkAll spare + 1
  | .agg parts => uptoBulkAll parts + 1
  | .iface _ d => uptoBulk d + 1
  | .map entries => uptoBulkEntries entries + 1
  | .held _ => 1
def uptoBulkAll {H : Type} : List (DataW H) → Nat
  | [] => 0
  | d :: r => uptoBulk d + uptoBulkAll r
def uptoBulkEntries {H : Type} : List (Lit × DataW H) → Nat
  | [] => 0
  | x :: r => uptoBulkEntry x + uptoBulkEntries r
def uptoBulkEntry {H : Type} : Lit × DataW H → Nat
  | (.string bytes, d) => bytes.length + uptoBulk d + 1
  | (_, d) => uptoBulk d + 1
 end
def uptoSmall : (H : Type) → List (DataW H) → Bool := fun _ ds => decide (uptoBulkAll ds ≤ 1048576)
def OpenSpec.upto (s : _root_.Go.ChangeSpec) : _root_.Go.OpenSpec := { _root_.Go.OpenSpec.ofChange s with cond := some uptoSmall }

/-- 'postilionlaw21.CompileMatchesReference', WHERE WHAT IT READS IS OF BULK AT MOST 1048576: true; the input reads as it did. -/
def compileMatchesReferenceUptoRow : OpenClaim := { program := "ytdeeijhmpjbfcaagreatdoor", sum := "5908037ff2e43b1e76c3e4f2e26f762945f0f884d8bd69fec64b4c2820134293", func := "postilion/postilionlaw21.CompileMatchesReference", spec := "compileMatchesReference", unfollowed := true, recurses := true, named := ["postilion/survey.keyWords"], apart := false, laid := [("postilion/survey.keyWords", laid_postilion_survey_keyWords)], narrowed := true }
def CompileMatchesReferenceUptoSaid : Prop := compileMatchesReferenceUptoRow.holds Tryz.pinned (OpenSpec.upto compileMatchesReferenceSpec)

end Rows
end Go.Proofs.YtdeeijhmpjbfcaaGreatDoor
