/-
  No cell of these rows narrows 'for every input' (looked for: loops, veiled, ifaces, maps, wideKeys, modest, calm, conditions, laid).
  DERIVED. THE GIVEN ROWS OF THIS SEAT. 4 by the template 'for every input the law returns true; each argument reads behind the call as it read before'; 0 by the template 'total and deterministic' (their statements: YtlobbofhlcjlmaaTotals.lean).
  GIVEN WITH THE SEED: the statements are not yours to turn. If you find one false, say at which input.
  Laid BY PROGRAM, IN A SANDBOX (cutbox-rows.mjs): the forced cells as the released guide's own fill.sh prints them over the translation a4eed918c7a94283… (all of the seat's roots in one cut). By AI agents, Wed Nov 11 2026. No macro, syntax, notation, axiom, sorry.
-/
import Derived.Test.YtlobbofhlcjlmaaChecked
import GoSem.Claim
import GoSem.ClaimJoined
import GoSem.ClaimMapViews
import Derived.JoinedTies
import Derived.KernelRfl
namespace Go.Proofs.Ytlobbofhlcjlmaa
/- THE CELL 'sum', in the pinned program and in every row, IS THE sha256 OF THE DUMP (.gsa) THAT YtlobbofhlcjlmaaProg.lean LOADS. Nothing in Lean hashes anything: it is a label: what it is worth is what the hold of that sum in a sandbox is worth. -/
noncomputable def Try.pinned : Pinned := { name := "ytlobbofhlcjlmaa", sum := "a4eed918c7a94283811234bf01b80edd370beb821f6a29b4e82204d33e9bf6a7", checked := Try.checked }
namespace Rows
def none {H : Type} : Left H := { results := [], args := [] }

/-- 'postilionlaw19.InspectRejects': WHATEVER THE INPUT: true; the input reads as it did. -/
def inspectRejectsSpec : ChangeSpec := { name := "inspectRejects", fn := fun _ => fun
  | [d1, d2, d3, d4] => { results := [.lit (.bool true)], args := [d1, d2, d3, d4] }
  | _ => none }
def inspectRejectsRow : OpenClaim := { program := "ytlobbofhlcjlmaa", sum := "a4eed918c7a94283811234bf01b80edd370beb821f6a29b4e82204d33e9bf6a7", func := "postilion/postilionlaw19.InspectRejects", spec := "inspectRejects", unfollowed := true, recurses := true, apart := false }
def InspectRejectsSaid : Prop := inspectRejectsRow.holds Try.pinned (OpenSpec.ofChange inspectRejectsSpec)

/-- ITS FALSE NEIGHBOUR: 'it returns false'. Refute it at one input. -/
def inspectRejectsWrong : ChangeSpec := { name := "inspectRejects", fn := fun _ => fun
  | [d1, d2, d3, d4] => { results := [.lit (.bool false)], args := [d1, d2, d3, d4] }
  | _ => none }
def InspectRejectsWrongFalsely : Prop := inspectRejectsRow.holds Try.pinned (OpenSpec.ofChange inspectRejectsWrong)

/-- 'postilionlaw19.InspectNumbers': WHATEVER THE INPUT: true; the input reads as it did. -/
def inspectNumbersSpec : ChangeSpec := { name := "inspectNumbers", fn := fun _ => fun
  | [d1, d2, d3] => { results := [.lit (.bool true)], args := [d1, d2, d3] }
  | _ => none }
def inspectNumbersRow : OpenClaim := { program := "ytlobbofhlcjlmaa", sum := "a4eed918c7a94283811234bf01b80edd370beb821f6a29b4e82204d33e9bf6a7", func := "postilion/postilionlaw19.InspectNumbers", spec := "inspectNumbers", unfollowed := true, recurses := true, apart := false }
def InspectNumbersSaid : Prop := inspectNumbersRow.holds Try.pinned (OpenSpec.ofChange inspectNumbersSpec)

/-- ITS FALSE NEIGHBOUR: 'it returns false'. Refute it at one input. -/
def inspectNumbersWrong : ChangeSpec := { name := "inspectNumbers", fn := fun _ => fun
  | [d1, d2, d3] => { results := [.lit (.bool false)], args := [d1, d2, d3] }
  | _ => none }
def InspectNumbersWrongFalsely : Prop := inspectNumbersRow.holds Try.pinned (OpenSpec.ofChange inspectNumbersWrong)

/-- 'postilionlaw19.InspectWeaker': WHATEVER THE INPUT: true; the input reads as it did. -/
def inspectWeakerSpec : ChangeSpec := { name := "inspectWeaker", fn := fun _ => fun
  | [d1, d2, d3, d4, d5, d6] => { results := [.lit (.bool true)], args := [d1, d2, d3, d4, d5, d6] }
  | _ => none }
def inspectWeakerRow : OpenClaim := { program := "ytlobbofhlcjlmaa", sum := "a4eed918c7a94283811234bf01b80edd370beb821f6a29b4e82204d33e9bf6a7", func := "postilion/postilionlaw19.InspectWeaker", spec := "inspectWeaker", unfollowed := true, recurses := true, apart := false }
def InspectWeakerSaid : Prop := inspectWeakerRow.holds Try.pinned (OpenSpec.ofChange inspectWeakerSpec)

/-- ITS FALSE NEIGHBOUR: 'it returns false'. Refute it at one input. -/
def inspectWeakerWrong : ChangeSpec := { name := "inspectWeaker", fn := fun _ => fun
  | [d1, d2, d3, d4, d5, d6] => { results := [.lit (.bool false)], args := [d1, d2, d3, d4, d5, d6] }
  | _ => none }
def InspectWeakerWrongFalsely : Prop := inspectWeakerRow.holds Try.pinned (OpenSpec.ofChange inspectWeakerWrong)

/-- 'postilionlaw19.InspectOthers': WHATEVER THE INPUT: true; the input reads as it did. -/
def inspectOthersSpec : ChangeSpec := { name := "inspectOthers", fn := fun _ => fun
  | [d1, d2, d3] => { results := [.lit (.bool true)], args := [d1, d2, d3] }
  | _ => none }
def inspectOthersRow : OpenClaim := { program := "ytlobbofhlcjlmaa", sum := "a4eed918c7a94283811234bf01b80edd370beb821f6a29b4e82204d33e9bf6a7", func := "postilion/postilionlaw19.InspectOthers", spec := "inspectOthers", unfollowed := true, recurses := true, apart := false }
def InspectOthersSaid : Prop := inspectOthersRow.holds Try.pinned (OpenSpec.ofChange inspectOthersSpec)

/-- ITS FALSE NEIGHBOUR: 'it returns false'. Refute it at one input. -/
def inspectOthersWrong : ChangeSpec := { name := "inspectOthers", fn := fun _ => fun
  | [d1, d2, d3] => { results := [.lit (.bool false)], args := [d1, d2, d3] }
  | _ => none }
def InspectOthersWrongFalsely : Prop := inspectOthersRow.holds Try.pinned (OpenSpec.ofChange inspectOthersWrong)

/- THE SECOND FORM. 'bulk': how many values and letters a reading holds, each counted each time it is reached (what is shared counts as often as it is met; a slice's spare places count too). A statement '..UptoSaid' is the law's where the arguments, and the package variables that the reading takes, are together of bulk at most 1048576: NARROWER than '..Said'. Prove '..Said' where nothing that the law and all that it calls make is longer than what came in: it says more and counts as full. Else prove '..UptoSaid'. A law counts once. -/
mutual
def uptoBulk {H : Type} : DataW H → Nat
  | .lit (.string bytes) => bytes.length + 1
  | .lit _ => 1
  | .nil => 1
  | .ptr d => uptoBulk d + 1
  | .slice elems spare => uptoBulkAll elems + uptoBulkAll spare + 1
  | .agg parts => uptoBulkAll parts + 1
  | .iface _ d => uptoBulk d + 1
  | .map entries => uptoBulkEntries entries + 1
  | .held _ => 1
def uptoBulkAll {H : Type} : List (DataW H) → Nat
  | [] => 0
  | d :: r => uptoBulk d + uptoBulkAll r
def uptoBulkEntries {H : Type} : List (Lit × DataW H) → Nat
  | [] => 0
  | x :: r => uptoBulkEntry x + uptoBulkEntries r
def uptoBulkEntry {H : Type} : Lit × DataW H → Nat
  | (.string bytes, d) => bytes.length + uptoBulk d + 1
  | (_, d) => uptoBulk d + 1
 end
def uptoSmall : (H : Type) → List (DataW H) → Bool := fun _ ds => decide (uptoBulkAll ds ≤ 1048576)
def OpenSpec.upto (s : _root_.Go.ChangeSpec) : _root_.Go.OpenSpec := { _root_.Go.OpenSpec.ofChange s with cond := some uptoSmall }

/-- 'postilionlaw19.InspectRejects', WHERE WHAT IT READS IS OF BULK AT MOST 1048576: true; the input reads as it did. -/
def inspectRejectsUptoRow : OpenClaim := { program := "ytlobbofhlcjlmaa", sum := "a4eed918c7a94283811234bf01b80edd370beb821f6a29b4e82204d33e9bf6a7", func := "postilion/postilionlaw19.InspectRejects", spec := "inspectRejects", unfollowed := true, recurses := true, apart := false, narrowed := true }
def InspectRejectsUptoSaid : Prop := inspectRejectsUptoRow.holds Try.pinned (OpenSpec.upto inspectRejectsSpec)

/-- 'postilionlaw19.InspectNumbers', WHERE WHAT IT READS IS OF BULK AT MOST 1048576: true; the input reads as it did. -/
def inspectNumbersUptoRow : OpenClaim := { program := "ytlobbofhlcjlmaa", sum := "a4eed918c7a94283811234bf01b80edd370beb821f6a29b4e82204d33e9bf6a7", func := "postilion/postilionlaw19.InspectNumbers", spec := "inspectNumbers", unfollowed := true, recurses := true, apart := false, narrowed := true }
def InspectNumbersUptoSaid : Prop := inspectNumbersUptoRow.holds Try.pinned (OpenSpec.upto inspectNumbersSpec)

/-- 'postilionlaw19.InspectWeaker', WHERE WHAT IT READS IS OF BULK AT MOST 1048576: true; the input reads as it did. -/
def inspectWeakerUptoRow : OpenClaim := { program := "ytlobbofhlcjlmaa", sum := "a4eed918c7a94283811234bf01b80edd370beb821f6a29b4e82204d33e9bf6a7", func := "postilion/postilionlaw19.InspectWeaker", spec := "inspectWeaker", unfollowed := true, recurses := true, apart := false, narrowed := true }
def InspectWeakerUptoSaid : Prop := inspectWeakerUptoRow.holds Try.pinned (OpenSpec.upto inspectWeakerSpec)

/-- 'postilionlaw19.InspectOthers', WHERE WHAT IT READS IS OF BULK AT MOST 1048576: true; the input reads as it did. -/
def inspectOthersUptoRow : OpenClaim := { program := "ytlobbofhlcjlmaa", sum := "a4eed918c7a94283811234bf01b80edd370beb821f6a29b4e82204d33e9bf6a7", func := "postilion/postilionlaw19.InspectOthers", spec := "inspectOthers", unfollowed := true, recurses := true, apart := false, narrowed := true }
def InspectOthersUptoSaid : Prop := inspectOthersUptoRow.holds Try.pinned (OpenSpec.upto inspectOthersSpec)

end Rows
end Go.Proofs.Ytlobbofhlcjlmaa
