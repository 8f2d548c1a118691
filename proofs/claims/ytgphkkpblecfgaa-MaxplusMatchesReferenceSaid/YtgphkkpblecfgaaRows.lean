/-
  No cell of these rows narrows 'for every input' (looked for: loops, veiled, ifaces, maps, wideKeys, modest, calm, conditions, laid).
  DERIVED. THE GIVEN ROWS OF THIS SEAT. 8 by the template 'for every input the law returns true; each argument reads behind the call as it read before'; 0 by the template 'total and deterministic' (their statements: YtgphkkpblecfgaaTotals.lean).
  GIVEN WITH THE SEED: the statements are not yours to turn. If you find one false, say at which input.
  Laid BY PROGRAM, IN A SANDBOX (cutbox-rows.mjs): the forced cells as the released guide's own fill.sh prints them over the translation e0f4e1e6e500a786… (all of the seat's roots in one cut). By AI agents, Wed Nov 11 2026. No macro, syntax, notation, axiom, sorry.
-/
import Derived.Test.YtgphkkpblecfgaaChecked
import GoSem.Claim
import GoSem.ClaimJoined
import GoSem.ClaimMapViews
import Derived.JoinedTies
import Derived.KernelRfl
namespace Go.Proofs.Ytgphkkpblecfgaa
/- THE CELL 'sum', in the pinned program and in every row, IS THE sha256 OF THE DUMP (.gsa) THAT YtgphkkpblecfgaaProg.lean LOADS. Nothing in Lean hashes anything: it is a label: what it is worth is what the hold of that sum in a sandbox is worth. -/
noncomputable def Try.pinned : Pinned := { name := "ytgphkkpblecfgaa", sum := "e0f4e1e6e500a78635866e744a1ff7f7e08ca4cd9439667bd35a45924ce47bec", checked := Try.checked }
namespace Rows
def none {H : Type} : Left H := { results := [], args := [] }

/-- 'postilionlaw12.MaxplusMatchesReference': WHATEVER THE INPUT: true; the input reads as it did. -/
def maxplusMatchesReferenceSpec : ChangeSpec := { name := "maxplusMatchesReference", fn := fun _ => fun
  | [d1, d2, d3] => { results := [.lit (.bool true)], args := [d1, d2, d3] }
  | _ => none }
def maxplusMatchesReferenceRow : OpenClaim := { program := "ytgphkkpblecfgaa", sum := "e0f4e1e6e500a78635866e744a1ff7f7e08ca4cd9439667bd35a45924ce47bec", func := "postilion/postilionlaw12.MaxplusMatchesReference", spec := "maxplusMatchesReference", unfollowed := true, recurses := true, apart := false }
def MaxplusMatchesReferenceSaid : Prop := maxplusMatchesReferenceRow.holds Try.pinned (OpenSpec.ofChange maxplusMatchesReferenceSpec)

/-- ITS FALSE NEIGHBOUR: 'it returns false'. Refute it at one input. -/
def maxplusMatchesReferenceWrong : ChangeSpec := { name := "maxplusMatchesReference", fn := fun _ => fun
  | [d1, d2, d3] => { results := [.lit (.bool false)], args := [d1, d2, d3] }
  | _ => none }
def MaxplusMatchesReferenceWrongFalsely : Prop := maxplusMatchesReferenceRow.holds Try.pinned (OpenSpec.ofChange maxplusMatchesReferenceWrong)

/-- 'postilionlaw12.MaxplusSums': WHATEVER THE INPUT: true; the input reads as it did. -/
def maxplusSumsSpec : ChangeSpec := { name := "maxplusSums", fn := fun _ => fun
  | [d1, d2, d3] => { results := [.lit (.bool true)], args := [d1, d2, d3] }
  | _ => none }
def maxplusSumsRow : OpenClaim := { program := "ytgphkkpblecfgaa", sum := "e0f4e1e6e500a78635866e744a1ff7f7e08ca4cd9439667bd35a45924ce47bec", func := "postilion/postilionlaw12.MaxplusSums", spec := "maxplusSums", unfollowed := true, recurses := true, apart := false }
def MaxplusSumsSaid : Prop := maxplusSumsRow.holds Try.pinned (OpenSpec.ofChange maxplusSumsSpec)

/-- ITS FALSE NEIGHBOUR: 'it returns false'. Refute it at one input. -/
def maxplusSumsWrong : ChangeSpec := { name := "maxplusSums", fn := fun _ => fun
  | [d1, d2, d3] => { results := [.lit (.bool false)], args := [d1, d2, d3] }
  | _ => none }
def MaxplusSumsWrongFalsely : Prop := maxplusSumsRow.holds Try.pinned (OpenSpec.ofChange maxplusSumsWrong)

/-- 'postilionlaw12.MaxplusProducts': WHATEVER THE INPUT: true; the input reads as it did. -/
def maxplusProductsSpec : ChangeSpec := { name := "maxplusProducts", fn := fun _ => fun
  | [d1, d2, d3] => { results := [.lit (.bool true)], args := [d1, d2, d3] }
  | _ => none }
def maxplusProductsRow : OpenClaim := { program := "ytgphkkpblecfgaa", sum := "e0f4e1e6e500a78635866e744a1ff7f7e08ca4cd9439667bd35a45924ce47bec", func := "postilion/postilionlaw12.MaxplusProducts", spec := "maxplusProducts", unfollowed := true, recurses := true, apart := false }
def MaxplusProductsSaid : Prop := maxplusProductsRow.holds Try.pinned (OpenSpec.ofChange maxplusProductsSpec)

/-- ITS FALSE NEIGHBOUR: 'it returns false'. Refute it at one input. -/
def maxplusProductsWrong : ChangeSpec := { name := "maxplusProducts", fn := fun _ => fun
  | [d1, d2, d3] => { results := [.lit (.bool false)], args := [d1, d2, d3] }
  | _ => none }
def MaxplusProductsWrongFalsely : Prop := maxplusProductsRow.holds Try.pinned (OpenSpec.ofChange maxplusProductsWrong)

/-- 'postilionlaw12.MaxplusColumns': WHATEVER THE INPUT: true; the input reads as it did. -/
def maxplusColumnsSpec : ChangeSpec := { name := "maxplusColumns", fn := fun _ => fun
  | [d1, d2, d3] => { results := [.lit (.bool true)], args := [d1, d2, d3] }
  | _ => none }
def maxplusColumnsRow : OpenClaim := { program := "ytgphkkpblecfgaa", sum := "e0f4e1e6e500a78635866e744a1ff7f7e08ca4cd9439667bd35a45924ce47bec", func := "postilion/postilionlaw12.MaxplusColumns", spec := "maxplusColumns", unfollowed := true, recurses := true, apart := false }
def MaxplusColumnsSaid : Prop := maxplusColumnsRow.holds Try.pinned (OpenSpec.ofChange maxplusColumnsSpec)

/-- ITS FALSE NEIGHBOUR: 'it returns false'. Refute it at one input. -/
def maxplusColumnsWrong : ChangeSpec := { name := "maxplusColumns", fn := fun _ => fun
  | [d1, d2, d3] => { results := [.lit (.bool false)], args := [d1, d2, d3] }
  | _ => none }
def MaxplusColumnsWrongFalsely : Prop := maxplusColumnsRow.holds Try.pinned (OpenSpec.ofChange maxplusColumnsWrong)

/-- 'postilionlaw12.MaxplusStars': WHATEVER THE INPUT: true; the input reads as it did. -/
def maxplusStarsSpec : ChangeSpec := { name := "maxplusStars", fn := fun _ => fun
  | [d] => { results := [.lit (.bool true)], args := [d] }
  | _ => none }
def maxplusStarsRow : OpenClaim := { program := "ytgphkkpblecfgaa", sum := "e0f4e1e6e500a78635866e744a1ff7f7e08ca4cd9439667bd35a45924ce47bec", func := "postilion/postilionlaw12.MaxplusStars", spec := "maxplusStars", unfollowed := true, recurses := true, apart := false }
def MaxplusStarsSaid : Prop := maxplusStarsRow.holds Try.pinned (OpenSpec.ofChange maxplusStarsSpec)

/-- ITS FALSE NEIGHBOUR: 'it returns false'. Refute it at one input. -/
def maxplusStarsWrong : ChangeSpec := { name := "maxplusStars", fn := fun _ => fun
  | [d] => { results := [.lit (.bool false)], args := [d] }
  | _ => none }
def MaxplusStarsWrongFalsely : Prop := maxplusStarsRow.holds Try.pinned (OpenSpec.ofChange maxplusStarsWrong)

/-- 'postilionlaw12.MaxplusLeast': WHATEVER THE INPUT: true; the input reads as it did. -/
def maxplusLeastSpec : ChangeSpec := { name := "maxplusLeast", fn := fun _ => fun
  | [d1, d2] => { results := [.lit (.bool true)], args := [d1, d2] }
  | _ => none }
def maxplusLeastRow : OpenClaim := { program := "ytgphkkpblecfgaa", sum := "e0f4e1e6e500a78635866e744a1ff7f7e08ca4cd9439667bd35a45924ce47bec", func := "postilion/postilionlaw12.MaxplusLeast", spec := "maxplusLeast", unfollowed := true, recurses := true, apart := false }
def MaxplusLeastSaid : Prop := maxplusLeastRow.holds Try.pinned (OpenSpec.ofChange maxplusLeastSpec)

/-- ITS FALSE NEIGHBOUR: 'it returns false'. Refute it at one input. -/
def maxplusLeastWrong : ChangeSpec := { name := "maxplusLeast", fn := fun _ => fun
  | [d1, d2] => { results := [.lit (.bool false)], args := [d1, d2] }
  | _ => none }
def MaxplusLeastWrongFalsely : Prop := maxplusLeastRow.holds Try.pinned (OpenSpec.ofChange maxplusLeastWrong)

/-- 'postilionlaw12.MaxplusCycles': WHATEVER THE INPUT: true; the input reads as it did. -/
def maxplusCyclesSpec : ChangeSpec := { name := "maxplusCycles", fn := fun _ => fun
  | [d] => { results := [.lit (.bool true)], args := [d] }
  | _ => none }
def maxplusCyclesRow : OpenClaim := { program := "ytgphkkpblecfgaa", sum := "e0f4e1e6e500a78635866e744a1ff7f7e08ca4cd9439667bd35a45924ce47bec", func := "postilion/postilionlaw12.MaxplusCycles", spec := "maxplusCycles", unfollowed := true, recurses := true, apart := false }
def MaxplusCyclesSaid : Prop := maxplusCyclesRow.holds Try.pinned (OpenSpec.ofChange maxplusCyclesSpec)

/-- ITS FALSE NEIGHBOUR: 'it returns false'. Refute it at one input. -/
def maxplusCyclesWrong : ChangeSpec := { name := "maxplusCycles", fn := fun _ => fun
  | [d] => { results := [.lit (.bool false)], args := [d] }
  | _ => none }
def MaxplusCyclesWrongFalsely : Prop := maxplusCyclesRow.holds Try.pinned (OpenSpec.ofChange maxplusCyclesWrong)

/-- 'postilionlaw12.MaxplusPaths': WHATEVER THE INPUT: true; the input reads as it did. -/
def maxplusPathsSpec : ChangeSpec := { name := "maxplusPaths", fn := fun _ => fun
  | [d1, d2] => { results := [.lit (.bool true)], args := [d1, d2] }
  | _ => none }
def maxplusPathsRow : OpenClaim := { program := "ytgphkkpblecfgaa", sum := "e0f4e1e6e500a78635866e744a1ff7f7e08ca4cd9439667bd35a45924ce47bec", func := "postilion/postilionlaw12.MaxplusPaths", spec := "maxplusPaths", unfollowed := true, recurses := true, apart := false }
def MaxplusPathsSaid : Prop := maxplusPathsRow.holds Try.pinned (OpenSpec.ofChange maxplusPathsSpec)

/-- ITS FALSE NEIGHBOUR: 'it returns false'. Refute it at one input. -/
def maxplusPathsWrong : ChangeSpec := { name := "maxplusPaths", fn := fun _ => fun
  | [d1, d2] => { results := [.lit (.bool false)], args := [d1, d2] }
  | _ => none }
def MaxplusPathsWrongFalsely : Prop := maxplusPathsRow.holds Try.pinned (OpenSpec.ofChange maxplusPathsWrong)

/- THE SECOND FORM. 'bulk': how many values and letters a reading holds, each counted each time it is reached (what is shared counts as often as it is met; a slice's spare places count too). A statement '..UptoSaid' is the law's where the arguments, and the package variables that the reading takes, are together of bulk at most 1048576: NARROWER than '..Said'. Prove '..Said' where nothing that the law and all that it calls make is longer than what came in: it says more and counts as full. Else prove '..UptoSaid'. A law counts once. -/
mutual
def uptoBulk {H : Type} : DataW H → Nat
  | .lit (.string bytes) => bytes.length + 1
  | .lit _ => 1
  | .nil => 1
  | .ptr d => uptoBulk d + 1
  | .slice elems spare => uptoBulkAll elems + uptoBulkAll spare + 1
  | .agg parts => uptoBulkAll parts + 1
  | .iface _ d => uptoBulk d + 1
  | .map entries => uptoBulkEntries entries + 1
  | .held _ => 1
def uptoBulkAll {H : Type} : List (DataW H) → Nat
  | [] => 0
  | d :: r => uptoBulk d + uptoBulkAll r
def uptoBulkEntries {H : Type} : List (Lit × DataW H) → Nat
  | [] => 0
  | x :: r => uptoBulkEntry x + uptoBulkEntries r
def uptoBulkEntry {H : Type} : Lit × DataW H → Nat
  | (.string bytes, d) => bytes.length + uptoBulk d + 1
  | (_, d) => uptoBulk d + 1
 end
def uptoSmall : (H : Type) → List (DataW H) → Bool := fun _ ds => decide (uptoBulkAll ds ≤ 1048576)
def OpenSpec.upto (s : _root_.Go.ChangeSpec) : _root_.Go.OpenSpec := { _root_.Go.OpenSpec.ofChange s with cond := some uptoSmall }

/-- 'postilionlaw12.MaxplusMatchesReference', WHERE WHAT IT READS IS OF BULK AT MOST 1048576: true; the input reads as it did. -/
def maxplusMatchesReferenceUptoRow : OpenClaim := { program := "ytgphkkpblecfgaa", sum := "e0f4e1e6e500a78635866e744a1ff7f7e08ca4cd9439667bd35a45924ce47bec", func := "postilion/postilionlaw12.MaxplusMatchesReference", spec := "maxplusMatchesReference", unfollowed := true, recurses := true, apart := false, narrowed := true }
def MaxplusMatchesReferenceUptoSaid : Prop := maxplusMatchesReferenceUptoRow.holds Try.pinned (OpenSpec.upto maxplusMatchesReferenceSpec)

/-- 'postilionlaw12.MaxplusSums', WHERE WHAT IT READS IS OF BULK AT MOST 1048576: true; the input reads as it did. -/
def maxplusSumsUptoRow : OpenClaim := { program := "ytgphkkpblecfgaa", sum := "e0f4e1e6e500a78635866e744a1ff7f7e08ca4cd9439667bd35a45924ce47bec", func := "postilion/postilionlaw12.MaxplusSums", spec := "maxplusSums", unfollowed := true, recurses := true, apart := false, narrowed := true }
def MaxplusSumsUptoSaid : Prop := maxplusSumsUptoRow.holds Try.pinned (OpenSpec.upto maxplusSumsSpec)

/-- 'postilionlaw12.MaxplusProducts', WHERE WHAT IT READS IS OF BULK AT MOST 1048576: true; the input reads as it did. -/
def maxplusProductsUptoRow : OpenClaim := { program := "ytgphkkpblecfgaa", sum := "e0f4e1e6e500a78635866e744a1ff7f7e08ca4cd9439667bd35a45924ce47bec", func := "postilion/postilionlaw12.MaxplusProducts", spec := "maxplusProducts", unfollowed := true, recurses := true, apart := false, narrowed := true }
def MaxplusProductsUptoSaid : Prop := maxplusProductsUptoRow.holds Try.pinned (OpenSpec.upto maxplusProductsSpec)

/-- 'postilionlaw12.MaxplusColumns', WHERE WHAT IT READS IS OF BULK AT MOST 1048576: true; the input reads as it did. -/
def maxplusColumnsUptoRow : OpenClaim := { program := "ytgphkkpblecfgaa", sum := "e0f4e1e6e500a78635866e744a1ff7f7e08ca4cd9439667bd35a45924ce47bec", func := "postilion/postilionlaw12.MaxplusColumns", spec := "maxplusColumns", unfollowed := true, recurses := true, apart := false, narrowed := true }
def MaxplusColumnsUptoSaid : Prop := maxplusColumnsUptoRow.holds Try.pinned (OpenSpec.upto maxplusColumnsSpec)

/-- 'postilionlaw12.MaxplusStars', WHERE WHAT IT READS IS OF BULK AT MOST 1048576: true; the input reads as it did. -/
def maxplusStarsUptoRow : OpenClaim := { program := "ytgphkkpblecfgaa", sum := "e0f4e1e6e500a78635866e744a1ff7f7e08ca4cd9439667bd35a45924ce47bec", func := "postilion/postilionlaw12.MaxplusStars", spec := "maxplusStars", unfollowed := true, recurses := true, apart := false, narrowed := true }
def MaxplusStarsUptoSaid : Prop := maxplusStarsUptoRow.holds Try.pinned (OpenSpec.upto maxplusStarsSpec)

/-- 'postilionlaw12.MaxplusLeast', WHERE WHAT IT READS IS OF BULK AT MOST 1048576: true; the input reads as it did. -/
def maxplusLeastUptoRow : OpenClaim := { program := "ytgphkkpblecfgaa", sum := "e0f4e1e6e500a78635866e744a1ff7f7e08ca4cd9439667bd35a45924ce47bec", func := "postilion/postilionlaw12.MaxplusLeast", spec := "maxplusLeast", unfollowed := true, recurses := true, apart := false, narrowed := true }
def MaxplusLeastUptoSaid : Prop := maxplusLeastUptoRow.holds Try.pinned (OpenSpec.upto maxplusLeastSpec)

/-- 'postilionlaw12.MaxplusCycles', WHERE WHAT IT READS IS OF BULK AT MOST 1048576: true; the input reads as it did. -/
def maxplusCyclesUptoRow : OpenClaim := { program := "ytgphkkpblecfgaa", sum := "e0f4e1e6e500a78635866e744a1ff7f7e08ca4cd9439667bd35a45924ce47bec", func := "postilion/postilionlaw12.MaxplusCycles", spec := "maxplusCycles", unfollowed := true, recurses := true, apart := false, narrowed := true }
def MaxplusCyclesUptoSaid : Prop := maxplusCyclesUptoRow.holds Try.pinned (OpenSpec.upto maxplusCyclesSpec)

/-- 'postilionlaw12.MaxplusPaths', WHERE WHAT IT READS IS OF BULK AT MOST 1048576: true; the input reads as it did. -/
def maxplusPathsUptoRow : OpenClaim := { program := "ytgphkkpblecfgaa", sum := "e0f4e1e6e500a78635866e744a1ff7f7e08ca4cd9439667bd35a45924ce47bec", func := "postilion/postilionlaw12.MaxplusPaths", spec := "maxplusPaths", unfollowed := true, recurses := true, apart := false, narrowed := true }
def MaxplusPathsUptoSaid : Prop := maxplusPathsUptoRow.holds Try.pinned (OpenSpec.upto maxplusPathsSpec)

end Rows
end Go.Proofs.Ytgphkkpblecfgaa
