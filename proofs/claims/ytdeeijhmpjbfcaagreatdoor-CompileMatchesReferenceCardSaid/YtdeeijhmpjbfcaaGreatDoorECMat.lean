/- CompileMatchesReference: for every input the law returns true, and each argument reads afterwards as it read before. The listed variable is tied to the program's text: no conditions beyond the card's own. -/
import Derived.Test.YtdeeijhmpjbfcaaGreatDoorECMatA
import Derived.Test.YtdeeijhmpjbfcaaGreatDoorECMatB
import Derived.Test.YtdeeijhmpjbfcaaGreatDoorECMatJ
import Derived.Test.YtdeeijhmpjbfcaaGreatDoorRows
import Derived.Test.YtdeeijhmpjbfcaaGreatDoorTie
import Derived.Test.YtdeeijhmpjbfcaaGreatDoorCards
import Derived.JoinedCond
import Derived.SevenTiedAt
import Derived.LaidMore
import Derived.ProofKit
set_option linter.all false
namespace Go.Proofs.YtdeeijhmpjbfcaaGreatDoor.compileMatchesReference
open Go Go.ChangeShapes Go.WideShapes Go.ChangeAt Go.RowKit
theorem Ub:Rows.CompileMatchesReferenceSaid:=
 OpenClaim.holds_of_wide (p:=Tryz.pinned) (s:=Rows.compileMatchesReferenceSpec) (c:=Rows.compileMatchesReferenceRow) 3 Tryz.f3 rfl rfl rfl rfl rfl rfl rfl ⟨rfl,rfl,rfl,rfl,rfl⟩ rfl rfl rfl rfl rfl n9 Tryz.func3 j9 i9 w9 (λos started H enc _=>lifted os started H enc)
theorem card_holds:Rows.CompileMatchesReferenceCardSaid:=
 Claim7.holds_tied_plain_at .later [] [.data] true (true, "53aa0103cbbcb7a296f6b85500149012cca26a02781a64f9ff42a47ff35649d4") true
  Ub (λ_ h=>by cases h) (by kernel_rfl) (λ_ h=>by cases h) compileMatchesReference_row_tie rfl ⟨rfl,rfl⟩ m9 rfl h9 g9
end Go.Proofs.YtdeeijhmpjbfcaaGreatDoor.compileMatchesReference
