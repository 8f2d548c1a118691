/- CompileErrors: for every input the law returns true, and each argument reads afterwards as it read before. The listed variable is tied to the program's text: no conditions beyond the card's own. -/
import Derived.Test.YtlakcpmgefpfaaaGreatDoorECErrA
import Derived.Test.YtlakcpmgefpfaaaGreatDoorECErrB
import Derived.Test.YtlakcpmgefpfaaaGreatDoorECErrJ
import Derived.Test.YtlakcpmgefpfaaaGreatDoorRows
import Derived.Test.YtlakcpmgefpfaaaGreatDoorTie
import Derived.Test.YtlakcpmgefpfaaaGreatDoorCards
import Derived.JoinedCond
import Derived.SevenTiedAt
import Derived.LaidMore
import Derived.ProofKit
set_option linter.all false
namespace Go.Proofs.YtlakcpmgefpfaaaGreatDoor.compileErrors
open Go Go.ChangeShapes Go.WideShapes Go.ChangeAt Go.RowKit
theorem S9: Rows.CompileErrorsSaid:=
 OpenClaim.holds_of_wide (p:=Tryz.pinned) (s:=Rows.compileErrorsSpec) (c:=Rows.compileErrorsRow) 5 Tryz.f5 rfl rfl rfl rfl rfl rfl rfl ⟨rfl,rfl,rfl,rfl,rfl⟩ rfl rfl rfl rfl rfl n9 Tryz.func5 j9 i9 w9 (λos started H enc _=>lifted os started H enc)
theorem card_holds: Rows.CompileErrorsCardSaid:=
 Claim7.holds_tied_plain_at .later [] [.data] true (true, "6c010faa3433c819d2cfc3b11268bd8050d496e0cd10985083fc1a8a324e33fb") true
  S9 (λ_ h=>by cases h) (by kernel_rfl) (λ_ h=>by cases h) compileErrors_row_tie rfl ⟨rfl,rfl⟩ m9 rfl h9 g9
end Go.Proofs.YtlakcpmgefpfaaaGreatDoor.compileErrors
