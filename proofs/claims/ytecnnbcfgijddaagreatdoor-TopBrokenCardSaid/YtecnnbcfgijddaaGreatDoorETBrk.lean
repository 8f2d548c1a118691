/- TopBroken: for every input the law returns true, and each argument reads afterwards as it read before. The listed variables are tied to the program's text: no conditions beyond the card's own. -/
import Derived.Test.YtecnnbcfgijddaaGreatDoorETBrkA
import Derived.Test.YtecnnbcfgijddaaGreatDoorETBrkB
import Derived.Test.YtecnnbcfgijddaaGreatDoorETBrkZL
import Derived.Test.YtecnnbcfgijddaaGreatDoorRows
import Derived.Test.YtecnnbcfgijddaaGreatDoorTie
import Derived.Test.YtecnnbcfgijddaaGreatDoorCards
import Derived.JoinedCond
import Derived.SevenTiedAt
import Derived.LaidMore
import Derived.ProofKit
set_option linter.unusedSimpArgs false
set_option linter.unusedVariables false
namespace Go.Proofs.YtecnnbcfgijddaaGreatDoor.topBroken
open Go Go.ChangeShapes Go.WideShapes Go.ChangeAt Go.RowKit
theorem S9:Rows.TopBrokenSaid:=
 OpenClaim.holds_of_wide (p:=Tryz.pinned) (s:=Rows.topBrokenSpec) (c:=Rows.topBrokenRow) 3 Tryz.f3 rfl rfl rfl rfl rfl rfl rfl ⟨rfl,rfl,rfl,rfl,rfl⟩ rfl rfl rfl rfl rfl n9 Tryz.func3 j9 i9 w9 (λos started H enc _=>lifted os started H enc)
theorem card_holds:Rows.TopBrokenCardSaid:=
 Claim7.holds_tied_plain_at .later [] [.data,.data,.data,.data] true (true, "b287e206479245ec50e5d47adfb2f10e8d782965ae80960af0fcf265a6ef697e") true
  S9 (λ_ h=>by cases h) (by kernel_rfl) (λ_ h=>by cases h) topBroken_row_tie rfl ⟨rfl,rfl⟩ m9 rfl h9 g9
end Go.Proofs.YtecnnbcfgijddaaGreatDoor.topBroken
