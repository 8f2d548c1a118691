/-
  No cell of these rows narrows 'for every input' (looked for: loops, veiled, ifaces, maps, wideKeys, modest, calm, conditions, laid).
  DERIVED. THE GIVEN ROWS OF THIS SEAT. 7 by the template 'for every input the law returns true; each argument reads behind the call as it read before'; 0 by the template 'total and deterministic' (their statements: YtmofcccjepbhjaaTotals.lean).
  GIVEN WITH THE SEED: the statements are not yours to turn. If you find one false, say at which input.
  Laid BY PROGRAM, IN A SANDBOX (cutbox-rows.mjs): the forced cells as the released guide's own fill.sh prints them over the translation 88f484d83e7bf608… (all of the seat's roots in one cut). By AI agents, Wed Nov 11 2026. No macro, syntax, notation, axiom, sorry.
-/
import Derived.Test.YtmofcccjepbhjaaChecked
import GoSem.Claim
import GoSem.ClaimJoined
import GoSem.ClaimMapViews
import Derived.JoinedTies
import Derived.KernelRfl
namespace Go.Proofs.Ytmofcccjepbhjaa
/- THE CELL 'sum', in the pinned program and in every row, IS THE sha256 OF THE DUMP (.gsa) THAT YtmofcccjepbhjaaProg.lean LOADS. Nothing in Lean hashes anything: it is a label: what it is worth is what the hold of that sum in a sandbox is worth. -/
noncomputable def Try.pinned : Pinned := { name := "ytmofcccjepbhjaa", sum := "88f484d83e7bf6085ab9dceda5b004e8757eef017863ca292601d91590169dad", checked := Try.checked }
namespace Rows
def none {H : Type} : Left H := { results := [], args := [] }

/-- 'postilionlaw02.CalendarDays': WHATEVER THE INPUT: true; the input reads as it did. -/
def calendarDaysSpec : ChangeSpec := { name := "calendarDays", fn := fun _ => fun
  | [d1, d2, d3] => { results := [.lit (.bool true)], args := [d1, d2, d3] }
  | _ => none }
def calendarDaysRow : OpenClaim := { program := "ytmofcccjepbhjaa", sum := "88f484d83e7bf6085ab9dceda5b004e8757eef017863ca292601d91590169dad", func := "postilion/postilionlaw02.CalendarDays", spec := "calendarDays", unfollowed := true, recurses := true, apart := false }
def CalendarDaysSaid : Prop := calendarDaysRow.holds Try.pinned (OpenSpec.ofChange calendarDaysSpec)

/-- ITS FALSE NEIGHBOUR: 'it returns false'. Refute it at one input. -/
def calendarDaysWrong : ChangeSpec := { name := "calendarDays", fn := fun _ => fun
  | [d1, d2, d3] => { results := [.lit (.bool false)], args := [d1, d2, d3] }
  | _ => none }
def CalendarDaysWrongFalsely : Prop := calendarDaysRow.holds Try.pinned (OpenSpec.ofChange calendarDaysWrong)

/-- 'postilionlaw02.CalendarNext': WHATEVER THE INPUT: true; the input reads as it did. -/
def calendarNextSpec : ChangeSpec := { name := "calendarNext", fn := fun _ => fun
  | [d1, d2] => { results := [.lit (.bool true)], args := [d1, d2] }
  | _ => none }
def calendarNextRow : OpenClaim := { program := "ytmofcccjepbhjaa", sum := "88f484d83e7bf6085ab9dceda5b004e8757eef017863ca292601d91590169dad", func := "postilion/postilionlaw02.CalendarNext", spec := "calendarNext", unfollowed := true, recurses := true, apart := false }
def CalendarNextSaid : Prop := calendarNextRow.holds Try.pinned (OpenSpec.ofChange calendarNextSpec)

/-- ITS FALSE NEIGHBOUR: 'it returns false'. Refute it at one input. -/
def calendarNextWrong : ChangeSpec := { name := "calendarNext", fn := fun _ => fun
  | [d1, d2] => { results := [.lit (.bool false)], args := [d1, d2] }
  | _ => none }
def CalendarNextWrongFalsely : Prop := calendarNextRow.holds Try.pinned (OpenSpec.ofChange calendarNextWrong)

/-- 'postilionlaw02.CalendarAdds': WHATEVER THE INPUT: true; the input reads as it did. -/
def calendarAddsSpec : ChangeSpec := { name := "calendarAdds", fn := fun _ => fun
  | [d1, d2, d3, d4] => { results := [.lit (.bool true)], args := [d1, d2, d3, d4] }
  | _ => none }
def calendarAddsRow : OpenClaim := { program := "ytmofcccjepbhjaa", sum := "88f484d83e7bf6085ab9dceda5b004e8757eef017863ca292601d91590169dad", func := "postilion/postilionlaw02.CalendarAdds", spec := "calendarAdds", unfollowed := true, recurses := true, apart := false }
def CalendarAddsSaid : Prop := calendarAddsRow.holds Try.pinned (OpenSpec.ofChange calendarAddsSpec)

/-- ITS FALSE NEIGHBOUR: 'it returns false'. Refute it at one input. -/
def calendarAddsWrong : ChangeSpec := { name := "calendarAdds", fn := fun _ => fun
  | [d1, d2, d3, d4] => { results := [.lit (.bool false)], args := [d1, d2, d3, d4] }
  | _ => none }
def CalendarAddsWrongFalsely : Prop := calendarAddsRow.holds Try.pinned (OpenSpec.ofChange calendarAddsWrong)

/-- 'postilionlaw02.CalendarCounts': WHATEVER THE INPUT: true; the input reads as it did. -/
def calendarCountsSpec : ChangeSpec := { name := "calendarCounts", fn := fun _ => fun
  | [d1, d2, d3, d4, d5] => { results := [.lit (.bool true)], args := [d1, d2, d3, d4, d5] }
  | _ => none }
def calendarCountsRow : OpenClaim := { program := "ytmofcccjepbhjaa", sum := "88f484d83e7bf6085ab9dceda5b004e8757eef017863ca292601d91590169dad", func := "postilion/postilionlaw02.CalendarCounts", spec := "calendarCounts", unfollowed := true, recurses := true, apart := false }
def CalendarCountsSaid : Prop := calendarCountsRow.holds Try.pinned (OpenSpec.ofChange calendarCountsSpec)

/-- ITS FALSE NEIGHBOUR: 'it returns false'. Refute it at one input. -/
def calendarCountsWrong : ChangeSpec := { name := "calendarCounts", fn := fun _ => fun
  | [d1, d2, d3, d4, d5] => { results := [.lit (.bool false)], args := [d1, d2, d3, d4, d5] }
  | _ => none }
def CalendarCountsWrongFalsely : Prop := calendarCountsRow.holds Try.pinned (OpenSpec.ofChange calendarCountsWrong)

/-- 'postilionlaw02.CalendarWeeks': WHATEVER THE INPUT: true; the input reads as it did. -/
def calendarWeeksSpec : ChangeSpec := { name := "calendarWeeks", fn := fun _ => fun
  | [d1, d2] => { results := [.lit (.bool true)], args := [d1, d2] }
  | _ => none }
def calendarWeeksRow : OpenClaim := { program := "ytmofcccjepbhjaa", sum := "88f484d83e7bf6085ab9dceda5b004e8757eef017863ca292601d91590169dad", func := "postilion/postilionlaw02.CalendarWeeks", spec := "calendarWeeks", unfollowed := true, recurses := true, apart := false }
def CalendarWeeksSaid : Prop := calendarWeeksRow.holds Try.pinned (OpenSpec.ofChange calendarWeeksSpec)

/-- ITS FALSE NEIGHBOUR: 'it returns false'. Refute it at one input. -/
def calendarWeeksWrong : ChangeSpec := { name := "calendarWeeks", fn := fun _ => fun
  | [d1, d2] => { results := [.lit (.bool false)], args := [d1, d2] }
  | _ => none }
def CalendarWeeksWrongFalsely : Prop := calendarWeeksRow.holds Try.pinned (OpenSpec.ofChange calendarWeeksWrong)

/-- 'postilionlaw02.CalendarHolidays': WHATEVER THE INPUT: true; the input reads as it did. -/
def calendarHolidaysSpec : ChangeSpec := { name := "calendarHolidays", fn := fun _ => fun
  | [d1, d2, d3, d4, d5] => { results := [.lit (.bool true)], args := [d1, d2, d3, d4, d5] }
  | _ => none }
def calendarHolidaysRow : OpenClaim := { program := "ytmofcccjepbhjaa", sum := "88f484d83e7bf6085ab9dceda5b004e8757eef017863ca292601d91590169dad", func := "postilion/postilionlaw02.CalendarHolidays", spec := "calendarHolidays", unfollowed := true, recurses := true, apart := false }
def CalendarHolidaysSaid : Prop := calendarHolidaysRow.holds Try.pinned (OpenSpec.ofChange calendarHolidaysSpec)

/-- ITS FALSE NEIGHBOUR: 'it returns false'. Refute it at one input. -/
def calendarHolidaysWrong : ChangeSpec := { name := "calendarHolidays", fn := fun _ => fun
  | [d1, d2, d3, d4, d5] => { results := [.lit (.bool false)], args := [d1, d2, d3, d4, d5] }
  | _ => none }
def CalendarHolidaysWrongFalsely : Prop := calendarHolidaysRow.holds Try.pinned (OpenSpec.ofChange calendarHolidaysWrong)

/-- 'postilionlaw02.CalendarZones': WHATEVER THE INPUT: true; the input reads as it did. -/
def calendarZonesSpec : ChangeSpec := { name := "calendarZones", fn := fun _ => fun
  | [d1, d2, d3] => { results := [.lit (.bool true)], args := [d1, d2, d3] }
  | _ => none }
def calendarZonesRow : OpenClaim := { program := "ytmofcccjepbhjaa", sum := "88f484d83e7bf6085ab9dceda5b004e8757eef017863ca292601d91590169dad", func := "postilion/postilionlaw02.CalendarZones", spec := "calendarZones", unfollowed := true, recurses := true, apart := false }
def CalendarZonesSaid : Prop := calendarZonesRow.holds Try.pinned (OpenSpec.ofChange calendarZonesSpec)

/-- ITS FALSE NEIGHBOUR: 'it returns false'. Refute it at one input. -/
def calendarZonesWrong : ChangeSpec := { name := "calendarZones", fn := fun _ => fun
  | [d1, d2, d3] => { results := [.lit (.bool false)], args := [d1, d2, d3] }
  | _ => none }
def CalendarZonesWrongFalsely : Prop := calendarZonesRow.holds Try.pinned (OpenSpec.ofChange calendarZonesWrong)

/- THE SECOND FORM. 'bulk': how many values and letters a reading holds, each counted each time it is reached (what is shared counts as often as it is met; a slice's spare places count too). A statement '..UptoSaid' is the law's where the arguments, and the package variables that the reading takes, are together of bulk at most 1048576: NARROWER than '..Said'. Prove '..Said' where nothing that the law and all that it calls make is longer than what came in: it says more and counts as full. Else prove '..UptoSaid'. A law counts once. -/
mutual
def uptoBulk {H : Type} : DataW H → Nat
  | .lit (.string bytes) => bytes.length + 1
  | .lit _ => 1
  | .nil => 1
  | .ptr d => uptoBulk d + 1
  | .slice elems spare => uptoBulkAll elems + uptoBulkAll spare + 1
  | .agg parts => uptoBulkAll parts + 1
  | .iface _ d => uptoBulk d + 1
  | .map entries => uptoBulkEntries entries + 1
  | .held _ => 1
def uptoBulkAll {H : Type} : List (DataW H) → Nat
  | [] => 0
  | d :: r => uptoBulk d + uptoBulkAll r
def uptoBulkEntries {H : Type} : List (Lit × DataW H) → Nat
  | [] => 0
  | x :: r => uptoBulkEntry x + uptoBulkEntries r
def uptoBulkEntry {H : Type} : Lit × DataW H → Nat
  | (.string bytes, d) => bytes.length + uptoBulk d + 1
  | (_, d) => uptoBulk d + 1
 end
def uptoSmall : (H : Type) → List (DataW H) → Bool := fun _ ds => decide (uptoBulkAll ds ≤ 1048576)
def OpenSpec.upto (s : _root_.Go.ChangeSpec) : _root_.Go.OpenSpec := { _root_.Go.OpenSpec.ofChange s with cond := some uptoSmall }

/-- 'postilionlaw02.CalendarDays', WHERE WHAT IT READS IS OF BULK AT MOST 1048576: true; the input reads as it did. -/
def calendarDaysUptoRow : OpenClaim := { program := "ytmofcccjepbhjaa", sum := "88f484d83e7bf6085ab9dceda5b004e8757eef017863ca292601d91590169dad", func := "postilion/postilionlaw02.CalendarDays", spec := "calendarDays", unfollowed := true, recurses := true, apart := false, narrowed := true }
def CalendarDaysUptoSaid : Prop := calendarDaysUptoRow.holds Try.pinned (OpenSpec.upto calendarDaysSpec)

/-- 'postilionlaw02.CalendarNext', WHERE WHAT IT READS IS OF BULK AT MOST 1048576: true; the input reads as it did. -/
def calendarNextUptoRow : OpenClaim := { program := "ytmofcccjepbhjaa", sum := "88f484d83e7bf6085ab9dceda5b004e8757eef017863ca292601d91590169dad", func := "postilion/postilionlaw02.CalendarNext", spec := "calendarNext", unfollowed := true, recurses := true, apart := false, narrowed := true }
def CalendarNextUptoSaid : Prop := calendarNextUptoRow.holds Try.pinned (OpenSpec.upto calendarNextSpec)

/-- 'postilionlaw02.CalendarAdds', WHERE WHAT IT READS IS OF BULK AT MOST 1048576: true; the input reads as it did. -/
def calendarAddsUptoRow : OpenClaim := { program := "ytmofcccjepbhjaa", sum := "88f484d83e7bf6085ab9dceda5b004e8757eef017863ca292601d91590169dad", func := "postilion/postilionlaw02.CalendarAdds", spec := "calendarAdds", unfollowed := true, recurses := true, apart := false, narrowed := true }
def CalendarAddsUptoSaid : Prop := calendarAddsUptoRow.holds Try.pinned (OpenSpec.upto calendarAddsSpec)

/-- 'postilionlaw02.CalendarCounts', WHERE WHAT IT READS IS OF BULK AT MOST 1048576: true; the input reads as it did. -/
def calendarCountsUptoRow : OpenClaim := { program := "ytmofcccjepbhjaa", sum := "88f484d83e7bf6085ab9dceda5b004e8757eef017863ca292601d91590169dad", func := "postilion/postilionlaw02.CalendarCounts", spec := "calendarCounts", unfollowed := true, recurses := true, apart := false, narrowed := true }
def CalendarCountsUptoSaid : Prop := calendarCountsUptoRow.holds Try.pinned (OpenSpec.upto calendarCountsSpec)

/-- 'postilionlaw02.CalendarWeeks', WHERE WHAT IT READS IS OF BULK AT MOST 1048576: true; the input reads as it did. -/
def calendarWeeksUptoRow : OpenClaim := { program := "ytmofcccjepbhjaa", sum := "88f484d83e7bf6085ab9dceda5b004e8757eef017863ca292601d91590169dad", func := "postilion/postilionlaw02.CalendarWeeks", spec := "calendarWeeks", unfollowed := true, recurses := true, apart := false, narrowed := true }
def CalendarWeeksUptoSaid : Prop := calendarWeeksUptoRow.holds Try.pinned (OpenSpec.upto calendarWeeksSpec)

/-- 'postilionlaw02.CalendarHolidays', WHERE WHAT IT READS IS OF BULK AT MOST 1048576: true; the input reads as it did. -/
def calendarHolidaysUptoRow : OpenClaim := { program := "ytmofcccjepbhjaa", sum := "88f484d83e7bf6085ab9dceda5b004e8757eef017863ca292601d91590169dad", func := "postilion/postilionlaw02.CalendarHolidays", spec := "calendarHolidays", unfollowed := true, recurses := true, apart := false, narrowed := true }
def CalendarHolidaysUptoSaid : Prop := calendarHolidaysUptoRow.holds Try.pinned (OpenSpec.upto calendarHolidaysSpec)

/-- 'postilionlaw02.CalendarZones', WHERE WHAT IT READS IS OF BULK AT MOST 1048576: true; the input reads as it did. -/
def calendarZonesUptoRow : OpenClaim := { program := "ytmofcccjepbhjaa", sum := "88f484d83e7bf6085ab9dceda5b004e8757eef017863ca292601d91590169dad", func := "postilion/postilionlaw02.CalendarZones", spec := "calendarZones", unfollowed := true, recurses := true, apart := false, narrowed := true }
def CalendarZonesUptoSaid : Prop := calendarZonesUptoRow.holds Try.pinned (OpenSpec.upto calendarZonesSpec)

end Rows
end Go.Proofs.Ytmofcccjepbhjaa
