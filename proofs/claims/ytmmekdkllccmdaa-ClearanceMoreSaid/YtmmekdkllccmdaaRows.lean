/-
  No cell of these rows narrows 'for every input' (looked for: loops, veiled, ifaces, maps, wideKeys, modest, calm, conditions, laid).
  DERIVED. THE GIVEN ROWS OF THIS SEAT. 12 by the template 'for every input the law returns true; each argument reads behind the call as it read before'; 0 by the template 'total and deterministic' (their statements: YtmmekdkllccmdaaTotals.lean).
  GIVEN WITH THE SEED: the statements are not yours to turn. If you find one false, say at which input.
  Laid BY PROGRAM, IN A SANDBOX (cutbox-rows.mjs): the forced cells as the released guide's own fill.sh prints them over the translation da0d9c555e6154bd… (all of the seat's roots in one cut). By AI agents, Wed Nov 11 2026. No macro, syntax, notation, axiom, sorry.
-/
import Derived.Test.YtmmekdkllccmdaaChecked
import GoSem.Claim
import GoSem.ClaimJoined
import GoSem.ClaimMapViews
import Derived.JoinedTies
import Derived.KernelRfl
namespace Go.Proofs.Ytmmekdkllccmdaa
/- THE CELL 'sum', in the pinned program and in every row, IS THE sha256 OF THE DUMP (.gsa) THAT YtmmekdkllccmdaaProg.lean LOADS. Nothing in Lean hashes anything: it is a label: what it is worth is what the hold of that sum in a sandbox is worth. -/
noncomputable def Try.pinned : Pinned := { name := "ytmmekdkllccmdaa", sum := "da0d9c555e6154bdaf7dbe1cc60c0904b1446819a66272c3cf966516708915d4", checked := Try.checked }
namespace Rows
def none {H : Type} : Left H := { results := [], args := [] }

/-- 'landaidlaw41.ClearanceAnswers': WHATEVER THE INPUT: true; the input reads as it did. -/
def clearanceAnswersSpec : ChangeSpec := { name := "clearanceAnswers", fn := fun _ => fun
  | [d1, d2, d3, d4, d5, d6, d7, d8] => { results := [.lit (.bool true)], args := [d1, d2, d3, d4, d5, d6, d7, d8] }
  | _ => none }
def clearanceAnswersRow : OpenClaim := { program := "ytmmekdkllccmdaa", sum := "da0d9c555e6154bdaf7dbe1cc60c0904b1446819a66272c3cf966516708915d4", func := "landaid/landaidlaw41.ClearanceAnswers", spec := "clearanceAnswers", unfollowed := true, recurses := true, named := ["math/bits.divideError", "math/bits.overflowError"], apart := false }
def ClearanceAnswersSaid : Prop := clearanceAnswersRow.holds Try.pinned (OpenSpec.ofChange clearanceAnswersSpec)

/-- ITS FALSE NEIGHBOUR: 'it returns false'. Refute it at one input. -/
def clearanceAnswersWrong : ChangeSpec := { name := "clearanceAnswers", fn := fun _ => fun
  | [d1, d2, d3, d4, d5, d6, d7, d8] => { results := [.lit (.bool false)], args := [d1, d2, d3, d4, d5, d6, d7, d8] }
  | _ => none }
def ClearanceAnswersWrongFalsely : Prop := clearanceAnswersRow.holds Try.pinned (OpenSpec.ofChange clearanceAnswersWrong)

/-- 'landaidlaw41.ClearanceWithin': WHATEVER THE INPUT: true; the input reads as it did. -/
def clearanceWithinSpec : ChangeSpec := { name := "clearanceWithin", fn := fun _ => fun
  | [d] => { results := [.lit (.bool true)], args := [d] }
  | _ => none }
def clearanceWithinRow : OpenClaim := { program := "ytmmekdkllccmdaa", sum := "da0d9c555e6154bdaf7dbe1cc60c0904b1446819a66272c3cf966516708915d4", func := "landaid/landaidlaw41.ClearanceWithin", spec := "clearanceWithin", unfollowed := true, recurses := true, named := ["math/bits.divideError", "math/bits.overflowError"], apart := false }
def ClearanceWithinSaid : Prop := clearanceWithinRow.holds Try.pinned (OpenSpec.ofChange clearanceWithinSpec)

/-- ITS FALSE NEIGHBOUR: 'it returns false'. Refute it at one input. -/
def clearanceWithinWrong : ChangeSpec := { name := "clearanceWithin", fn := fun _ => fun
  | [d] => { results := [.lit (.bool false)], args := [d] }
  | _ => none }
def ClearanceWithinWrongFalsely : Prop := clearanceWithinRow.holds Try.pinned (OpenSpec.ofChange clearanceWithinWrong)

/-- 'landaidlaw41.ClearanceMore': WHATEVER THE INPUT: true; the input reads as it did. -/
def clearanceMoreSpec : ChangeSpec := { name := "clearanceMore", fn := fun _ => fun
  | [d] => { results := [.lit (.bool true)], args := [d] }
  | _ => none }
def clearanceMoreRow : OpenClaim := { program := "ytmmekdkllccmdaa", sum := "da0d9c555e6154bdaf7dbe1cc60c0904b1446819a66272c3cf966516708915d4", func := "landaid/landaidlaw41.ClearanceMore", spec := "clearanceMore", unfollowed := true, recurses := true, named := ["math/bits.divideError", "math/bits.overflowError"], apart := false }
def ClearanceMoreSaid : Prop := clearanceMoreRow.holds Try.pinned (OpenSpec.ofChange clearanceMoreSpec)

/-- ITS FALSE NEIGHBOUR: 'it returns false'. Refute it at one input. -/
def clearanceMoreWrong : ChangeSpec := { name := "clearanceMore", fn := fun _ => fun
  | [d] => { results := [.lit (.bool false)], args := [d] }
  | _ => none }
def ClearanceMoreWrongFalsely : Prop := clearanceMoreRow.holds Try.pinned (OpenSpec.ofChange clearanceMoreWrong)

/-- 'landaidlaw41.ClearanceRates': WHATEVER THE INPUT: true; the input reads as it did. -/
def clearanceRatesSpec : ChangeSpec := { name := "clearanceRates", fn := fun _ => fun
  | [d1, d2, d3] => { results := [.lit (.bool true)], args := [d1, d2, d3] }
  | _ => none }
def clearanceRatesRow : OpenClaim := { program := "ytmmekdkllccmdaa", sum := "da0d9c555e6154bdaf7dbe1cc60c0904b1446819a66272c3cf966516708915d4", func := "landaid/landaidlaw41.ClearanceRates", spec := "clearanceRates", unfollowed := true, recurses := true, named := ["math/bits.divideError", "math/bits.overflowError"], apart := false }
def ClearanceRatesSaid : Prop := clearanceRatesRow.holds Try.pinned (OpenSpec.ofChange clearanceRatesSpec)

/-- ITS FALSE NEIGHBOUR: 'it returns false'. Refute it at one input. -/
def clearanceRatesWrong : ChangeSpec := { name := "clearanceRates", fn := fun _ => fun
  | [d1, d2, d3] => { results := [.lit (.bool false)], args := [d1, d2, d3] }
  | _ => none }
def ClearanceRatesWrongFalsely : Prop := clearanceRatesRow.holds Try.pinned (OpenSpec.ofChange clearanceRatesWrong)

/-- 'landaidlaw41.ClearanceYears': WHATEVER THE INPUT: true; the input reads as it did. -/
def clearanceYearsSpec : ChangeSpec := { name := "clearanceYears", fn := fun _ => fun
  | [d] => { results := [.lit (.bool true)], args := [d] }
  | _ => none }
def clearanceYearsRow : OpenClaim := { program := "ytmmekdkllccmdaa", sum := "da0d9c555e6154bdaf7dbe1cc60c0904b1446819a66272c3cf966516708915d4", func := "landaid/landaidlaw41.ClearanceYears", spec := "clearanceYears", unfollowed := true, recurses := true, named := ["math/bits.divideError", "math/bits.overflowError"], apart := false }
def ClearanceYearsSaid : Prop := clearanceYearsRow.holds Try.pinned (OpenSpec.ofChange clearanceYearsSpec)

/-- ITS FALSE NEIGHBOUR: 'it returns false'. Refute it at one input. -/
def clearanceYearsWrong : ChangeSpec := { name := "clearanceYears", fn := fun _ => fun
  | [d] => { results := [.lit (.bool false)], args := [d] }
  | _ => none }
def ClearanceYearsWrongFalsely : Prop := clearanceYearsRow.holds Try.pinned (OpenSpec.ofChange clearanceYearsWrong)

/-- 'landaidlaw03.CalendarWorking': WHATEVER THE INPUT: true; the input reads as it did. -/
def calendarWorkingSpec : ChangeSpec := { name := "calendarWorking", fn := fun _ => fun
  | [d1, d2, d3, d4] => { results := [.lit (.bool true)], args := [d1, d2, d3, d4] }
  | _ => none }
def calendarWorkingRow : OpenClaim := { program := "ytmmekdkllccmdaa", sum := "da0d9c555e6154bdaf7dbe1cc60c0904b1446819a66272c3cf966516708915d4", func := "landaid/landaidlaw03.CalendarWorking", spec := "calendarWorking", unfollowed := true, recurses := true, apart := false }
def CalendarWorkingSaid : Prop := calendarWorkingRow.holds Try.pinned (OpenSpec.ofChange calendarWorkingSpec)

/-- ITS FALSE NEIGHBOUR: 'it returns false'. Refute it at one input. -/
def calendarWorkingWrong : ChangeSpec := { name := "calendarWorking", fn := fun _ => fun
  | [d1, d2, d3, d4] => { results := [.lit (.bool false)], args := [d1, d2, d3, d4] }
  | _ => none }
def CalendarWorkingWrongFalsely : Prop := calendarWorkingRow.holds Try.pinned (OpenSpec.ofChange calendarWorkingWrong)

/-- 'landaidlaw03.CalendarBack': WHATEVER THE INPUT: true; the input reads as it did. -/
def calendarBackSpec : ChangeSpec := { name := "calendarBack", fn := fun _ => fun
  | [d] => { results := [.lit (.bool true)], args := [d] }
  | _ => none }
def calendarBackRow : OpenClaim := { program := "ytmmekdkllccmdaa", sum := "da0d9c555e6154bdaf7dbe1cc60c0904b1446819a66272c3cf966516708915d4", func := "landaid/landaidlaw03.CalendarBack", spec := "calendarBack", unfollowed := true, recurses := true, apart := false }
def CalendarBackSaid : Prop := calendarBackRow.holds Try.pinned (OpenSpec.ofChange calendarBackSpec)

/-- ITS FALSE NEIGHBOUR: 'it returns false'. Refute it at one input. -/
def calendarBackWrong : ChangeSpec := { name := "calendarBack", fn := fun _ => fun
  | [d] => { results := [.lit (.bool false)], args := [d] }
  | _ => none }
def CalendarBackWrongFalsely : Prop := calendarBackRow.holds Try.pinned (OpenSpec.ofChange calendarBackWrong)

/-- 'landaidlaw03.CalendarWindows': WHATEVER THE INPUT: true; the input reads as it did. -/
def calendarWindowsSpec : ChangeSpec := { name := "calendarWindows", fn := fun _ => fun
  | [d1, d2, d3] => { results := [.lit (.bool true)], args := [d1, d2, d3] }
  | _ => none }
def calendarWindowsRow : OpenClaim := { program := "ytmmekdkllccmdaa", sum := "da0d9c555e6154bdaf7dbe1cc60c0904b1446819a66272c3cf966516708915d4", func := "landaid/landaidlaw03.CalendarWindows", spec := "calendarWindows", unfollowed := true, recurses := true, apart := false }
def CalendarWindowsSaid : Prop := calendarWindowsRow.holds Try.pinned (OpenSpec.ofChange calendarWindowsSpec)

/-- ITS FALSE NEIGHBOUR: 'it returns false'. Refute it at one input. -/
def calendarWindowsWrong : ChangeSpec := { name := "calendarWindows", fn := fun _ => fun
  | [d1, d2, d3] => { results := [.lit (.bool false)], args := [d1, d2, d3] }
  | _ => none }
def CalendarWindowsWrongFalsely : Prop := calendarWindowsRow.holds Try.pinned (OpenSpec.ofChange calendarWindowsWrong)

/-- 'landaidlaw03.CalendarAnswers': WHATEVER THE INPUT: true; the input reads as it did. -/
def calendarAnswersSpec : ChangeSpec := { name := "calendarAnswers", fn := fun _ => fun
  | [d1, d2, d3, d4, d5] => { results := [.lit (.bool true)], args := [d1, d2, d3, d4, d5] }
  | _ => none }
def calendarAnswersRow : OpenClaim := { program := "ytmmekdkllccmdaa", sum := "da0d9c555e6154bdaf7dbe1cc60c0904b1446819a66272c3cf966516708915d4", func := "landaid/landaidlaw03.CalendarAnswers", spec := "calendarAnswers", unfollowed := true, recurses := true, apart := false }
def CalendarAnswersSaid : Prop := calendarAnswersRow.holds Try.pinned (OpenSpec.ofChange calendarAnswersSpec)

/-- ITS FALSE NEIGHBOUR: 'it returns false'. Refute it at one input. -/
def calendarAnswersWrong : ChangeSpec := { name := "calendarAnswers", fn := fun _ => fun
  | [d1, d2, d3, d4, d5] => { results := [.lit (.bool false)], args := [d1, d2, d3, d4, d5] }
  | _ => none }
def CalendarAnswersWrongFalsely : Prop := calendarAnswersRow.holds Try.pinned (OpenSpec.ofChange calendarAnswersWrong)

/-- 'landaidlaw30.LatenessParts': WHATEVER THE INPUT: true; the input reads as it did. -/
def latenessPartsSpec : ChangeSpec := { name := "latenessParts", fn := fun _ => fun
  | [d1, d2, d3] => { results := [.lit (.bool true)], args := [d1, d2, d3] }
  | _ => none }
def latenessPartsRow : OpenClaim := { program := "ytmmekdkllccmdaa", sum := "da0d9c555e6154bdaf7dbe1cc60c0904b1446819a66272c3cf966516708915d4", func := "landaid/landaidlaw30.LatenessParts", spec := "latenessParts", unfollowed := true, recurses := true, named := ["math/bits.divideError", "math/bits.overflowError"], apart := false }
def LatenessPartsSaid : Prop := latenessPartsRow.holds Try.pinned (OpenSpec.ofChange latenessPartsSpec)

/-- ITS FALSE NEIGHBOUR: 'it returns false'. Refute it at one input. -/
def latenessPartsWrong : ChangeSpec := { name := "latenessParts", fn := fun _ => fun
  | [d1, d2, d3] => { results := [.lit (.bool false)], args := [d1, d2, d3] }
  | _ => none }
def LatenessPartsWrongFalsely : Prop := latenessPartsRow.holds Try.pinned (OpenSpec.ofChange latenessPartsWrong)

/-- 'landaidlaw27.VisitAnswers': WHATEVER THE INPUT: true; the input reads as it did. -/
def visitAnswersSpec : ChangeSpec := { name := "visitAnswers", fn := fun _ => fun
  | [d1, d2, d3, d4, d5] => { results := [.lit (.bool true)], args := [d1, d2, d3, d4, d5] }
  | _ => none }
def visitAnswersRow : OpenClaim := { program := "ytmmekdkllccmdaa", sum := "da0d9c555e6154bdaf7dbe1cc60c0904b1446819a66272c3cf966516708915d4", func := "landaid/landaidlaw27.VisitAnswers", spec := "visitAnswers", unfollowed := true, recurses := true, apart := false }
def VisitAnswersSaid : Prop := visitAnswersRow.holds Try.pinned (OpenSpec.ofChange visitAnswersSpec)

/-- ITS FALSE NEIGHBOUR: 'it returns false'. Refute it at one input. -/
def visitAnswersWrong : ChangeSpec := { name := "visitAnswers", fn := fun _ => fun
  | [d1, d2, d3, d4, d5] => { results := [.lit (.bool false)], args := [d1, d2, d3, d4, d5] }
  | _ => none }
def VisitAnswersWrongFalsely : Prop := visitAnswersRow.holds Try.pinned (OpenSpec.ofChange visitAnswersWrong)

/-- 'landaidlaw27.VisitOrder': WHATEVER THE INPUT: true; the input reads as it did. -/
def visitOrderSpec : ChangeSpec := { name := "visitOrder", fn := fun _ => fun
  | [d] => { results := [.lit (.bool true)], args := [d] }
  | _ => none }
def visitOrderRow : OpenClaim := { program := "ytmmekdkllccmdaa", sum := "da0d9c555e6154bdaf7dbe1cc60c0904b1446819a66272c3cf966516708915d4", func := "landaid/landaidlaw27.VisitOrder", spec := "visitOrder", unfollowed := true, recurses := true, apart := false }
def VisitOrderSaid : Prop := visitOrderRow.holds Try.pinned (OpenSpec.ofChange visitOrderSpec)

/-- ITS FALSE NEIGHBOUR: 'it returns false'. Refute it at one input. -/
def visitOrderWrong : ChangeSpec := { name := "visitOrder", fn := fun _ => fun
  | [d] => { results := [.lit (.bool false)], args := [d] }
  | _ => none }
def VisitOrderWrongFalsely : Prop := visitOrderRow.holds Try.pinned (OpenSpec.ofChange visitOrderWrong)

/- THE SECOND FORM. 'bulk': how many values and letters a reading holds, each counted each time it is reached (what is shared counts as often as it is met; a slice's spare places count too). A statement '..UptoSaid' is the law's where the arguments, and the package variables that the reading takes, are together of bulk at most 1048576: NARROWER than '..Said'. Prove '..Said' where nothing that the law and all that it calls make is longer than what came in: it says more and counts as full. Else prove '..UptoSaid'. A law counts once. -/
mutual
def uptoBulk {H : Type} : DataW H → Nat
  | .lit (.string bytes) => bytes.length + 1
  | .lit _ => 1
  | .nil => 1
  | .ptr d => uptoBulk d + 1
  | .slice elems spare => uptoBulkAll elems + uptoBulkAll spare + 1
  | .agg parts => uptoBulkAll parts + 1
  | .iface _ d => uptoBulk d + 1
  | .map entries => uptoBulkEntries entries + 1
  | .held _ => 1
def uptoBulkAll {H : Type} : List (DataW H) → Nat
  | [] => 0
  | d :: r => uptoBulk d + uptoBulkAll r
def uptoBulkEntries {H : Type} : List (Lit × DataW H) → Nat
  | [] => 0
  | x :: r => uptoBulkEntry x + uptoBulkEntries r
def uptoBulkEntry {H : Type} : Lit × DataW H → Nat
  | (.string bytes, d) => bytes.length + uptoBulk d + 1
  | (_, d) => uptoBulk d + 1
 end
def uptoSmall : (H : Type) → List (DataW H) → Bool := fun _ ds => decide (uptoBulkAll ds ≤ 1048576)
def OpenSpec.upto (s : _root_.Go.ChangeSpec) : _root_.Go.OpenSpec := { _root_.Go.OpenSpec.ofChange s with cond := some uptoSmall }

/-- 'landaidlaw41.ClearanceAnswers', WHERE WHAT IT READS IS OF BULK AT MOST 1048576: true; the input reads as it did. -/
def clearanceAnswersUptoRow : OpenClaim := { program := "ytmmekdkllccmdaa", sum := "da0d9c555e6154bdaf7dbe1cc60c0904b1446819a66272c3cf966516708915d4", func := "landaid/landaidlaw41.ClearanceAnswers", spec := "clearanceAnswers", unfollowed := true, recurses := true, named := ["math/bits.divideError", "math/bits.overflowError"], apart := false, narrowed := true }
def ClearanceAnswersUptoSaid : Prop := clearanceAnswersUptoRow.holds Try.pinned (OpenSpec.upto clearanceAnswersSpec)

/-- 'landaidlaw41.ClearanceWithin', WHERE WHAT IT READS IS OF BULK AT MOST 1048576: true; the input reads as it did. -/
def clearanceWithinUptoRow : OpenClaim := { program := "ytmmekdkllccmdaa", sum := "da0d9c555e6154bdaf7dbe1cc60c0904b1446819a66272c3cf966516708915d4", func := "landaid/landaidlaw41.ClearanceWithin", spec := "clearanceWithin", unfollowed := true, recurses := true, named := ["math/bits.divideError", "math/bits.overflowError"], apart := false, narrowed := true }
def ClearanceWithinUptoSaid : Prop := clearanceWithinUptoRow.holds Try.pinned (OpenSpec.upto clearanceWithinSpec)

/-- 'landaidlaw41.ClearanceMore', WHERE WHAT IT READS IS OF BULK AT MOST 1048576: true; the input reads as it did. -/
def clearanceMoreUptoRow : OpenClaim := { program := "ytmmekdkllccmdaa", sum := "da0d9c555e6154bdaf7dbe1cc60c0904b1446819a66272c3cf966516708915d4", func := "landaid/landaidlaw41.ClearanceMore", spec := "clearanceMore", unfollowed := true, recurses := true, named := ["math/bits.divideError", "math/bits.overflowError"], apart := false, narrowed := true }
def ClearanceMoreUptoSaid : Prop := clearanceMoreUptoRow.holds Try.pinned (OpenSpec.upto clearanceMoreSpec)

/-- 'landaidlaw41.ClearanceRates', WHERE WHAT IT READS IS OF BULK AT MOST 1048576: true; the input reads as it did. -/
def clearanceRatesUptoRow : OpenClaim := { program := "ytmmekdkllccmdaa", sum := "da0d9c555e6154bdaf7dbe1cc60c0904b1446819a66272c3cf966516708915d4", func := "landaid/landaidlaw41.ClearanceRates", spec := "clearanceRates", unfollowed := true, recurses := true, named := ["math/bits.divideError", "math/bits.overflowError"], apart := false, narrowed := true }
def ClearanceRatesUptoSaid : Prop := clearanceRatesUptoRow.holds Try.pinned (OpenSpec.upto clearanceRatesSpec)

/-- 'landaidlaw41.ClearanceYears', WHERE WHAT IT READS IS OF BULK AT MOST 1048576: true; the input reads as it did. -/
def clearanceYearsUptoRow : OpenClaim := { program := "ytmmekdkllccmdaa", sum := "da0d9c555e6154bdaf7dbe1cc60c0904b1446819a66272c3cf966516708915d4", func := "landaid/landaidlaw41.ClearanceYears", spec := "clearanceYears", unfollowed := true, recurses := true, named := ["math/bits.divideError", "math/bits.overflowError"], apart := false, narrowed := true }
def ClearanceYearsUptoSaid : Prop := clearanceYearsUptoRow.holds Try.pinned (OpenSpec.upto clearanceYearsSpec)

/-- 'landaidlaw03.CalendarWorking', WHERE WHAT IT READS IS OF BULK AT MOST 1048576: true; the input reads as it did. -/
def calendarWorkingUptoRow : OpenClaim := { program := "ytmmekdkllccmdaa", sum := "da0d9c555e6154bdaf7dbe1cc60c0904b1446819a66272c3cf966516708915d4", func := "landaid/landaidlaw03.CalendarWorking", spec := "calendarWorking", unfollowed := true, recurses := true, apart := false, narrowed := true }
def CalendarWorkingUptoSaid : Prop := calendarWorkingUptoRow.holds Try.pinned (OpenSpec.upto calendarWorkingSpec)

/-- 'landaidlaw03.CalendarBack', WHERE WHAT IT READS IS OF BULK AT MOST 1048576: true; the input reads as it did. -/
def calendarBackUptoRow : OpenClaim := { program := "ytmmekdkllccmdaa", sum := "da0d9c555e6154bdaf7dbe1cc60c0904b1446819a66272c3cf966516708915d4", func := "landaid/landaidlaw03.CalendarBack", spec := "calendarBack", unfollowed := true, recurses := true, apart := false, narrowed := true }
def CalendarBackUptoSaid : Prop := calendarBackUptoRow.holds Try.pinned (OpenSpec.upto calendarBackSpec)

/-- 'landaidlaw03.CalendarWindows', WHERE WHAT IT READS IS OF BULK AT MOST 1048576: true; the input reads as it did. -/
def calendarWindowsUptoRow : OpenClaim := { program := "ytmmekdkllccmdaa", sum := "da0d9c555e6154bdaf7dbe1cc60c0904b1446819a66272c3cf966516708915d4", func := "landaid/landaidlaw03.CalendarWindows", spec := "calendarWindows", unfollowed := true, recurses := true, apart := false, narrowed := true }
def CalendarWindowsUptoSaid : Prop := calendarWindowsUptoRow.holds Try.pinned (OpenSpec.upto calendarWindowsSpec)

/-- 'landaidlaw03.CalendarAnswers', WHERE WHAT IT READS IS OF BULK AT MOST 1048576: true; the input reads as it did. -/
def calendarAnswersUptoRow : OpenClaim := { program := "ytmmekdkllccmdaa", sum := "da0d9c555e6154bdaf7dbe1cc60c0904b1446819a66272c3cf966516708915d4", func := "landaid/landaidlaw03.CalendarAnswers", spec := "calendarAnswers", unfollowed := true, recurses := true, apart := false, narrowed := true }
def CalendarAnswersUptoSaid : Prop := calendarAnswersUptoRow.holds Try.pinned (OpenSpec.upto calendarAnswersSpec)

/-- 'landaidlaw30.LatenessParts', WHERE WHAT IT READS IS OF BULK AT MOST 1048576: true; the input reads as it did. -/
def latenessPartsUptoRow : OpenClaim := { program := "ytmmekdkllccmdaa", sum := "da0d9c555e6154bdaf7dbe1cc60c0904b1446819a66272c3cf966516708915d4", func := "landaid/landaidlaw30.LatenessParts", spec := "latenessParts", unfollowed := true, recurses := true, named := ["math/bits.divideError", "math/bits.overflowError"], apart := false, narrowed := true }
def LatenessPartsUptoSaid : Prop := latenessPartsUptoRow.holds Try.pinned (OpenSpec.upto latenessPartsSpec)

/-- 'landaidlaw27.VisitAnswers', WHERE WHAT IT READS IS OF BULK AT MOST 1048576: true; the input reads as it did. -/
def visitAnswersUptoRow : OpenClaim := { program := "ytmmekdkllccmdaa", sum := "da0d9c555e6154bdaf7dbe1cc60c0904b1446819a66272c3cf966516708915d4", func := "landaid/landaidlaw27.VisitAnswers", spec := "visitAnswers", unfollowed := true, recurses := true, apart := false, narrowed := true }
def VisitAnswersUptoSaid : Prop := visitAnswersUptoRow.holds Try.pinned (OpenSpec.upto visitAnswersSpec)

/-- 'landaidlaw27.VisitOrder', WHERE WHAT IT READS IS OF BULK AT MOST 1048576: true; the input reads as it did. -/
def visitOrderUptoRow : OpenClaim := { program := "ytmmekdkllccmdaa", sum := "da0d9c555e6154bdaf7dbe1cc60c0904b1446819a66272c3cf966516708915d4", func := "landaid/landaidlaw27.VisitOrder", spec := "visitOrder", unfollowed := true, recurses := true, apart := false, narrowed := true }
def VisitOrderUptoSaid : Prop := visitOrderUptoRow.holds Try.pinned (OpenSpec.upto visitOrderSpec)

end Rows
end Go.Proofs.Ytmmekdkllccmdaa
