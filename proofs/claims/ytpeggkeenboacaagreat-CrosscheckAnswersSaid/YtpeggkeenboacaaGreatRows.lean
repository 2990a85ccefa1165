/-
  No cell of these rows narrows 'for every input' (looked for: loops, veiled, ifaces, maps, wideKeys, modest, calm, conditions, laid).
  DERIVED. THE GIVEN ROWS OF THIS SEAT. 8 by the template 'for every input the law returns true; each argument reads behind the call as it read before'; 0 by the template 'total and deterministic' (their statements: YtpeggkeenboacaaGreatTotals.lean).
  GIVEN WITH THE SEED: the statements are not yours to turn. If you find one false, say at which input.
  Laid BY PROGRAM, IN A SANDBOX (cutbox-rows.mjs): the forced cells as the released guide's own fill.sh prints them over the translation 0d311d5f26232c65… (all of the seat's roots in one cut). By AI agents, Wed Nov 11 2026. No macro, syntax, notation, axiom, sorry.
-/
import Derived.Test.YtpeggkeenboacaaGreatChecked
import GoSem.Claim
import GoSem.ClaimJoined
import GoSem.ClaimMapViews
import Derived.JoinedTies
import Derived.KernelRfl
namespace Go.Proofs.YtpeggkeenboacaaGreat
/- THE CELL 'sum', in the pinned program and in every row, IS THE sha256 OF THE DUMP (.gsa) THAT YtpeggkeenboacaaGreatProg.lean LOADS. Nothing in Lean hashes anything: it is a label: what it is worth is what the hold of that sum in a sandbox is worth. -/
noncomputable def Tryz.pinned : Pinned := { name := "ytpeggkeenboacaagreat", sum := "0d311d5f26232c656b7c28971d5436e501446ef9c28c3393f71cc41de48b17ca", checked := Tryz.checked }
namespace Rows
def none {H : Type} : Left H := { results := [], args := [] }

/-- 'landaidlaw10.ParcelSteps': WHATEVER THE INPUT: true; the input reads as it did. -/
def parcelStepsSpec : ChangeSpec := { name := "parcelSteps", fn := fun _ => fun
  | [d1, d2, d3] => { results := [.lit (.bool true)], args := [d1, d2, d3] }
  | _ => none }
def parcelStepsRow : OpenClaim := { program := "ytpeggkeenboacaagreat", sum := "0d311d5f26232c656b7c28971d5436e501446ef9c28c3393f71cc41de48b17ca", func := "landaid/landaidlaw10.ParcelSteps", spec := "parcelSteps", unfollowed := true, recurses := true, apart := false }
def ParcelStepsSaid : Prop := parcelStepsRow.holds Tryz.pinned (OpenSpec.ofChange parcelStepsSpec)

/-- ITS FALSE NEIGHBOUR: 'it returns false'. Refute it at one input. -/
def parcelStepsWrong : ChangeSpec := { name := "parcelSteps", fn := fun _ => fun
  | [d1, d2, d3] => { results := [.lit (.bool false)], args := [d1, d2, d3] }
  | _ => none }
def ParcelStepsWrongFalsely : Prop := parcelStepsRow.holds Tryz.pinned (OpenSpec.ofChange parcelStepsWrong)

/-- 'landaidlaw10.ParcelHeirs': WHATEVER THE INPUT: true; the input reads as it did. -/
def parcelHeirsSpec : ChangeSpec := { name := "parcelHeirs", fn := fun _ => fun
  | [d1, d2, d3] => { results := [.lit (.bool true)], args := [d1, d2, d3] }
  | _ => none }
def parcelHeirsRow : OpenClaim := { program := "ytpeggkeenboacaagreat", sum := "0d311d5f26232c656b7c28971d5436e501446ef9c28c3393f71cc41de48b17ca", func := "landaid/landaidlaw10.ParcelHeirs", spec := "parcelHeirs", unfollowed := true, recurses := true, apart := false }
def ParcelHeirsSaid : Prop := parcelHeirsRow.holds Tryz.pinned (OpenSpec.ofChange parcelHeirsSpec)

/-- ITS FALSE NEIGHBOUR: 'it returns false'. Refute it at one input. -/
def parcelHeirsWrong : ChangeSpec := { name := "parcelHeirs", fn := fun _ => fun
  | [d1, d2, d3] => { results := [.lit (.bool false)], args := [d1, d2, d3] }
  | _ => none }
def ParcelHeirsWrongFalsely : Prop := parcelHeirsRow.holds Tryz.pinned (OpenSpec.ofChange parcelHeirsWrong)

/-- 'landaidlaw10.ParcelMerges': WHATEVER THE INPUT: true; the input reads as it did. -/
def parcelMergesSpec : ChangeSpec := { name := "parcelMerges", fn := fun _ => fun
  | [d1, d2, d3] => { results := [.lit (.bool true)], args := [d1, d2, d3] }
  | _ => none }
def parcelMergesRow : OpenClaim := { program := "ytpeggkeenboacaagreat", sum := "0d311d5f26232c656b7c28971d5436e501446ef9c28c3393f71cc41de48b17ca", func := "landaid/landaidlaw10.ParcelMerges", spec := "parcelMerges", unfollowed := true, recurses := true, apart := false }
def ParcelMergesSaid : Prop := parcelMergesRow.holds Tryz.pinned (OpenSpec.ofChange parcelMergesSpec)

/-- ITS FALSE NEIGHBOUR: 'it returns false'. Refute it at one input. -/
def parcelMergesWrong : ChangeSpec := { name := "parcelMerges", fn := fun _ => fun
  | [d1, d2, d3] => { results := [.lit (.bool false)], args := [d1, d2, d3] }
  | _ => none }
def ParcelMergesWrongFalsely : Prop := parcelMergesRow.holds Tryz.pinned (OpenSpec.ofChange parcelMergesWrong)

/-- 'landaidlaw10.ParcelApart': WHATEVER THE INPUT: true; the input reads as it did. -/
def parcelApartSpec : ChangeSpec := { name := "parcelApart", fn := fun _ => fun
  | [d] => { results := [.lit (.bool true)], args := [d] }
  | _ => none }
def parcelApartRow : OpenClaim := { program := "ytpeggkeenboacaagreat", sum := "0d311d5f26232c656b7c28971d5436e501446ef9c28c3393f71cc41de48b17ca", func := "landaid/landaidlaw10.ParcelApart", spec := "parcelApart", unfollowed := true, recurses := true, apart := false }
def ParcelApartSaid : Prop := parcelApartRow.holds Tryz.pinned (OpenSpec.ofChange parcelApartSpec)

/-- ITS FALSE NEIGHBOUR: 'it returns false'. Refute it at one input. -/
def parcelApartWrong : ChangeSpec := { name := "parcelApart", fn := fun _ => fun
  | [d] => { results := [.lit (.bool false)], args := [d] }
  | _ => none }
def ParcelApartWrongFalsely : Prop := parcelApartRow.holds Tryz.pinned (OpenSpec.ofChange parcelApartWrong)

/-- 'landaidlaw10.ParcelPast': WHATEVER THE INPUT: true; the input reads as it did. -/
def parcelPastSpec : ChangeSpec := { name := "parcelPast", fn := fun _ => fun
  | [d1, d2, d3] => { results := [.lit (.bool true)], args := [d1, d2, d3] }
  | _ => none }
def parcelPastRow : OpenClaim := { program := "ytpeggkeenboacaagreat", sum := "0d311d5f26232c656b7c28971d5436e501446ef9c28c3393f71cc41de48b17ca", func := "landaid/landaidlaw10.ParcelPast", spec := "parcelPast", unfollowed := true, recurses := true, apart := false }
def ParcelPastSaid : Prop := parcelPastRow.holds Tryz.pinned (OpenSpec.ofChange parcelPastSpec)

/-- ITS FALSE NEIGHBOUR: 'it returns false'. Refute it at one input. -/
def parcelPastWrong : ChangeSpec := { name := "parcelPast", fn := fun _ => fun
  | [d1, d2, d3] => { results := [.lit (.bool false)], args := [d1, d2, d3] }
  | _ => none }
def ParcelPastWrongFalsely : Prop := parcelPastRow.holds Tryz.pinned (OpenSpec.ofChange parcelPastWrong)

/-- 'landaidlaw10.ParcelKnown': WHATEVER THE INPUT: true; the input reads as it did. -/
def parcelKnownSpec : ChangeSpec := { name := "parcelKnown", fn := fun _ => fun
  | [d1, d2] => { results := [.lit (.bool true)], args := [d1, d2] }
  | _ => none }
def parcelKnownRow : OpenClaim := { program := "ytpeggkeenboacaagreat", sum := "0d311d5f26232c656b7c28971d5436e501446ef9c28c3393f71cc41de48b17ca", func := "landaid/landaidlaw10.ParcelKnown", spec := "parcelKnown", unfollowed := true, recurses := true, apart := false }
def ParcelKnownSaid : Prop := parcelKnownRow.holds Tryz.pinned (OpenSpec.ofChange parcelKnownSpec)

/-- ITS FALSE NEIGHBOUR: 'it returns false'. Refute it at one input. -/
def parcelKnownWrong : ChangeSpec := { name := "parcelKnown", fn := fun _ => fun
  | [d1, d2] => { results := [.lit (.bool false)], args := [d1, d2] }
  | _ => none }
def ParcelKnownWrongFalsely : Prop := parcelKnownRow.holds Tryz.pinned (OpenSpec.ofChange parcelKnownWrong)

/-- 'landaidlaw10.ParcelLooks': WHATEVER THE INPUT: true; the input reads as it did. -/
def parcelLooksSpec : ChangeSpec := { name := "parcelLooks", fn := fun _ => fun
  | [d1, d2, d3] => { results := [.lit (.bool true)], args := [d1, d2, d3] }
  | _ => none }
def parcelLooksRow : OpenClaim := { program := "ytpeggkeenboacaagreat", sum := "0d311d5f26232c656b7c28971d5436e501446ef9c28c3393f71cc41de48b17ca", func := "landaid/landaidlaw10.ParcelLooks", spec := "parcelLooks", unfollowed := true, recurses := true, apart := false }
def ParcelLooksSaid : Prop := parcelLooksRow.holds Tryz.pinned (OpenSpec.ofChange parcelLooksSpec)

/-- ITS FALSE NEIGHBOUR: 'it returns false'. Refute it at one input. -/
def parcelLooksWrong : ChangeSpec := { name := "parcelLooks", fn := fun _ => fun
  | [d1, d2, d3] => { results := [.lit (.bool false)], args := [d1, d2, d3] }
  | _ => none }
def ParcelLooksWrongFalsely : Prop := parcelLooksRow.holds Tryz.pinned (OpenSpec.ofChange parcelLooksWrong)

/-- 'landaidlaw22.CrosscheckAnswers': WHATEVER THE INPUT: true; the input reads as it did. -/
def crosscheckAnswersSpec : ChangeSpec := { name := "crosscheckAnswers", fn := fun _ => fun
  | [d1, d2, d3, d4, d5] => { results := [.lit (.bool true)], args := [d1, d2, d3, d4, d5] }
  | _ => none }
def crosscheckAnswersRow : OpenClaim := { program := "ytpeggkeenboacaagreat", sum := "0d311d5f26232c656b7c28971d5436e501446ef9c28c3393f71cc41de48b17ca", func := "landaid/landaidlaw22.CrosscheckAnswers", spec := "crosscheckAnswers", unfollowed := true, recurses := true, apart := false }
def CrosscheckAnswersSaid : Prop := crosscheckAnswersRow.holds Tryz.pinned (OpenSpec.ofChange crosscheckAnswersSpec)

/-- ITS FALSE NEIGHBOUR: 'it returns false'. Refute it at one input. -/
def crosscheckAnswersWrong : ChangeSpec := { name := "crosscheckAnswers", fn := fun _ => fun
  | [d1, d2, d3, d4, d5] => { results := [.lit (.bool false)], args := [d1, d2, d3, d4, d5] }
  | _ => none }
def CrosscheckAnswersWrongFalsely : Prop := crosscheckAnswersRow.holds Tryz.pinned (OpenSpec.ofChange crosscheckAnswersWrong)

/- THE SECOND FORM. 'bulk': how many values and letters a reading holds, each counted each time it is reached (what is shared counts as often as it is met; a slice's spare places count too). A statement '..UptoSaid' is the law's where the arguments, and the package variables that the reading takes, are together of bulk at most 1048576: NARROWER than '..Said'. Prove '..Said' where nothing that the law and all that it calls make is longer than what came in: it says more and counts as full. Else prove '..UptoSaid'. A law counts once. -/
mutual
def uptoBulk {H : Type} : DataW H → Nat
  | .lit (.string bytes) => bytes.length + 1
  | .lit _ => 1
  | .nil => 1
  | .ptr d => uptoBulk d + 1
  | .slice elems spare => uptoBulkAll elems + uptoBulkAll spare + 1
  | .agg parts => uptoBulkAll parts + 1
  | .iface _ d => uptoBulk d + 1
  | .map entries => uptoBulkEntries entries + 1
  | .held _ => 1
def uptoBulkAll {H : Type} : List (DataW H) → Nat
  | [] => 0
  | d :: r => uptoBulk d + uptoBulkAll r
def uptoBulkEntries {H : Type} : List (Lit × DataW H) → Nat
  | [] => 0
  | x :: r => uptoBulkEntry x + uptoBulkEntries r
def uptoBulkEntry {H : Type} : Lit × DataW H → Nat
  | (.string bytes, d) => bytes.length + uptoBulk d + 1
  | (_, d) => uptoBulk d + 1
 end
def uptoSmall : (H : Type) → List (DataW H) → Bool := fun _ ds => decide (uptoBulkAll ds ≤ 1048576)
def OpenSpec.upto (s : _root_.Go.ChangeSpec) : _root_.Go.OpenSpec := { _root_.Go.OpenSpec.ofChange s with cond := some uptoSmall }

/-- 'landaidlaw10.ParcelSteps', WHERE WHAT IT READS IS OF BULK AT MOST 1048576: true; the input reads as it did. -/
def parcelStepsUptoRow : OpenClaim := { program := "ytpeggkeenboacaagreat", sum := "0d311d5f26232c656b7c28971d5436e501446ef9c28c3393f71cc41de48b17ca", func := "landaid/landaidlaw10.ParcelSteps", spec := "parcelSteps", unfollowed := true, recurses := true, apart := false, narrowed := true }
def ParcelStepsUptoSaid : Prop := parcelStepsUptoRow.holds Tryz.pinned (OpenSpec.upto parcelStepsSpec)

/-- 'landaidlaw10.ParcelHeirs', WHERE WHAT IT READS IS OF BULK AT MOST 1048576: true; the input reads as it did. -/
def parcelHeirsUptoRow : OpenClaim := { program := "ytpeggkeenboacaagreat", sum := "0d311d5f26232c656b7c28971d5436e501446ef9c28c3393f71cc41de48b17ca", func := "landaid/landaidlaw10.ParcelHeirs", spec := "parcelHeirs", unfollowed := true, recurses := true, apart := false, narrowed := true }
def ParcelHeirsUptoSaid : Prop := parcelHeirsUptoRow.holds Tryz.pinned (OpenSpec.upto parcelHeirsSpec)

/-- 'landaidlaw10.ParcelMerges', WHERE WHAT IT READS IS OF BULK AT MOST 1048576: true; the input reads as it did. -/
def parcelMergesUptoRow : OpenClaim := { program := "ytpeggkeenboacaagreat", sum := "0d311d5f26232c656b7c28971d5436e501446ef9c28c3393f71cc41de48b17ca", func := "landaid/landaidlaw10.ParcelMerges", spec := "parcelMerges", unfollowed := true, recurses := true, apart := false, narrowed := true }
def ParcelMergesUptoSaid : Prop := parcelMergesUptoRow.holds Tryz.pinned (OpenSpec.upto parcelMergesSpec)

/-- 'landaidlaw10.ParcelApart', WHERE WHAT IT READS IS OF BULK AT MOST 1048576: true; the input reads as it did. -/
def parcelApartUptoRow : OpenClaim := { program := "ytpeggkeenboacaagreat", sum := "0d311d5f26232c656b7c28971d5436e501446ef9c28c3393f71cc41de48b17ca", func := "landaid/landaidlaw10.ParcelApart", spec := "parcelApart", unfollowed := true, recurses := true, apart := false, narrowed := true }
def ParcelApartUptoSaid : Prop := parcelApartUptoRow.holds Tryz.pinned (OpenSpec.upto parcelApartSpec)

/-- 'landaidlaw10.ParcelPast', WHERE WHAT IT READS IS OF BULK AT MOST 1048576: true; the input reads as it did. -/
def parcelPastUptoRow : OpenClaim := { program := "ytpeggkeenboacaagreat", sum := "0d311d5f26232c656b7c28971d5436e501446ef9c28c3393f71cc41de48b17ca", func := "landaid/landaidlaw10.ParcelPast", spec := "parcelPast", unfollowed := true, recurses := true, apart := false, narrowed := true }
def ParcelPastUptoSaid : Prop := parcelPastUptoRow.holds Tryz.pinned (OpenSpec.upto parcelPastSpec)

/-- 'landaidlaw10.ParcelKnown', WHERE WHAT IT READS IS OF BULK AT MOST 1048576: true; the input reads as it did. -/
def parcelKnownUptoRow : OpenClaim := { program := "ytpeggkeenboacaagreat", sum := "0d311d5f26232c656b7c28971d5436e501446ef9c28c3393f71cc41de48b17ca", func := "landaid/landaidlaw10.ParcelKnown", spec := "parcelKnown", unfollowed := true, recurses := true, apart := false, narrowed := true }
def ParcelKnownUptoSaid : Prop := parcelKnownUptoRow.holds Tryz.pinned (OpenSpec.upto parcelKnownSpec)

/-- 'landaidlaw10.ParcelLooks', WHERE WHAT IT READS IS OF BULK AT MOST 1048576: true; the input reads as it did. -/
def parcelLooksUptoRow : OpenClaim := { program := "ytpeggkeenboacaagreat", sum := "0d311d5f26232c656b7c28971d5436e501446ef9c28c3393f71cc41de48b17ca", func := "landaid/landaidlaw10.ParcelLooks", spec := "parcelLooks", unfollowed := true, recurses := true, apart := false, narrowed := true }
def ParcelLooksUptoSaid : Prop := parcelLooksUptoRow.holds Tryz.pinned (OpenSpec.upto parcelLooksSpec)

/-- 'landaidlaw22.CrosscheckAnswers', WHERE WHAT IT READS IS OF BULK AT MOST 1048576: true; the input reads as it did. -/
def crosscheckAnswersUptoRow : OpenClaim := { program := "ytpeggkeenboacaagreat", sum := "0d311d5f26232c656b7c28971d5436e501446ef9c28c3393f71cc41de48b17ca", func := "landaid/landaidlaw22.CrosscheckAnswers", spec := "crosscheckAnswers", unfollowed := true, recurses := true, apart := false, narrowed := true }
def CrosscheckAnswersUptoSaid : Prop := crosscheckAnswersUptoRow.holds Tryz.pinned (OpenSpec.upto crosscheckAnswersSpec)

end Rows
end Go.Proofs.YtpeggkeenboacaaGreat
