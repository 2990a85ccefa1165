/-
  No cell of these rows narrows 'for every input' (looked for: loops, veiled, ifaces, maps, wideKeys, modest, calm, conditions, laid).
  DERIVED. THE GIVEN ROWS OF THIS SEAT. 6 by the template 'for every input the law returns true; each argument reads behind the call as it read before'; 0 by the template 'total and deterministic' (their statements: YtackhimcndkccaaTotals.lean).
  GIVEN WITH THE SEED: the statements are not yours to turn. If you find one false, say at which input.
  Laid BY PROGRAM, IN A SANDBOX (cutbox-rows.mjs): the forced cells as the released guide's own fill.sh prints them over the translation f609c1a720b82d35… (all of the seat's roots in one cut). By AI agents, Wed Nov 11 2026. No macro, syntax, notation, axiom, sorry.
-/
import Derived.Test.YtackhimcndkccaaChecked
import GoSem.Claim
import GoSem.ClaimJoined
import GoSem.ClaimMapViews
import Derived.JoinedTies
import Derived.KernelRfl
namespace Go.Proofs.Ytackhimcndkccaa
/- THE CELL 'sum', in the pinned program and in every row, IS THE sha256 OF THE DUMP (.gsa) THAT YtackhimcndkccaaProg.lean LOADS. Nothing in Lean hashes anything: it is a label: what it is worth is what the hold of that sum in a sandbox is worth. -/
noncomputable def Try.pinned : Pinned := { name := "ytackhimcndkccaa", sum := "f609c1a720b82d353a942119ea7833f04632cc64db7fd70e943a94220fc744e9", checked := Try.checked }
namespace Rows
def none {H : Type} : Left H := { results := [], args := [] }

/-- 'landaidlaw26.EstimateAnswers': WHATEVER THE INPUT: true; the input reads as it did. -/
def estimateAnswersSpec : ChangeSpec := { name := "estimateAnswers", fn := fun _ => fun
  | [d1, d2, d3, d4, d5] => { results := [.lit (.bool true)], args := [d1, d2, d3, d4, d5] }
  | _ => none }
def estimateAnswersRow : OpenClaim := { program := "ytackhimcndkccaa", sum := "f609c1a720b82d353a942119ea7833f04632cc64db7fd70e943a94220fc744e9", func := "landaid/landaidlaw26.EstimateAnswers", spec := "estimateAnswers", apart := false }
def EstimateAnswersSaid : Prop := estimateAnswersRow.holds Try.pinned (OpenSpec.ofChange estimateAnswersSpec)

/-- ITS FALSE NEIGHBOUR: 'it returns false'. Refute it at one input. -/
def estimateAnswersWrong : ChangeSpec := { name := "estimateAnswers", fn := fun _ => fun
  | [d1, d2, d3, d4, d5] => { results := [.lit (.bool false)], args := [d1, d2, d3, d4, d5] }
  | _ => none }
def EstimateAnswersWrongFalsely : Prop := estimateAnswersRow.holds Try.pinned (OpenSpec.ofChange estimateAnswersWrong)

/-- 'landaidlaw26.EstimateCovers': WHATEVER THE INPUT: true; the input reads as it did. -/
def estimateCoversSpec : ChangeSpec := { name := "estimateCovers", fn := fun _ => fun
  | [d1, d2, d3, d4] => { results := [.lit (.bool true)], args := [d1, d2, d3, d4] }
  | _ => none }
def estimateCoversRow : OpenClaim := { program := "ytackhimcndkccaa", sum := "f609c1a720b82d353a942119ea7833f04632cc64db7fd70e943a94220fc744e9", func := "landaid/landaidlaw26.EstimateCovers", spec := "estimateCovers", apart := false }
def EstimateCoversSaid : Prop := estimateCoversRow.holds Try.pinned (OpenSpec.ofChange estimateCoversSpec)

/-- ITS FALSE NEIGHBOUR: 'it returns false'. Refute it at one input. -/
def estimateCoversWrong : ChangeSpec := { name := "estimateCovers", fn := fun _ => fun
  | [d1, d2, d3, d4] => { results := [.lit (.bool false)], args := [d1, d2, d3, d4] }
  | _ => none }
def EstimateCoversWrongFalsely : Prop := estimateCoversRow.holds Try.pinned (OpenSpec.ofChange estimateCoversWrong)

/-- 'landaidlaw26.EstimateRises': WHATEVER THE INPUT: true; the input reads as it did. -/
def estimateRisesSpec : ChangeSpec := { name := "estimateRises", fn := fun _ => fun
  | [d1, d2, d3, d4] => { results := [.lit (.bool true)], args := [d1, d2, d3, d4] }
  | _ => none }
def estimateRisesRow : OpenClaim := { program := "ytackhimcndkccaa", sum := "f609c1a720b82d353a942119ea7833f04632cc64db7fd70e943a94220fc744e9", func := "landaid/landaidlaw26.EstimateRises", spec := "estimateRises", apart := false }
def EstimateRisesSaid : Prop := estimateRisesRow.holds Try.pinned (OpenSpec.ofChange estimateRisesSpec)

/-- ITS FALSE NEIGHBOUR: 'it returns false'. Refute it at one input. -/
def estimateRisesWrong : ChangeSpec := { name := "estimateRises", fn := fun _ => fun
  | [d1, d2, d3, d4] => { results := [.lit (.bool false)], args := [d1, d2, d3, d4] }
  | _ => none }
def EstimateRisesWrongFalsely : Prop := estimateRisesRow.holds Try.pinned (OpenSpec.ofChange estimateRisesWrong)

/-- 'landaidlaw26.EstimateWhole': WHATEVER THE INPUT: true; the input reads as it did. -/
def estimateWholeSpec : ChangeSpec := { name := "estimateWhole", fn := fun _ => fun
  | [d1, d2, d3] => { results := [.lit (.bool true)], args := [d1, d2, d3] }
  | _ => none }
def estimateWholeRow : OpenClaim := { program := "ytackhimcndkccaa", sum := "f609c1a720b82d353a942119ea7833f04632cc64db7fd70e943a94220fc744e9", func := "landaid/landaidlaw26.EstimateWhole", spec := "estimateWhole", apart := false }
def EstimateWholeSaid : Prop := estimateWholeRow.holds Try.pinned (OpenSpec.ofChange estimateWholeSpec)

/-- ITS FALSE NEIGHBOUR: 'it returns false'. Refute it at one input. -/
def estimateWholeWrong : ChangeSpec := { name := "estimateWhole", fn := fun _ => fun
  | [d1, d2, d3] => { results := [.lit (.bool false)], args := [d1, d2, d3] }
  | _ => none }
def EstimateWholeWrongFalsely : Prop := estimateWholeRow.holds Try.pinned (OpenSpec.ofChange estimateWholeWrong)

/-- 'landaidlaw26.EstimatePascal': WHATEVER THE INPUT: true; the input reads as it did. -/
def estimatePascalSpec : ChangeSpec := { name := "estimatePascal", fn := fun _ => fun
  | [d1, d2] => { results := [.lit (.bool true)], args := [d1, d2] }
  | _ => none }
def estimatePascalRow : OpenClaim := { program := "ytackhimcndkccaa", sum := "f609c1a720b82d353a942119ea7833f04632cc64db7fd70e943a94220fc744e9", func := "landaid/landaidlaw26.EstimatePascal", spec := "estimatePascal", apart := false }
def EstimatePascalSaid : Prop := estimatePascalRow.holds Try.pinned (OpenSpec.ofChange estimatePascalSpec)

/-- ITS FALSE NEIGHBOUR: 'it returns false'. Refute it at one input. -/
def estimatePascalWrong : ChangeSpec := { name := "estimatePascal", fn := fun _ => fun
  | [d1, d2] => { results := [.lit (.bool false)], args := [d1, d2] }
  | _ => none }
def EstimatePascalWrongFalsely : Prop := estimatePascalRow.holds Try.pinned (OpenSpec.ofChange estimatePascalWrong)

/-- 'landaidlaw26.EstimateEdges': WHATEVER THE INPUT: true; the input reads as it did. -/
def estimateEdgesSpec : ChangeSpec := { name := "estimateEdges", fn := fun _ => fun
  | [d1, d2, d3, d4] => { results := [.lit (.bool true)], args := [d1, d2, d3, d4] }
  | _ => none }
def estimateEdgesRow : OpenClaim := { program := "ytackhimcndkccaa", sum := "f609c1a720b82d353a942119ea7833f04632cc64db7fd70e943a94220fc744e9", func := "landaid/landaidlaw26.EstimateEdges", spec := "estimateEdges", apart := false }
def EstimateEdgesSaid : Prop := estimateEdgesRow.holds Try.pinned (OpenSpec.ofChange estimateEdgesSpec)

/-- ITS FALSE NEIGHBOUR: 'it returns false'. Refute it at one input. -/
def estimateEdgesWrong : ChangeSpec := { name := "estimateEdges", fn := fun _ => fun
  | [d1, d2, d3, d4] => { results := [.lit (.bool false)], args := [d1, d2, d3, d4] }
  | _ => none }
def EstimateEdgesWrongFalsely : Prop := estimateEdgesRow.holds Try.pinned (OpenSpec.ofChange estimateEdgesWrong)

/- THE SECOND FORM. 'bulk': how many values and letters a reading holds, each counted each time it is reached (what is shared counts as often as it is met; a slice's spare places count too). A statement '..UptoSaid' is the law's where the arguments, and the package variables that the reading takes, are together of bulk at most 1048576: NARROWER than '..Said'. Prove '..Said' where nothing that the law and all that it calls make is longer than what came in: it says more and counts as full. Else prove '..UptoSaid'. A law counts once. -/
mutual
def uptoBulk {H : Type} : DataW H → Nat
  | .lit (.string bytes) => bytes.length + 1
  | .lit _ => 1
  | .nil => 1
  | .ptr d => uptoBulk d + 1
  | .slice elems spare => uptoBulkAll elems + uptoBulkAll spare + 1
  | .agg parts => uptoBulkAll parts + 1
  | .iface _ d => uptoBulk d + 1
  | .map entries => uptoBulkEntries entries + 1
  | .held _ => 1
def uptoBulkAll {H : Type} : List (DataW H) → Nat
  | [] => 0
  | d :: r => uptoBulk d + uptoBulkAll r
def uptoBulkEntries {H : Type} : List (Lit × DataW H) → Nat
  | [] => 0
  | x :: r => uptoBulkEntry x + uptoBulkEntries r
def uptoBulkEntry {H : Type} : Lit × DataW H → Nat
  | (.string bytes, d) => bytes.length + uptoBulk d + 1
  | (_, d) => uptoBulk d + 1
 end
def uptoSmall : (H : Type) → List (DataW H) → Bool := fun _ ds => decide (uptoBulkAll ds ≤ 1048576)
def OpenSpec.upto (s : _root_.Go.ChangeSpec) : _root_.Go.OpenSpec := { _root_.Go.OpenSpec.ofChange s with cond := some uptoSmall }

/-- 'landaidlaw26.EstimateAnswers', WHERE WHAT IT READS IS OF BULK AT MOST 1048576: true; the input reads as it did. -/
def estimateAnswersUptoRow : OpenClaim := { program := "ytackhimcndkccaa", sum := "f609c1a720b82d353a942119ea7833f04632cc64db7fd70e943a94220fc744e9", func := "landaid/landaidlaw26.EstimateAnswers", spec := "estimateAnswers", apart := false, narrowed := true }
def EstimateAnswersUptoSaid : Prop := estimateAnswersUptoRow.holds Try.pinned (OpenSpec.upto estimateAnswersSpec)

/-- 'landaidlaw26.EstimateCovers', WHERE WHAT IT READS IS OF BULK AT MOST 1048576: true; the input reads as it did. -/
def estimateCoversUptoRow : OpenClaim := { program := "ytackhimcndkccaa", sum := "f609c1a720b82d353a942119ea7833f04632cc64db7fd70e943a94220fc744e9", func := "landaid/landaidlaw26.EstimateCovers", spec := "estimateCovers", apart := false, narrowed := true }
def EstimateCoversUptoSaid : Prop := estimateCoversUptoRow.holds Try.pinned (OpenSpec.upto estimateCoversSpec)

/-- 'landaidlaw26.EstimateRises', WHERE WHAT IT READS IS OF BULK AT MOST 1048576: true; the input reads as it did. -/
def estimateRisesUptoRow : OpenClaim := { program := "ytackhimcndkccaa", sum := "f609c1a720b82d353a942119ea7833f04632cc64db7fd70e943a94220fc744e9", func := "landaid/landaidlaw26.EstimateRises", spec := "estimateRises", apart := false, narrowed := true }
def EstimateRisesUptoSaid : Prop := estimateRisesUptoRow.holds Try.pinned (OpenSpec.upto estimateRisesSpec)

/-- 'landaidlaw26.EstimateWhole', WHERE WHAT IT READS IS OF BULK AT MOST 1048576: true; the input reads as it did. -/
def estimateWholeUptoRow : OpenClaim := { program := "ytackhimcndkccaa", sum := "f609c1a720b82d353a942119ea7833f04632cc64db7fd70e943a94220fc744e9", func := "landaid/landaidlaw26.EstimateWhole", spec := "estimateWhole", apart := false, narrowed := true }
def EstimateWholeUptoSaid : Prop := estimateWholeUptoRow.holds Try.pinned (OpenSpec.upto estimateWholeSpec)

/-- 'landaidlaw26.EstimatePascal', WHERE WHAT IT READS IS OF BULK AT MOST 1048576: true; the input reads as it did. -/
def estimatePascalUptoRow : OpenClaim := { program := "ytackhimcndkccaa", sum := "f609c1a720b82d353a942119ea7833f04632cc64db7fd70e943a94220fc744e9", func := "landaid/landaidlaw26.EstimatePascal", spec := "estimatePascal", apart := false, narrowed := true }
def EstimatePascalUptoSaid : Prop := estimatePascalUptoRow.holds Try.pinned (OpenSpec.upto estimatePascalSpec)

/-- 'landaidlaw26.EstimateEdges', WHERE WHAT IT READS IS OF BULK AT MOST 1048576: true; the input reads as it did. -/
def estimateEdgesUptoRow : OpenClaim := { program := "ytackhimcndkccaa", sum := "f609c1a720b82d353a942119ea7833f04632cc64db7fd70e943a94220fc744e9", func := "landaid/landaidlaw26.EstimateEdges", spec := "estimateEdges", apart := false, narrowed := true }
def EstimateEdgesUptoSaid : Prop := estimateEdgesUptoRow.holds Try.pinned (OpenSpec.upto estimateEdgesSpec)

end Rows
end Go.Proofs.Ytackhimcndkccaa
