/-
  No cell of these rows narrows 'for every input' (looked for: loops, veiled, ifaces, maps, wideKeys, modest, calm, conditions, laid).
  DERIVED. THE GIVEN ROWS OF THIS SEAT. 3 by the template 'for every input the law returns true; each argument reads behind the call as it read before'; 0 by the template 'total and deterministic' (their statements: YtmmekdkllccmdabTotals.lean).
  GIVEN WITH THE SEED: the statements are not yours to turn. If you find one false, say at which input.
  Laid BY PROGRAM, IN A SANDBOX (cutbox-rows.mjs): the forced cells as the released guide's own fill.sh prints them over the translation bc2f9425213e899d… (all of the seat's roots in one cut). By AI agents, Wed Nov 11 2026. No macro, syntax, notation, axiom, sorry.
-/
import Derived.Test.YtmmekdkllccmdabChecked
import GoSem.Claim
import GoSem.ClaimJoined
import GoSem.ClaimMapViews
import Derived.JoinedTies
import Derived.KernelRfl
namespace Go.Proofs.Ytmmekdkllccmdab
/- THE CELL 'sum', in the pinned program and in every row, IS THE sha256 OF THE DUMP (.gsa) THAT YtmmekdkllccmdabProg.lean LOADS. Nothing in Lean hashes anything: it is a label: what it is worth is what the hold of that sum in a sandbox is worth. -/
noncomputable def Try.pinned : Pinned := { name := "ytmmekdkllccmdab", sum := "bc2f9425213e899d6966f5e65373ab2f6e54207e3e37033992134e15a5665fde", checked := Try.checked }
namespace Rows
def none {H : Type} : Left H := { results := [], args := [] }

/-- 'landaidlaw27.VisitLater': WHATEVER THE INPUT: true; the input reads as it did. -/
def visitLaterSpec : ChangeSpec := { name := "visitLater", fn := fun _ => fun
  | [d] => { results := [.lit (.bool true)], args := [d] }
  | _ => none }
def visitLaterRow : OpenClaim := { program := "ytmmekdkllccmdab", sum := "bc2f9425213e899d6966f5e65373ab2f6e54207e3e37033992134e15a5665fde", func := "landaid/landaidlaw27.VisitLater", spec := "visitLater", unfollowed := true, recurses := true, apart := false }
def VisitLaterSaid : Prop := visitLaterRow.holds Try.pinned (OpenSpec.ofChange visitLaterSpec)

/-- ITS FALSE NEIGHBOUR: 'it returns false'. Refute it at one input. -/
def visitLaterWrong : ChangeSpec := { name := "visitLater", fn := fun _ => fun
  | [d] => { results := [.lit (.bool false)], args := [d] }
  | _ => none }
def VisitLaterWrongFalsely : Prop := visitLaterRow.holds Try.pinned (OpenSpec.ofChange visitLaterWrong)

/-- 'landaidlaw27.VisitLines': WHATEVER THE INPUT: true; the input reads as it did. -/
def visitLinesSpec : ChangeSpec := { name := "visitLines", fn := fun _ => fun
  | [d] => { results := [.lit (.bool true)], args := [d] }
  | _ => none }
def visitLinesRow : OpenClaim := { program := "ytmmekdkllccmdab", sum := "bc2f9425213e899d6966f5e65373ab2f6e54207e3e37033992134e15a5665fde", func := "landaid/landaidlaw27.VisitLines", spec := "visitLines", unfollowed := true, recurses := true, apart := false }
def VisitLinesSaid : Prop := visitLinesRow.holds Try.pinned (OpenSpec.ofChange visitLinesSpec)

/-- ITS FALSE NEIGHBOUR: 'it returns false'. Refute it at one input. -/
def visitLinesWrong : ChangeSpec := { name := "visitLines", fn := fun _ => fun
  | [d] => { results := [.lit (.bool false)], args := [d] }
  | _ => none }
def VisitLinesWrongFalsely : Prop := visitLinesRow.holds Try.pinned (OpenSpec.ofChange visitLinesWrong)

/-- 'landaidlaw27.VisitFarms': WHATEVER THE INPUT: true; the input reads as it did. -/
def visitFarmsSpec : ChangeSpec := { name := "visitFarms", fn := fun _ => fun
  | [d] => { results := [.lit (.bool true)], args := [d] }
  | _ => none }
def visitFarmsRow : OpenClaim := { program := "ytmmekdkllccmdab", sum := "bc2f9425213e899d6966f5e65373ab2f6e54207e3e37033992134e15a5665fde", func := "landaid/landaidlaw27.VisitFarms", spec := "visitFarms", unfollowed := true, recurses := true, apart := false }
def VisitFarmsSaid : Prop := visitFarmsRow.holds Try.pinned (OpenSpec.ofChange visitFarmsSpec)

/-- ITS FALSE NEIGHBOUR: 'it returns false'. Refute it at one input. -/
def visitFarmsWrong : ChangeSpec := { name := "visitFarms", fn := fun _ => fun
  | [d] => { results := [.lit (.bool false)], args := [d] }
  | _ => none }
def VisitFarmsWrongFalsely : Prop := visitFarmsRow.holds Try.pinned (OpenSpec.ofChange visitFarmsWrong)

/- THE SECOND FORM. 'bulk': how many values and letters a reading holds, each counted each time it is reached (what is shared counts as often as it is met; a slice's spare places count too). A statement '..UptoSaid' is the law's where the arguments, and the package variables that the reading takes, are together of bulk at most 1048576: NARROWER than '..Said'. Prove '..Said' where nothing that the law and all that it calls make is longer than what came in: it says more and counts as full. Else prove '..UptoSaid'. A law counts once. -/
mutual
def uptoBulk {H : Type} : DataW H → Nat
  | .lit (.string bytes) => bytes.length + 1
  | .lit _ => 1
  | .nil => 1
  | .ptr d => uptoBulk d + 1
  | .slice elems spare => uptoBulkAll elems + uptoBulkAll spare + 1
  | .agg parts => uptoBulkAll parts + 1
  | .iface _ d => uptoBulk d + 1
  | .map entries => uptoBulkEntries entries + 1
  | .held _ => 1
def uptoBulkAll {H : Type} : List (DataW H) → Nat
  | [] => 0
  | d :: r => uptoBulk d + uptoBulkAll r
def uptoBulkEntries {H : Type} : List (Lit × DataW H) → Nat
  | [] => 0
  | x :: r => uptoBulkEntry x + uptoBulkEntries r
def uptoBulkEntry {H : Type} : Lit × DataW H → Nat
  | (.string bytes, d) => bytes.length + uptoBulk d + 1
  | (_, d) => uptoBulk d + 1
 end
def uptoSmall : (H : Type) → List (DataW H) → Bool := fun _ ds => decide (uptoBulkAll ds ≤ 1048576)
def OpenSpec.upto (s : _root_.Go.ChangeSpec) : _root_.Go.OpenSpec := { _root_.Go.OpenSpec.ofChange s with cond := some uptoSmall }

/-- 'landaidlaw27.VisitLater', WHERE WHAT IT READS IS OF BULK AT MOST 1048576: true; the input reads as it did. -/
def visitLaterUptoRow : OpenClaim := { program := "ytmmekdkllccmdab", sum := "bc2f9425213e899d6966f5e65373ab2f6e54207e3e37033992134e15a5665fde", func := "landaid/landaidlaw27.VisitLater", spec := "visitLater", unfollowed := true, recurses := true, apart := false, narrowed := true }
def VisitLaterUptoSaid : Prop := visitLaterUptoRow.holds Try.pinned (OpenSpec.upto visitLaterSpec)

/-- 'landaidlaw27.VisitLines', WHERE WHAT IT READS IS OF BULK AT MOST 1048576: true; the input reads as it did. -/
def visitLinesUptoRow : OpenClaim := { program := "ytmmekdkllccmdab", sum := "bc2f9425213e899d6966f5e65373ab2f6e54207e3e37033992134e15a5665fde", func := "landaid/landaidlaw27.VisitLines", spec := "visitLines", unfollowed := true, recurses := true, apart := false, narrowed := true }
def VisitLinesUptoSaid : Prop := visitLinesUptoRow.holds Try.pinned (OpenSpec.upto visitLinesSpec)

/-- 'landaidlaw27.VisitFarms', WHERE WHAT IT READS IS OF BULK AT MOST 1048576: true; the input reads as it did. -/
def visitFarmsUptoRow : OpenClaim := { program := "ytmmekdkllccmdab", sum := "bc2f9425213e899d6966f5e65373ab2f6e54207e3e37033992134e15a5665fde", func := "landaid/landaidlaw27.VisitFarms", spec := "visitFarms", unfollowed := true, recurses := true, apart := false, narrowed := true }
def VisitFarmsUptoSaid : Prop := visitFarmsUptoRow.holds Try.pinned (OpenSpec.upto visitFarmsSpec)

end Rows
end Go.Proofs.Ytmmekdkllccmdab
