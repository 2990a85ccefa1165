/-
  No cell of these rows narrows 'for every input' (looked for: loops, veiled, ifaces, maps, wideKeys, modest, calm, conditions, laid).
  DERIVED. THE GIVEN ROWS OF THIS SEAT. 9 by the template 'for every input the law returns true; each argument reads behind the call as it read before'; 0 by the template 'total and deterministic' (their statements: YtjkcjfgdablklaaGreatTotals.lean).
  GIVEN WITH THE SEED: the statements are not yours to turn. If you find one false, say at which input.
  Laid BY PROGRAM, IN A SANDBOX (cutbox-rows.mjs): the forced cells as the released guide's own fill.sh prints them over the translation 1e588281a9bdbaaf… (all of the seat's roots in one cut). By AI agents, Wed Nov 11 2026. No macro, syntax, notation, axiom, sorry.
-/
import Derived.Test.YtjkcjfgdablklaaGreatChecked
import GoSem.Claim
import GoSem.ClaimJoined
import GoSem.ClaimMapViews
import Derived.JoinedTies
import Derived.KernelRfl
namespace Go.Proofs.YtjkcjfgdablklaaGreat
/- THE CELL 'sum', in the pinned program and in every row, IS THE sha256 OF THE DUMP (.gsa) THAT YtjkcjfgdablklaaGreatProg.lean LOADS. Nothing in Lean hashes anything: it is a label: what it is worth is what the hold of that sum in a sandbox is worth. -/
noncomputable def Tryz.pinned : Pinned := { name := "ytjkcjfgdablklaagreat", sum := "1e588281a9bdbaafc71b60f6e656b6ef5bf3ab96014db525ff8d2d7889fbbdf7", checked := Tryz.checked }
namespace Rows
def none {H : Type} : Left H := { results := [], args := [] }

/-- 'landaidlaw14.ApplicationLess': WHATEVER THE INPUT: true; the input reads as it did. -/
def applicationLessSpec : ChangeSpec := { name := "applicationLess", fn := fun _ => fun
  | [d] => { results := [.lit (.bool true)], args := [d] }
  | _ => none }
def applicationLessRow : OpenClaim := { program := "ytjkcjfgdablklaagreat", sum := "1e588281a9bdbaafc71b60f6e656b6ef5bf3ab96014db525ff8d2d7889fbbdf7", func := "landaid/landaidlaw14.ApplicationLess", spec := "applicationLess", unfollowed := true, recurses := true, apart := false }
def ApplicationLessSaid : Prop := applicationLessRow.holds Tryz.pinned (OpenSpec.ofChange applicationLessSpec)

/-- ITS FALSE NEIGHBOUR: 'it returns false'. Refute it at one input. -/
def applicationLessWrong : ChangeSpec := { name := "applicationLess", fn := fun _ => fun
  | [d] => { results := [.lit (.bool false)], args := [d] }
  | _ => none }
def ApplicationLessWrongFalsely : Prop := applicationLessRow.holds Tryz.pinned (OpenSpec.ofChange applicationLessWrong)

/-- 'landaidlaw14.ApplicationOrder': WHATEVER THE INPUT: true; the input reads as it did. -/
def applicationOrderSpec : ChangeSpec := { name := "applicationOrder", fn := fun _ => fun
  | [d] => { results := [.lit (.bool true)], args := [d] }
  | _ => none }
def applicationOrderRow : OpenClaim := { program := "ytjkcjfgdablklaagreat", sum := "1e588281a9bdbaafc71b60f6e656b6ef5bf3ab96014db525ff8d2d7889fbbdf7", func := "landaid/landaidlaw14.ApplicationOrder", spec := "applicationOrder", unfollowed := true, recurses := true, apart := false }
def ApplicationOrderSaid : Prop := applicationOrderRow.holds Tryz.pinned (OpenSpec.ofChange applicationOrderSpec)

/-- ITS FALSE NEIGHBOUR: 'it returns false'. Refute it at one input. -/
def applicationOrderWrong : ChangeSpec := { name := "applicationOrder", fn := fun _ => fun
  | [d] => { results := [.lit (.bool false)], args := [d] }
  | _ => none }
def ApplicationOrderWrongFalsely : Prop := applicationOrderRow.holds Tryz.pinned (OpenSpec.ofChange applicationOrderWrong)

/-- 'landaidlaw14.ApplicationForce': WHATEVER THE INPUT: true; the input reads as it did. -/
def applicationForceSpec : ChangeSpec := { name := "applicationForce", fn := fun _ => fun
  | [d1, d2] => { results := [.lit (.bool true)], args := [d1, d2] }
  | _ => none }
def applicationForceRow : OpenClaim := { program := "ytjkcjfgdablklaagreat", sum := "1e588281a9bdbaafc71b60f6e656b6ef5bf3ab96014db525ff8d2d7889fbbdf7", func := "landaid/landaidlaw14.ApplicationForce", spec := "applicationForce", unfollowed := true, recurses := true, apart := false }
def ApplicationForceSaid : Prop := applicationForceRow.holds Tryz.pinned (OpenSpec.ofChange applicationForceSpec)

/-- ITS FALSE NEIGHBOUR: 'it returns false'. Refute it at one input. -/
def applicationForceWrong : ChangeSpec := { name := "applicationForce", fn := fun _ => fun
  | [d1, d2] => { results := [.lit (.bool false)], args := [d1, d2] }
  | _ => none }
def ApplicationForceWrongFalsely : Prop := applicationForceRow.holds Tryz.pinned (OpenSpec.ofChange applicationForceWrong)

/-- 'landaidlaw14.ApplicationAnswers': WHATEVER THE INPUT: true; the input reads as it did. -/
def applicationAnswersSpec : ChangeSpec := { name := "applicationAnswers", fn := fun _ => fun
  | [d1, d2, d3, d4, d5, d6, d7] => { results := [.lit (.bool true)], args := [d1, d2, d3, d4, d5, d6, d7] }
  | _ => none }
def applicationAnswersRow : OpenClaim := { program := "ytjkcjfgdablklaagreat", sum := "1e588281a9bdbaafc71b60f6e656b6ef5bf3ab96014db525ff8d2d7889fbbdf7", func := "landaid/landaidlaw14.ApplicationAnswers", spec := "applicationAnswers", unfollowed := true, recurses := true, apart := false }
def ApplicationAnswersSaid : Prop := applicationAnswersRow.holds Tryz.pinned (OpenSpec.ofChange applicationAnswersSpec)

/-- ITS FALSE NEIGHBOUR: 'it returns false'. Refute it at one input. -/
def applicationAnswersWrong : ChangeSpec := { name := "applicationAnswers", fn := fun _ => fun
  | [d1, d2, d3, d4, d5, d6, d7] => { results := [.lit (.bool false)], args := [d1, d2, d3, d4, d5, d6, d7] }
  | _ => none }
def ApplicationAnswersWrongFalsely : Prop := applicationAnswersRow.holds Tryz.pinned (OpenSpec.ofChange applicationAnswersWrong)

/-- 'landaidlaw36.AmendAnswers': WHATEVER THE INPUT: true; the input reads as it did. -/
def amendAnswersSpec : ChangeSpec := { name := "amendAnswers", fn := fun _ => fun
  | [d1, d2, d3, d4, d5, d6, d7] => { results := [.lit (.bool true)], args := [d1, d2, d3, d4, d5, d6, d7] }
  | _ => none }
def amendAnswersRow : OpenClaim := { program := "ytjkcjfgdablklaagreat", sum := "1e588281a9bdbaafc71b60f6e656b6ef5bf3ab96014db525ff8d2d7889fbbdf7", func := "landaid/landaidlaw36.AmendAnswers", spec := "amendAnswers", unfollowed := true, recurses := true, apart := false }
def AmendAnswersSaid : Prop := amendAnswersRow.holds Tryz.pinned (OpenSpec.ofChange amendAnswersSpec)

/-- ITS FALSE NEIGHBOUR: 'it returns false'. Refute it at one input. -/
def amendAnswersWrong : ChangeSpec := { name := "amendAnswers", fn := fun _ => fun
  | [d1, d2, d3, d4, d5, d6, d7] => { results := [.lit (.bool false)], args := [d1, d2, d3, d4, d5, d6, d7] }
  | _ => none }
def AmendAnswersWrongFalsely : Prop := amendAnswersRow.holds Tryz.pinned (OpenSpec.ofChange amendAnswersWrong)

/-- 'landaidlaw36.AmendLocks': WHATEVER THE INPUT: true; the input reads as it did. -/
def amendLocksSpec : ChangeSpec := { name := "amendLocks", fn := fun _ => fun
  | [d] => { results := [.lit (.bool true)], args := [d] }
  | _ => none }
def amendLocksRow : OpenClaim := { program := "ytjkcjfgdablklaagreat", sum := "1e588281a9bdbaafc71b60f6e656b6ef5bf3ab96014db525ff8d2d7889fbbdf7", func := "landaid/landaidlaw36.AmendLocks", spec := "amendLocks", unfollowed := true, recurses := true, apart := false }
def AmendLocksSaid : Prop := amendLocksRow.holds Tryz.pinned (OpenSpec.ofChange amendLocksSpec)

/-- ITS FALSE NEIGHBOUR: 'it returns false'. Refute it at one input. -/
def amendLocksWrong : ChangeSpec := { name := "amendLocks", fn := fun _ => fun
  | [d] => { results := [.lit (.bool false)], args := [d] }
  | _ => none }
def AmendLocksWrongFalsely : Prop := amendLocksRow.holds Tryz.pinned (OpenSpec.ofChange amendLocksWrong)

/-- 'landaidlaw36.AmendFree': WHATEVER THE INPUT: true; the input reads as it did. -/
def amendFreeSpec : ChangeSpec := { name := "amendFree", fn := fun _ => fun
  | [d] => { results := [.lit (.bool true)], args := [d] }
  | _ => none }
def amendFreeRow : OpenClaim := { program := "ytjkcjfgdablklaagreat", sum := "1e588281a9bdbaafc71b60f6e656b6ef5bf3ab96014db525ff8d2d7889fbbdf7", func := "landaid/landaidlaw36.AmendFree", spec := "amendFree", unfollowed := true, recurses := true, apart := false }
def AmendFreeSaid : Prop := amendFreeRow.holds Tryz.pinned (OpenSpec.ofChange amendFreeSpec)

/-- ITS FALSE NEIGHBOUR: 'it returns false'. Refute it at one input. -/
def amendFreeWrong : ChangeSpec := { name := "amendFree", fn := fun _ => fun
  | [d] => { results := [.lit (.bool false)], args := [d] }
  | _ => none }
def AmendFreeWrongFalsely : Prop := amendFreeRow.holds Tryz.pinned (OpenSpec.ofChange amendFreeWrong)

/-- 'landaidlaw36.AmendWithdraws': WHATEVER THE INPUT: true; the input reads as it did. -/
def amendWithdrawsSpec : ChangeSpec := { name := "amendWithdraws", fn := fun _ => fun
  | [d] => { results := [.lit (.bool true)], args := [d] }
  | _ => none }
def amendWithdrawsRow : OpenClaim := { program := "ytjkcjfgdablklaagreat", sum := "1e588281a9bdbaafc71b60f6e656b6ef5bf3ab96014db525ff8d2d7889fbbdf7", func := "landaid/landaidlaw36.AmendWithdraws", spec := "amendWithdraws", unfollowed := true, recurses := true, apart := false }
def AmendWithdrawsSaid : Prop := amendWithdrawsRow.holds Tryz.pinned (OpenSpec.ofChange amendWithdrawsSpec)

/-- ITS FALSE NEIGHBOUR: 'it returns false'. Refute it at one input. -/
def amendWithdrawsWrong : ChangeSpec := { name := "amendWithdraws", fn := fun _ => fun
  | [d] => { results := [.lit (.bool false)], args := [d] }
  | _ => none }
def AmendWithdrawsWrongFalsely : Prop := amendWithdrawsRow.holds Tryz.pinned (OpenSpec.ofChange amendWithdrawsWrong)

/-- 'landaidlaw36.AmendOrder': WHATEVER THE INPUT: true; the input reads as it did. -/
def amendOrderSpec : ChangeSpec := { name := "amendOrder", fn := fun _ => fun
  | [d1, d2] => { results := [.lit (.bool true)], args := [d1, d2] }
  | _ => none }
def amendOrderRow : OpenClaim := { program := "ytjkcjfgdablklaagreat", sum := "1e588281a9bdbaafc71b60f6e656b6ef5bf3ab96014db525ff8d2d7889fbbdf7", func := "landaid/landaidlaw36.AmendOrder", spec := "amendOrder", unfollowed := true, recurses := true, apart := false }
def AmendOrderSaid : Prop := amendOrderRow.holds Tryz.pinned (OpenSpec.ofChange amendOrderSpec)

/-- ITS FALSE NEIGHBOUR: 'it returns false'. Refute it at one input. -/
def amendOrderWrong : ChangeSpec := { name := "amendOrder", fn := fun _ => fun
  | [d1, d2] => { results := [.lit (.bool false)], args := [d1, d2] }
  | _ => none }
def AmendOrderWrongFalsely : Prop := amendOrderRow.holds Tryz.pinned (OpenSpec.ofChange amendOrderWrong)

/- THE SECOND FORM. 'bulk': how many values and letters a reading holds, each counted each time it is reached (what is shared counts as often as it is met; a slice's spare places count too). A statement '..UptoSaid' is the law's where the arguments, and the package variables that the reading takes, are together of bulk at most 1048576: NARROWER than '..Said'. Prove '..Said' where nothing that the law and all that it calls make is longer than what came in: it says more and counts as full. Else prove '..UptoSaid'. A law counts once. -/
mutual
def uptoBulk {H : Type} : DataW H → Nat
  | .lit (.string bytes) => bytes.length + 1
  | .lit _ => 1
  | .nil => 1
  | .ptr d => uptoBulk d + 1
  | .slice elems spare => uptoBulkAll elems + uptoBulkAll spare + 1
  | .agg parts => uptoBulkAll parts + 1
  | .iface _ d => uptoBulk d + 1
  | .map entries => uptoBulkEntries entries + 1
  | .held _ => 1
def uptoBulkAll {H : Type} : List (DataW H) → Nat
  | [] => 0
  | d :: r => uptoBulk d + uptoBulkAll r
def uptoBulkEntries {H : Type} : List (Lit × DataW H) → Nat
  | [] => 0
  | x :: r => uptoBulkEntry x + uptoBulkEntries r
def uptoBulkEntry {H : Type} : Lit × DataW H → Nat
  | (.string bytes, d) => bytes.length + uptoBulk d + 1
  | (_, d) => uptoBulk d + 1
 end
def uptoSmall : (H : Type) → List (DataW H) → Bool := fun _ ds => decide (uptoBulkAll ds ≤ 1048576)
def OpenSpec.upto (s : _root_.Go.ChangeSpec) : _root_.Go.OpenSpec := { _root_.Go.OpenSpec.ofChange s with cond := some uptoSmall }

/-- 'landaidlaw14.ApplicationLess', WHERE WHAT IT READS IS OF BULK AT MOST 1048576: true; the input reads as it did. -/
def applicationLessUptoRow : OpenClaim := { program := "ytjkcjfgdablklaagreat", sum := "1e588281a9bdbaafc71b60f6e656b6ef5bf3ab96014db525ff8d2d7889fbbdf7", func := "landaid/landaidlaw14.ApplicationLess", spec := "applicationLess", unfollowed := true, recurses := true, apart := false, narrowed := true }
def ApplicationLessUptoSaid : Prop := applicationLessUptoRow.holds Tryz.pinned (OpenSpec.upto applicationLessSpec)

/-- 'landaidlaw14.ApplicationOrder', WHERE WHAT IT READS IS OF BULK AT MOST 1048576: true; the input reads as it did. -/
def applicationOrderUptoRow : OpenClaim := { program := "ytjkcjfgdablklaagreat", sum := "1e588281a9bdbaafc71b60f6e656b6ef5bf3ab96014db525ff8d2d7889fbbdf7", func := "landaid/landaidlaw14.ApplicationOrder", spec := "applicationOrder", unfollowed := true, recurses := true, apart := false, narrowed := true }
def ApplicationOrderUptoSaid : Prop := applicationOrderUptoRow.holds Tryz.pinned (OpenSpec.upto applicationOrderSpec)

/-- 'landaidlaw14.ApplicationForce', WHERE WHAT IT READS IS OF BULK AT MOST 1048576: true; the input reads as it did. -/
def applicationForceUptoRow : OpenClaim := { program := "ytjkcjfgdablklaagreat", sum := "1e588281a9bdbaafc71b60f6e656b6ef5bf3ab96014db525ff8d2d7889fbbdf7", func := "landaid/landaidlaw14.ApplicationForce", spec := "applicationForce", unfollowed := true, recurses := true, apart := false, narrowed := true }
def ApplicationForceUptoSaid : Prop := applicationForceUptoRow.holds Tryz.pinned (OpenSpec.upto applicationForceSpec)

/-- 'landaidlaw14.ApplicationAnswers', WHERE WHAT IT READS IS OF BULK AT MOST 1048576: true; the input reads as it did. -/
def applicationAnswersUptoRow : OpenClaim := { program := "ytjkcjfgdablklaagreat", sum := "1e588281a9bdbaafc71b60f6e656b6ef5bf3ab96014db525ff8d2d7889fbbdf7", func := "landaid/landaidlaw14.ApplicationAnswers", spec := "applicationAnswers", unfollowed := true, recurses := true, apart := false, narrowed := true }
def ApplicationAnswersUptoSaid : Prop := applicationAnswersUptoRow.holds Tryz.pinned (OpenSpec.upto applicationAnswersSpec)

/-- 'landaidlaw36.AmendAnswers', WHERE WHAT IT READS IS OF BULK AT MOST 1048576: true; the input reads as it did. -/
def amendAnswersUptoRow : OpenClaim := { program := "ytjkcjfgdablklaagreat", sum := "1e588281a9bdbaafc71b60f6e656b6ef5bf3ab96014db525ff8d2d7889fbbdf7", func := "landaid/landaidlaw36.AmendAnswers", spec := "amendAnswers", unfollowed := true, recurses := true, apart := false, narrowed := true }
def AmendAnswersUptoSaid : Prop := amendAnswersUptoRow.holds Tryz.pinned (OpenSpec.upto amendAnswersSpec)

/-- 'landaidlaw36.AmendLocks', WHERE WHAT IT READS IS OF BULK AT MOST 1048576: true; the input reads as it did. -/
def amendLocksUptoRow : OpenClaim := { program := "ytjkcjfgdablklaagreat", sum := "1e588281a9bdbaafc71b60f6e656b6ef5bf3ab96014db525ff8d2d7889fbbdf7", func := "landaid/landaidlaw36.AmendLocks", spec := "amendLocks", unfollowed := true, recurses := true, apart := false, narrowed := true }
def AmendLocksUptoSaid : Prop := amendLocksUptoRow.holds Tryz.pinned (OpenSpec.upto amendLocksSpec)

/-- 'landaidlaw36.AmendFree', WHERE WHAT IT READS IS OF BULK AT MOST 1048576: true; the input reads as it did. -/
def amendFreeUptoRow : OpenClaim := { program := "ytjkcjfgdablklaagreat", sum := "1e588281a9bdbaafc71b60f6e656b6ef5bf3ab96014db525ff8d2d7889fbbdf7", func := "landaid/landaidlaw36.AmendFree", spec := "amendFree", unfollowed := true, recurses := true, apart := false, narrowed := true }
def AmendFreeUptoSaid : Prop := amendFreeUptoRow.holds Tryz.pinned (OpenSpec.upto amendFreeSpec)

/-- 'landaidlaw36.AmendWithdraws', WHERE WHAT IT READS IS OF BULK AT MOST 1048576: true; the input reads as it did. -/
def amendWithdrawsUptoRow : OpenClaim := { program := "ytjkcjfgdablklaagreat", sum := "1e588281a9bdbaafc71b60f6e656b6ef5bf3ab96014db525ff8d2d7889fbbdf7", func := "landaid/landaidlaw36.AmendWithdraws", spec := "amendWithdraws", unfollowed := true, recurses := true, apart := false, narrowed := true }
def AmendWithdrawsUptoSaid : Prop := amendWithdrawsUptoRow.holds Tryz.pinned (OpenSpec.upto amendWithdrawsSpec)

/-- 'landaidlaw36.AmendOrder', WHERE WHAT IT READS IS OF BULK AT MOST 1048576: true; the input reads as it did. -/
def amendOrderUptoRow : OpenClaim := { program := "ytjkcjfgdablklaagreat", sum := "1e588281a9bdbaafc71b60f6e656b6ef5bf3ab96014db525ff8d2d7889fbbdf7", func := "landaid/landaidlaw36.AmendOrder", spec := "amendOrder", unfollowed := true, recurses := true, apart := false, narrowed := true }
def AmendOrderUptoSaid : Prop := amendOrderUptoRow.holds Tryz.pinned (OpenSpec.upto amendOrderSpec)

end Rows
end Go.Proofs.YtjkcjfgdablklaaGreat
