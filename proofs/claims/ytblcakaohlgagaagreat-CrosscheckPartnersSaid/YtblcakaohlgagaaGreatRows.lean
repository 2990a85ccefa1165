/-
  No cell of these rows narrows 'for every input' (looked for: loops, veiled, ifaces, maps, wideKeys, modest, calm, conditions, laid).
  DERIVED. THE GIVEN ROWS OF THIS SEAT. 7 by the template 'for every input the law returns true; each argument reads behind the call as it read before'; 0 by the template 'total and deterministic' (their statements: YtblcakaohlgagaaGreatTotals.lean).
  GIVEN WITH THE SEED: the statements are not yours to turn. If you find one false, say at which input.
  Laid BY PROGRAM, IN A SANDBOX (cutbox-rows.mjs): the forced cells as the released guide's own fill.sh prints them over the translation 54881d21784a1754… (all of the seat's roots in one cut). By AI agents, Wed Nov 11 2026. No macro, syntax, notation, axiom, sorry.
-/
import Derived.Test.YtblcakaohlgagaaGreatChecked
import GoSem.Claim
import GoSem.ClaimJoined
import GoSem.ClaimMapViews
import Derived.JoinedTies
import Derived.KernelRfl
namespace Go.Proofs.YtblcakaohlgagaaGreat
/- THE CELL 'sum', in the pinned program and in every row, IS THE sha256 OF THE DUMP (.gsa) THAT YtblcakaohlgagaaGreatProg.lean LOADS. Nothing in Lean hashes anything: it is a label: what it is worth is what the hold of that sum in a sandbox is worth. -/
noncomputable def Tryz.pinned : Pinned := { name := "ytblcakaohlgagaagreat", sum := "54881d21784a17542d0655962cd2a2f2731ee4eb3df18fc2e3a60d5f703bce42", checked := Tryz.checked }
namespace Rows
def none {H : Type} : Left H := { results := [], args := [] }

/-- 'landaidlaw22.CrosscheckOnce': WHATEVER THE INPUT: true; the input reads as it did. -/
def crosscheckOnceSpec : ChangeSpec := { name := "crosscheckOnce", fn := fun _ => fun
  | [d] => { results := [.lit (.bool true)], args := [d] }
  | _ => none }
def crosscheckOnceRow : OpenClaim := { program := "ytblcakaohlgagaagreat", sum := "54881d21784a17542d0655962cd2a2f2731ee4eb3df18fc2e3a60d5f703bce42", func := "landaid/landaidlaw22.CrosscheckOnce", spec := "crosscheckOnce", unfollowed := true, recurses := true, apart := false }
def CrosscheckOnceSaid : Prop := crosscheckOnceRow.holds Tryz.pinned (OpenSpec.ofChange crosscheckOnceSpec)

/-- ITS FALSE NEIGHBOUR: 'it returns false'. Refute it at one input. -/
def crosscheckOnceWrong : ChangeSpec := { name := "crosscheckOnce", fn := fun _ => fun
  | [d] => { results := [.lit (.bool false)], args := [d] }
  | _ => none }
def CrosscheckOnceWrongFalsely : Prop := crosscheckOnceRow.holds Tryz.pinned (OpenSpec.ofChange crosscheckOnceWrong)

/-- 'landaidlaw22.CrosscheckAlone': WHATEVER THE INPUT: true; the input reads as it did. -/
def crosscheckAloneSpec : ChangeSpec := { name := "crosscheckAlone", fn := fun _ => fun
  | [d] => { results := [.lit (.bool true)], args := [d] }
  | _ => none }
def crosscheckAloneRow : OpenClaim := { program := "ytblcakaohlgagaagreat", sum := "54881d21784a17542d0655962cd2a2f2731ee4eb3df18fc2e3a60d5f703bce42", func := "landaid/landaidlaw22.CrosscheckAlone", spec := "crosscheckAlone", unfollowed := true, recurses := true, apart := false }
def CrosscheckAloneSaid : Prop := crosscheckAloneRow.holds Tryz.pinned (OpenSpec.ofChange crosscheckAloneSpec)

/-- ITS FALSE NEIGHBOUR: 'it returns false'. Refute it at one input. -/
def crosscheckAloneWrong : ChangeSpec := { name := "crosscheckAlone", fn := fun _ => fun
  | [d] => { results := [.lit (.bool false)], args := [d] }
  | _ => none }
def CrosscheckAloneWrongFalsely : Prop := crosscheckAloneRow.holds Tryz.pinned (OpenSpec.ofChange crosscheckAloneWrong)

/-- 'landaidlaw22.CrosscheckTurns': WHATEVER THE INPUT: true; the input reads as it did. -/
def crosscheckTurnsSpec : ChangeSpec := { name := "crosscheckTurns", fn := fun _ => fun
  | [d] => { results := [.lit (.bool true)], args := [d] }
  | _ => none }
def crosscheckTurnsRow : OpenClaim := { program := "ytblcakaohlgagaagreat", sum := "54881d21784a17542d0655962cd2a2f2731ee4eb3df18fc2e3a60d5f703bce42", func := "landaid/landaidlaw22.CrosscheckTurns", spec := "crosscheckTurns", unfollowed := true, recurses := true, apart := false }
def CrosscheckTurnsSaid : Prop := crosscheckTurnsRow.holds Tryz.pinned (OpenSpec.ofChange crosscheckTurnsSpec)

/-- ITS FALSE NEIGHBOUR: 'it returns false'. Refute it at one input. -/
def crosscheckTurnsWrong : ChangeSpec := { name := "crosscheckTurns", fn := fun _ => fun
  | [d] => { results := [.lit (.bool false)], args := [d] }
  | _ => none }
def CrosscheckTurnsWrongFalsely : Prop := crosscheckTurnsRow.holds Tryz.pinned (OpenSpec.ofChange crosscheckTurnsWrong)

/-- 'landaidlaw22.CrosscheckGives': WHATEVER THE INPUT: true; the input reads as it did. -/
def crosscheckGivesSpec : ChangeSpec := { name := "crosscheckGives", fn := fun _ => fun
  | [d1, d2, d3] => { results := [.lit (.bool true)], args := [d1, d2, d3] }
  | _ => none }
def crosscheckGivesRow : OpenClaim := { program := "ytblcakaohlgagaagreat", sum := "54881d21784a17542d0655962cd2a2f2731ee4eb3df18fc2e3a60d5f703bce42", func := "landaid/landaidlaw22.CrosscheckGives", spec := "crosscheckGives", unfollowed := true, recurses := true, apart := false }
def CrosscheckGivesSaid : Prop := crosscheckGivesRow.holds Tryz.pinned (OpenSpec.ofChange crosscheckGivesSpec)

/-- ITS FALSE NEIGHBOUR: 'it returns false'. Refute it at one input. -/
def crosscheckGivesWrong : ChangeSpec := { name := "crosscheckGives", fn := fun _ => fun
  | [d1, d2, d3] => { results := [.lit (.bool false)], args := [d1, d2, d3] }
  | _ => none }
def CrosscheckGivesWrongFalsely : Prop := crosscheckGivesRow.holds Tryz.pinned (OpenSpec.ofChange crosscheckGivesWrong)

/-- 'landaidlaw22.CrosscheckMore': WHATEVER THE INPUT: true; the input reads as it did. -/
def crosscheckMoreSpec : ChangeSpec := { name := "crosscheckMore", fn := fun _ => fun
  | [d] => { results := [.lit (.bool true)], args := [d] }
  | _ => none }
def crosscheckMoreRow : OpenClaim := { program := "ytblcakaohlgagaagreat", sum := "54881d21784a17542d0655962cd2a2f2731ee4eb3df18fc2e3a60d5f703bce42", func := "landaid/landaidlaw22.CrosscheckMore", spec := "crosscheckMore", unfollowed := true, recurses := true, apart := false }
def CrosscheckMoreSaid : Prop := crosscheckMoreRow.holds Tryz.pinned (OpenSpec.ofChange crosscheckMoreSpec)

/-- ITS FALSE NEIGHBOUR: 'it returns false'. Refute it at one input. -/
def crosscheckMoreWrong : ChangeSpec := { name := "crosscheckMore", fn := fun _ => fun
  | [d] => { results := [.lit (.bool false)], args := [d] }
  | _ => none }
def CrosscheckMoreWrongFalsely : Prop := crosscheckMoreRow.holds Tryz.pinned (OpenSpec.ofChange crosscheckMoreWrong)

/-- 'landaidlaw22.CrosscheckAnswers': WHATEVER THE INPUT: true; the input reads as it did. -/
def crosscheckAnswersSpec : ChangeSpec := { name := "crosscheckAnswers", fn := fun _ => fun
  | [d1, d2, d3, d4, d5] => { results := [.lit (.bool true)], args := [d1, d2, d3, d4, d5] }
  | _ => none }
def crosscheckAnswersRow : OpenClaim := { program := "ytblcakaohlgagaagreat", sum := "54881d21784a17542d0655962cd2a2f2731ee4eb3df18fc2e3a60d5f703bce42", func := "landaid/landaidlaw22.CrosscheckAnswers", spec := "crosscheckAnswers", unfollowed := true, recurses := true, apart := false }
def CrosscheckAnswersSaid : Prop := crosscheckAnswersRow.holds Tryz.pinned (OpenSpec.ofChange crosscheckAnswersSpec)

/-- ITS FALSE NEIGHBOUR: 'it returns false'. Refute it at one input. -/
def crosscheckAnswersWrong : ChangeSpec := { name := "crosscheckAnswers", fn := fun _ => fun
  | [d1, d2, d3, d4, d5] => { results := [.lit (.bool false)], args := [d1, d2, d3, d4, d5] }
  | _ => none }
def CrosscheckAnswersWrongFalsely : Prop := crosscheckAnswersRow.holds Tryz.pinned (OpenSpec.ofChange crosscheckAnswersWrong)

/-- 'landaidlaw22.CrosscheckPartners': WHATEVER THE INPUT: true; the input reads as it did. -/
def crosscheckPartnersSpec : ChangeSpec := { name := "crosscheckPartners", fn := fun _ => fun
  | [d] => { results := [.lit (.bool true)], args := [d] }
  | _ => none }
def crosscheckPartnersRow : OpenClaim := { program := "ytblcakaohlgagaagreat", sum := "54881d21784a17542d0655962cd2a2f2731ee4eb3df18fc2e3a60d5f703bce42", func := "landaid/landaidlaw22.CrosscheckPartners", spec := "crosscheckPartners", unfollowed := true, recurses := true, apart := false }
def CrosscheckPartnersSaid : Prop := crosscheckPartnersRow.holds Tryz.pinned (OpenSpec.ofChange crosscheckPartnersSpec)

/-- ITS FALSE NEIGHBOUR: 'it returns false'. Refute it at one input. -/
def crosscheckPartnersWrong : ChangeSpec := { name := "crosscheckPartners", fn := fun _ => fun
  | [d] => { results := [.lit (.bool false)], args := [d] }
  | _ => none }
def CrosscheckPartnersWrongFalsely : Prop := crosscheckPartnersRow.holds Tryz.pinned (OpenSpec.ofChange crosscheckPartnersWrong)

/- THE SECOND FORM. 'bulk': how many values and letters a reading holds, each counted each time it is reached (what is shared counts as often as it is met; a slice's spare places count too). A statement '..UptoSaid' is the law's where the arguments, and the package variables that the reading takes, are together of bulk at most 1048576: NARROWER than '..Said'. Prove '..Said' where nothing that the law and all that it calls make is longer than what came in: it says more and counts as full. Else prove '..UptoSaid'. A law counts once. -/
mutual
def uptoBulk {H : Type} : DataW H → Nat
  | .lit (.string bytes) => bytes.length + 1
  | .lit _ => 1
  | .nil => 1
  | .ptr d => uptoBulk d + 1
  | .slice elems spare => uptoBulkAll elems + uptoBulkAll spare + 1
  | .agg parts => uptoBulkAll parts + 1
  | .iface _ d => uptoBulk d + 1
  | .map entries => uptoBulkEntries entries + 1
  | .held _ => 1
def uptoBulkAll {H : Type} : List (DataW H) → Nat
  | [] => 0
  | d :: r => uptoBulk d + uptoBulkAll r
def uptoBulkEntries {H : Type} : List (Lit × DataW H) → Nat
  | [] => 0
  | x :: r => uptoBulkEntry x + uptoBulkEntries r
def uptoBulkEntry {H : Type} : Lit × DataW H → Nat
  | (.string bytes, d) => bytes.length + uptoBulk d + 1
  | (_, d) => uptoBulk d + 1
 end
def uptoSmall : (H : Type) → List (DataW H) → Bool := fun _ ds => decide (uptoBulkAll ds ≤ 1048576)
def OpenSpec.upto (s : _root_.Go.ChangeSpec) : _root_.Go.OpenSpec := { _root_.Go.OpenSpec.ofChange s with cond := some uptoSmall }

/-- 'landaidlaw22.CrosscheckOnce', WHERE WHAT IT READS IS OF BULK AT MOST 1048576: true; the input reads as it did. -/
def crosscheckOnceUptoRow : OpenClaim := { program := "ytblcakaohlgagaagreat", sum := "54881d21784a17542d0655962cd2a2f2731ee4eb3df18fc2e3a60d5f703bce42", func := "landaid/landaidlaw22.CrosscheckOnce", spec := "crosscheckOnce", unfollowed := true, recurses := true, apart := false, narrowed := true }
def CrosscheckOnceUptoSaid : Prop := crosscheckOnceUptoRow.holds Tryz.pinned (OpenSpec.upto crosscheckOnceSpec)

/-- 'landaidlaw22.CrosscheckAlone', WHERE WHAT IT READS IS OF BULK AT MOST 1048576: true; the input reads as it did. -/
def crosscheckAloneUptoRow : OpenClaim := { program := "ytblcakaohlgagaagreat", sum := "54881d21784a17542d0655962cd2a2f2731ee4eb3df18fc2e3a60d5f703bce42", func := "landaid/landaidlaw22.CrosscheckAlone", spec := "crosscheckAlone", unfollowed := true, recurses := true, apart := false, narrowed := true }
def CrosscheckAloneUptoSaid : Prop := crosscheckAloneUptoRow.holds Tryz.pinned (OpenSpec.upto crosscheckAloneSpec)

/-- 'landaidlaw22.CrosscheckTurns', WHERE WHAT IT READS IS OF BULK AT MOST 1048576: true; the input reads as it did. -/
def crosscheckTurnsUptoRow : OpenClaim := { program := "ytblcakaohlgagaagreat", sum := "54881d21784a17542d0655962cd2a2f2731ee4eb3df18fc2e3a60d5f703bce42", func := "landaid/landaidlaw22.CrosscheckTurns", spec := "crosscheckTurns", unfollowed := true, recurses := true, apart := false, narrowed := true }
def CrosscheckTurnsUptoSaid : Prop := crosscheckTurnsUptoRow.holds Tryz.pinned (OpenSpec.upto crosscheckTurnsSpec)

/-- 'landaidlaw22.CrosscheckGives', WHERE WHAT IT READS IS OF BULK AT MOST 1048576: true; the input reads as it did. -/
def crosscheckGivesUptoRow : OpenClaim := { program := "ytblcakaohlgagaagreat", sum := "54881d21784a17542d0655962cd2a2f2731ee4eb3df18fc2e3a60d5f703bce42", func := "landaid/landaidlaw22.CrosscheckGives", spec := "crosscheckGives", unfollowed := true, recurses := true, apart := false, narrowed := true }
def CrosscheckGivesUptoSaid : Prop := crosscheckGivesUptoRow.holds Tryz.pinned (OpenSpec.upto crosscheckGivesSpec)

/-- 'landaidlaw22.CrosscheckMore', WHERE WHAT IT READS IS OF BULK AT MOST 1048576: true; the input reads as it did. -/
def crosscheckMoreUptoRow : OpenClaim := { program := "ytblcakaohlgagaagreat", sum := "54881d21784a17542d0655962cd2a2f2731ee4eb3df18fc2e3a60d5f703bce42", func := "landaid/landaidlaw22.CrosscheckMore", spec := "crosscheckMore", unfollowed := true, recurses := true, apart := false, narrowed := true }
def CrosscheckMoreUptoSaid : Prop := crosscheckMoreUptoRow.holds Tryz.pinned (OpenSpec.upto crosscheckMoreSpec)

/-- 'landaidlaw22.CrosscheckAnswers', WHERE WHAT IT READS IS OF BULK AT MOST 1048576: true; the input reads as it did. -/
def crosscheckAnswersUptoRow : OpenClaim := { program := "ytblcakaohlgagaagreat", sum := "54881d21784a17542d0655962cd2a2f2731ee4eb3df18fc2e3a60d5f703bce42", func := "landaid/landaidlaw22.CrosscheckAnswers", spec := "crosscheckAnswers", unfollowed := true, recurses := true, apart := false, narrowed := true }
def CrosscheckAnswersUptoSaid : Prop := crosscheckAnswersUptoRow.holds Tryz.pinned (OpenSpec.upto crosscheckAnswersSpec)

/-- 'landaidlaw22.CrosscheckPartners', WHERE WHAT IT READS IS OF BULK AT MOST 1048576: true; the input reads as it did. -/
def crosscheckPartnersUptoRow : OpenClaim := { program := "ytblcakaohlgagaagreat", sum := "54881d21784a17542d0655962cd2a2f2731ee4eb3df18fc2e3a60d5f703bce42", func := "landaid/landaidlaw22.CrosscheckPartners", spec := "crosscheckPartners", unfollowed := true, recurses := true, apart := false, narrowed := true }
def CrosscheckPartnersUptoSaid : Prop := crosscheckPartnersUptoRow.holds Tryz.pinned (OpenSpec.upto crosscheckPartnersSpec)

end Rows
end Go.Proofs.YtblcakaohlgagaaGreat
