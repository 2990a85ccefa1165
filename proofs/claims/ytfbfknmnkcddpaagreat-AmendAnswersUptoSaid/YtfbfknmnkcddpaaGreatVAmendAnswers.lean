/-
  'AmendAnswers' returns true for every input of bulk at most 1048576, and leaves its input as it was.
-/
import Derived.Test.YtfbfknmnkcddpaaGreatRows
import Derived.Test.YtfbfknmnkcddpaaGreatVLiftAmendAnswers
import Derived.WalkKit
import Derived.ProofKit
import Derived.OpenShut
import Derived.ShutString
import Derived.ChangeOld
import Derived.Below
import Derived.JoinedCond
namespace Go.Proofs.YtfbfknmnkcddpaaGreat.amendAnswers
open Go.ChangeShapes Go.WideShapes Go.ChangeAt Go.RowKit
open Go.ChangeMaps (open_string shut_string)
open RE
set_option linter.unusedVariables false

theorem over : Rows.amendAnswersUptoRow.holds Tryz.pinned (Rows.OpenSpec.upto Rows.amendAnswersSpec) :=
  OpenClaim.holds_of_cond 5 Tryz.f5 rfl rfl rfl rfl rfl rfl rfl ⟨rfl, rfl, rfl, rfl, rfl⟩ rfl rfl rfl rfl rfl (by kernel_rfl) Tryz.func5 (by kernel_rfl)
    (of_decide_eq_true (by kernel_rfl)) (by unfold Func.isWrapper; first | (rw [if_pos (by decide +kernel)]; kernel_rfl) | (rw [if_neg (by decide +kernel)]; exact ⟨rfl, rfl⟩))
    (fun os started H enc _ F => lifted os started H enc F)

theorem proved : Rows.AmendAnswersUptoSaid := over
#print axioms proved
end Go.Proofs.YtfbfknmnkcddpaaGreat.amendAnswers
