/-
  'CrosscheckAnswers' returns true for every input, and leaves its input as it was. No condition.
-/
import Derived.Test.YtpeggkeenboacaaGreatRows
import Derived.Test.YtpeggkeenboacaaGreatNLiftCrosscheckAnswers
import Derived.WalkKit
import Derived.ProofKit
import Derived.OpenShut
import Derived.ShutString
import Derived.ChangeOld
import Derived.Below
namespace Go.Proofs.YtpeggkeenboacaaGreat.crosscheckAnswers
open Go.ChangeShapes Go.WideShapes Go.ChangeAt Go.RowKit
open Go.ChangeMaps (open_string shut_string)
open RE
set_option linter.unusedVariables false
theorem over:Rows.crosscheckAnswersRow.holds Tryz.pinned (OpenSpec.ofChange Rows.crosscheckAnswersSpec):=
 OpenClaim.holds_of_wide 10 Tryz.f10 rfl rfl rfl rfl rfl rfl rfl ⟨rfl,rfl,rfl,rfl,rfl⟩ rfl rfl rfl rfl rfl (by kernel_rfl) Tryz.func10 (by kernel_rfl)
  (of_decide_eq_true (by kernel_rfl)) (by unfold Func.isWrapper;first|(rw[if_pos (by decide+kernel)];kernel_rfl)|(rw[if_neg (by decide+kernel)];exact⟨rfl,rfl⟩))
  (λos started H enc _=>lifted os started H enc)
theorem proved:Rows.CrosscheckAnswersSaid:=over
#print axioms proved
end Go.Proofs.YtpeggkeenboacaaGreat.crosscheckAnswers
