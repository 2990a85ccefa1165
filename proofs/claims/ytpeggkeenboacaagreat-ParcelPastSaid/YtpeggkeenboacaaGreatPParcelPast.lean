/-
  'ParcelPast' returns true for every input, and leaves its input as it was. No condition.
-/
import Derived.Test.YtpeggkeenboacaaGreatRows
import Derived.Test.YtpeggkeenboacaaGreatPLiftParcelPast
import Derived.WalkKit
import Derived.ProofKit
import Derived.OpenShut
import Derived.ShutString
import Derived.ChangeOld
import Derived.Below
namespace Go.Proofs.YtpeggkeenboacaaGreat.parcelPast
open Go.ChangeShapes Go.WideShapes Go.ChangeAt Go.RowKit
open Go.ChangeMaps (open_string shut_string)
open RE
set_option linter.unusedVariables false
theorem over:Rows.parcelPastRow.holds Tryz.pinned (OpenSpec.ofChange Rows.parcelPastSpec):=
 OpenClaim.holds_of_wide 7 Tryz.f7 rfl rfl rfl rfl rfl rfl rfl ⟨rfl,rfl,rfl,rfl,rfl⟩ rfl rfl rfl rfl rfl (by kernel_rfl) Tryz.func7 (by kernel_rfl)
  (of_decide_eq_true (by kernel_rfl)) (by unfold Func.isWrapper;first|(rw[if_pos (by decide+kernel)];kernel_rfl)|(rw[if_neg (by decide+kernel)];exact⟨rfl,rfl⟩))
  (λos started H enc _=>lifted os started H enc)
theorem proved:Rows.ParcelPastSaid:=over
#print axioms proved
end Go.Proofs.YtpeggkeenboacaaGreat.parcelPast
