/-
  'TopAmended' returns true for every input, and leaves its input as it was. No condition.
-/
import Derived.Test.YtjcjdgmojkkioaaGreatDoorTie
import Derived.Test.YtjcjdgmojkkioaaGreatDoorCards
import Derived.SevenTiedAt
import Derived.Test.YtjcjdgmojkkioaaGreatDoorDLiftTopAmended
namespace Go.Proofs.YtjcjdgmojkkioaaGreatDoor.topAmended
open Go.ChangeShapes Go.WideShapes Go.ChangeAt Go.RowKit
open Go.ChangeMaps (open_string shut_string)
open RE
set_option linter.unusedVariables false
theorem cf1:Rows.topAmendedRow.wf (OpenSpec.ofChange Rows.topAmendedSpec)=true:=by kernel_rfl
theorem cf2:(Rows.topAmendedRow.inPlace==Tryz.prog.inPlace 3)=true:=by kernel_rfl
theorem cf3:(Rows.topAmendedRow.unfollowed==Tryz.prog.unfollowed 3)=true:=by kernel_rfl
theorem cf4:(Rows.topAmendedRow.recurses==Tryz.prog.recurses 3)=true:=by kernel_rfl
theorem cf5:(Rows.topAmendedRow.named==Tryz.prog.varsNamed 3)=true:=by kernel_rfl
theorem cf6:(namedTie Tryz.prog Rows.topAmendedRow.named Rows.topAmendedSpec.vars&&mapsRowed Tryz.prog&&Tryz.prog.stopsHeard&&Tryz.prog.mayEnter&&(Rows.topAmendedRow.lifted==Tryz.prog.liftsFinal)&&(Tryz.prog.make==some Rows.topAmendedRow.make)&&(Rows.topAmendedRow.plainKeys==Tryz.prog.plainKeys))=true:=by kernel_rfl
theorem closed:joinedFacts Tryz.prog 3 Tryz.f3 Rows.topAmendedSpec Rows.topAmendedRow=true:=by
 have h6:=cf6
 simp only[Bool.and_eq_true] at h6
 obtain⟨⟨⟨⟨⟨⟨a1,a2⟩,a3⟩,a4⟩,a5⟩,a6⟩,a7⟩:=h6
 unfold joinedFacts
 rw[cf1,cf2,cf3,cf4,cf5,a1,a2,a3,a4,a5,a6,a7]
 refine id (α:=_=true) ?_
 show _=true
 kernel_rfl
theorem over:Rows.topAmendedRow.holds Tryz.pinned (OpenSpec.ofChange Rows.topAmendedSpec):=
 OpenClaim.holds_of_wide 3 Tryz.f3 rfl rfl rfl rfl rfl rfl rfl ⟨rfl,rfl,rfl,rfl,rfl⟩ rfl rfl rfl rfl rfl (by kernel_rfl) Tryz.func3 closed
  (of_decide_eq_true (by kernel_rfl)) (by unfold Func.isWrapper;first|(rw[if_pos (by decide+kernel)];kernel_rfl)|(rw[if_neg (by decide+kernel)];exact⟨rfl,rfl⟩))
  (λos started H enc _=>lifted os started H enc)
theorem proved:Rows.TopAmendedCardSaid:=
 Claim7.holds_tied_plain_at .later [] [.data,.pinned] true (true, "5658e6d52d640674226bc2f7ea28eab9b90ae5afb44dcec79fa42436e0f09961") false over (λ_ h=>by cases h) (by kernel_rfl) (λ_ h=>by cases h) topAmended_row_tie rfl ⟨rfl,rfl⟩ (by kernel_rfl) rfl
  (λf fn hf hfn=>by
   obtain rfl:f=3:=Option.some.inj ((show Tryz.prog.funcNamed "landaid/landaidtop.TopAmended" =some 3 by kernel_rfl).symm.trans hf) |>.symm
   obtain rfl:fn=Tryz.f3:=(Option.some.inj (Tryz.func3.symm.trans hfn)).symm
   exact⟨by kernel_rfl,λj t ht=>by
    rw[Tryz.params3] at ht
    have hm:t∈[22,5]:=by simpa using Array.mem_of_getElem? ht
    have hall:([22,5].all λu=> !Tryz.prog.wantsStandIn u)=true:=by kernel_rfl
    exact (show Tryz.prog.wantsStandIn t=false by simpa using List.all_eq_true.1 hall t hm)⟩)
  (by kernel_rfl)
#print axioms proved
end Go.Proofs.YtjcjdgmojkkioaaGreatDoor.topAmended
