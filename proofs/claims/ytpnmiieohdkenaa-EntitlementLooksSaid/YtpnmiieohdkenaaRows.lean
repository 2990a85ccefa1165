/-
  No cell of these rows narrows 'for every input' (looked for: loops, veiled, ifaces, maps, wideKeys, modest, calm, conditions, laid).
  DERIVED. THE GIVEN ROWS OF THIS SEAT. 8 by the template 'for every input the law returns true; each argument reads behind the call as it read before'; 0 by the template 'total and deterministic' (their statements: YtpnmiieohdkenaaTotals.lean).
  GIVEN WITH THE SEED: the statements are not yours to turn. If you find one false, say at which input.
  Laid BY PROGRAM, IN A SANDBOX (cutbox-rows.mjs): the forced cells as the released guide's own fill.sh prints them over the translation 3eb8cf667468153a… (all of the seat's roots in one cut). By AI agents, Wed Nov 11 2026. No macro, syntax, notation, axiom, sorry.
-/
import Derived.Test.YtpnmiieohdkenaaChecked
import GoSem.Claim
import GoSem.ClaimJoined
import GoSem.ClaimMapViews
import Derived.JoinedTies
import Derived.KernelRfl
namespace Go.Proofs.Ytpnmiieohdkenaa
/- THE CELL 'sum', in the pinned program and in every row, IS THE sha256 OF THE DUMP (.gsa) THAT YtpnmiieohdkenaaProg.lean LOADS. Nothing in Lean hashes anything: it is a label: what it is worth is what the hold of that sum in a sandbox is worth. -/
noncomputable def Try.pinned : Pinned := { name := "ytpnmiieohdkenaa", sum := "3eb8cf667468153ac2df60b781f5e911132e40b4b6289d901c9a376261020094", checked := Try.checked }
namespace Rows
def none {H : Type} : Left H := { results := [], args := [] }

/-- 'landaidlaw21.EntitlementSteps': WHATEVER THE INPUT: true; the input reads as it did. -/
def entitlementStepsSpec : ChangeSpec := { name := "entitlementSteps", fn := fun _ => fun
  | [d1, d2, d3, d4, d5] => { results := [.lit (.bool true)], args := [d1, d2, d3, d4, d5] }
  | _ => none }
def entitlementStepsRow : OpenClaim := { program := "ytpnmiieohdkenaa", sum := "3eb8cf667468153ac2df60b781f5e911132e40b4b6289d901c9a376261020094", func := "landaid/landaidlaw21.EntitlementSteps", spec := "entitlementSteps", unfollowed := true, recurses := true, apart := false }
def EntitlementStepsSaid : Prop := entitlementStepsRow.holds Try.pinned (OpenSpec.ofChange entitlementStepsSpec)

/-- ITS FALSE NEIGHBOUR: 'it returns false'. Refute it at one input. -/
def entitlementStepsWrong : ChangeSpec := { name := "entitlementSteps", fn := fun _ => fun
  | [d1, d2, d3, d4, d5] => { results := [.lit (.bool false)], args := [d1, d2, d3, d4, d5] }
  | _ => none }
def EntitlementStepsWrongFalsely : Prop := entitlementStepsRow.holds Try.pinned (OpenSpec.ofChange entitlementStepsWrong)

/-- 'landaidlaw21.EntitlementWhole': WHATEVER THE INPUT: true; the input reads as it did. -/
def entitlementWholeSpec : ChangeSpec := { name := "entitlementWhole", fn := fun _ => fun
  | [d] => { results := [.lit (.bool true)], args := [d] }
  | _ => none }
def entitlementWholeRow : OpenClaim := { program := "ytpnmiieohdkenaa", sum := "3eb8cf667468153ac2df60b781f5e911132e40b4b6289d901c9a376261020094", func := "landaid/landaidlaw21.EntitlementWhole", spec := "entitlementWhole", unfollowed := true, recurses := true, apart := false }
def EntitlementWholeSaid : Prop := entitlementWholeRow.holds Try.pinned (OpenSpec.ofChange entitlementWholeSpec)

/-- ITS FALSE NEIGHBOUR: 'it returns false'. Refute it at one input. -/
def entitlementWholeWrong : ChangeSpec := { name := "entitlementWhole", fn := fun _ => fun
  | [d] => { results := [.lit (.bool false)], args := [d] }
  | _ => none }
def EntitlementWholeWrongFalsely : Prop := entitlementWholeRow.holds Try.pinned (OpenSpec.ofChange entitlementWholeWrong)

/-- 'landaidlaw21.EntitlementLeases': WHATEVER THE INPUT: true; the input reads as it did. -/
def entitlementLeasesSpec : ChangeSpec := { name := "entitlementLeases", fn := fun _ => fun
  | [d1, d2, d3, d4] => { results := [.lit (.bool true)], args := [d1, d2, d3, d4] }
  | _ => none }
def entitlementLeasesRow : OpenClaim := { program := "ytpnmiieohdkenaa", sum := "3eb8cf667468153ac2df60b781f5e911132e40b4b6289d901c9a376261020094", func := "landaid/landaidlaw21.EntitlementLeases", spec := "entitlementLeases", unfollowed := true, recurses := true, apart := false }
def EntitlementLeasesSaid : Prop := entitlementLeasesRow.holds Try.pinned (OpenSpec.ofChange entitlementLeasesSpec)

/-- ITS FALSE NEIGHBOUR: 'it returns false'. Refute it at one input. -/
def entitlementLeasesWrong : ChangeSpec := { name := "entitlementLeases", fn := fun _ => fun
  | [d1, d2, d3, d4] => { results := [.lit (.bool false)], args := [d1, d2, d3, d4] }
  | _ => none }
def EntitlementLeasesWrongFalsely : Prop := entitlementLeasesRow.holds Try.pinned (OpenSpec.ofChange entitlementLeasesWrong)

/-- 'landaidlaw21.EntitlementSells': WHATEVER THE INPUT: true; the input reads as it did. -/
def entitlementSellsSpec : ChangeSpec := { name := "entitlementSells", fn := fun _ => fun
  | [d1, d2, d3, d4, d5] => { results := [.lit (.bool true)], args := [d1, d2, d3, d4, d5] }
  | _ => none }
def entitlementSellsRow : OpenClaim := { program := "ytpnmiieohdkenaa", sum := "3eb8cf667468153ac2df60b781f5e911132e40b4b6289d901c9a376261020094", func := "landaid/landaidlaw21.EntitlementSells", spec := "entitlementSells", unfollowed := true, recurses := true, apart := false }
def EntitlementSellsSaid : Prop := entitlementSellsRow.holds Try.pinned (OpenSpec.ofChange entitlementSellsSpec)

/-- ITS FALSE NEIGHBOUR: 'it returns false'. Refute it at one input. -/
def entitlementSellsWrong : ChangeSpec := { name := "entitlementSells", fn := fun _ => fun
  | [d1, d2, d3, d4, d5] => { results := [.lit (.bool false)], args := [d1, d2, d3, d4, d5] }
  | _ => none }
def EntitlementSellsWrongFalsely : Prop := entitlementSellsRow.holds Try.pinned (OpenSpec.ofChange entitlementSellsWrong)

/-- 'landaidlaw21.EntitlementInherits': WHATEVER THE INPUT: true; the input reads as it did. -/
def entitlementInheritsSpec : ChangeSpec := { name := "entitlementInherits", fn := fun _ => fun
  | [d1, d2, d3] => { results := [.lit (.bool true)], args := [d1, d2, d3] }
  | _ => none }
def entitlementInheritsRow : OpenClaim := { program := "ytpnmiieohdkenaa", sum := "3eb8cf667468153ac2df60b781f5e911132e40b4b6289d901c9a376261020094", func := "landaid/landaidlaw21.EntitlementInherits", spec := "entitlementInherits", unfollowed := true, recurses := true, apart := false }
def EntitlementInheritsSaid : Prop := entitlementInheritsRow.holds Try.pinned (OpenSpec.ofChange entitlementInheritsSpec)

/-- ITS FALSE NEIGHBOUR: 'it returns false'. Refute it at one input. -/
def entitlementInheritsWrong : ChangeSpec := { name := "entitlementInherits", fn := fun _ => fun
  | [d1, d2, d3] => { results := [.lit (.bool false)], args := [d1, d2, d3] }
  | _ => none }
def EntitlementInheritsWrongFalsely : Prop := entitlementInheritsRow.holds Try.pinned (OpenSpec.ofChange entitlementInheritsWrong)

/-- 'landaidlaw21.EntitlementGives': WHATEVER THE INPUT: true; the input reads as it did. -/
def entitlementGivesSpec : ChangeSpec := { name := "entitlementGives", fn := fun _ => fun
  | [d1, d2, d3] => { results := [.lit (.bool true)], args := [d1, d2, d3] }
  | _ => none }
def entitlementGivesRow : OpenClaim := { program := "ytpnmiieohdkenaa", sum := "3eb8cf667468153ac2df60b781f5e911132e40b4b6289d901c9a376261020094", func := "landaid/landaidlaw21.EntitlementGives", spec := "entitlementGives", unfollowed := true, recurses := true, apart := false }
def EntitlementGivesSaid : Prop := entitlementGivesRow.holds Try.pinned (OpenSpec.ofChange entitlementGivesSpec)

/-- ITS FALSE NEIGHBOUR: 'it returns false'. Refute it at one input. -/
def entitlementGivesWrong : ChangeSpec := { name := "entitlementGives", fn := fun _ => fun
  | [d1, d2, d3] => { results := [.lit (.bool false)], args := [d1, d2, d3] }
  | _ => none }
def EntitlementGivesWrongFalsely : Prop := entitlementGivesRow.holds Try.pinned (OpenSpec.ofChange entitlementGivesWrong)

/-- 'landaidlaw21.EntitlementUses': WHATEVER THE INPUT: true; the input reads as it did. -/
def entitlementUsesSpec : ChangeSpec := { name := "entitlementUses", fn := fun _ => fun
  | [d1, d2, d3] => { results := [.lit (.bool true)], args := [d1, d2, d3] }
  | _ => none }
def entitlementUsesRow : OpenClaim := { program := "ytpnmiieohdkenaa", sum := "3eb8cf667468153ac2df60b781f5e911132e40b4b6289d901c9a376261020094", func := "landaid/landaidlaw21.EntitlementUses", spec := "entitlementUses", unfollowed := true, recurses := true, apart := false }
def EntitlementUsesSaid : Prop := entitlementUsesRow.holds Try.pinned (OpenSpec.ofChange entitlementUsesSpec)

/-- ITS FALSE NEIGHBOUR: 'it returns false'. Refute it at one input. -/
def entitlementUsesWrong : ChangeSpec := { name := "entitlementUses", fn := fun _ => fun
  | [d1, d2, d3] => { results := [.lit (.bool false)], args := [d1, d2, d3] }
  | _ => none }
def EntitlementUsesWrongFalsely : Prop := entitlementUsesRow.holds Try.pinned (OpenSpec.ofChange entitlementUsesWrong)

/-- 'landaidlaw21.EntitlementLooks': WHATEVER THE INPUT: true; the input reads as it did. -/
def entitlementLooksSpec : ChangeSpec := { name := "entitlementLooks", fn := fun _ => fun
  | [d1, d2, d3, d4, d5] => { results := [.lit (.bool true)], args := [d1, d2, d3, d4, d5] }
  | _ => none }
def entitlementLooksRow : OpenClaim := { program := "ytpnmiieohdkenaa", sum := "3eb8cf667468153ac2df60b781f5e911132e40b4b6289d901c9a376261020094", func := "landaid/landaidlaw21.EntitlementLooks", spec := "entitlementLooks", unfollowed := true, recurses := true, apart := false }
def EntitlementLooksSaid : Prop := entitlementLooksRow.holds Try.pinned (OpenSpec.ofChange entitlementLooksSpec)

/-- ITS FALSE NEIGHBOUR: 'it returns false'. Refute it at one input. -/
def entitlementLooksWrong : ChangeSpec := { name := "entitlementLooks", fn := fun _ => fun
  | [d1, d2, d3, d4, d5] => { results := [.lit (.bool false)], args := [d1, d2, d3, d4, d5] }
  | _ => none }
def EntitlementLooksWrongFalsely : Prop := entitlementLooksRow.holds Try.pinned (OpenSpec.ofChange entitlementLooksWrong)

/- THE SECOND FORM. 'bulk': how many values and letters a reading holds, each counted each time it is reached (what is shared counts as often as it is met; a slice's spare places count too). A statement '..UptoSaid' is the law's where the arguments, and the package variables that the reading takes, are together of bulk at most 1048576: NARROWER than '..Said'. Prove '..Said' where nothing that the law and all that it calls make is longer than what came in: it says more and counts as full. Else prove '..UptoSaid'. A law counts once. -/
mutual
def uptoBulk {H : Type} : DataW H → Nat
  | .lit (.string bytes) => bytes.length + 1
  | .lit _ => 1
  | .nil => 1
  | .ptr d => uptoBulk d + 1
  | .slice elems spare => uptoBulkAll elems + uptoBulkAll spare + 1
  | .agg parts => uptoBulkAll parts + 1
  | .iface _ d => uptoBulk d + 1
  | .map entries => uptoBulkEntries entries + 1
  | .held _ => 1
def uptoBulkAll {H : Type} : List (DataW H) → Nat
  | [] => 0
  | d :: r => uptoBulk d + uptoBulkAll r
def uptoBulkEntries {H : Type} : List (Lit × DataW H) → Nat
  | [] => 0
  | x :: r => uptoBulkEntry x + uptoBulkEntries r
def uptoBulkEntry {H : Type} : Lit × DataW H → Nat
  | (.string bytes, d) => bytes.length + uptoBulk d + 1
  | (_, d) => uptoBulk d + 1
 end
def uptoSmall : (H : Type) → List (DataW H) → Bool := fun _ ds => decide (uptoBulkAll ds ≤ 1048576)
def OpenSpec.upto (s : _root_.Go.ChangeSpec) : _root_.Go.OpenSpec := { _root_.Go.OpenSpec.ofChange s with cond := some uptoSmall }

/-- 'landaidlaw21.EntitlementSteps', WHERE WHAT IT READS IS OF BULK AT MOST 1048576: true; the input reads as it did. -/
def entitlementStepsUptoRow : OpenClaim := { program := "ytpnmiieohdkenaa", sum := "3eb8cf667468153ac2df60b781f5e911132e40b4b6289d901c9a376261020094", func := "landaid/landaidlaw21.EntitlementSteps", spec := "entitlementSteps", unfollowed := true, recurses := true, apart := false, narrowed := true }
def EntitlementStepsUptoSaid : Prop := entitlementStepsUptoRow.holds Try.pinned (OpenSpec.upto entitlementStepsSpec)

/-- 'landaidlaw21.EntitlementWhole', WHERE WHAT IT READS IS OF BULK AT MOST 1048576: true; the input reads as it did. -/
def entitlementWholeUptoRow : OpenClaim := { program := "ytpnmiieohdkenaa", sum := "3eb8cf667468153ac2df60b781f5e911132e40b4b6289d901c9a376261020094", func := "landaid/landaidlaw21.EntitlementWhole", spec := "entitlementWhole", unfollowed := true, recurses := true, apart := false, narrowed := true }
def EntitlementWholeUptoSaid : Prop := entitlementWholeUptoRow.holds Try.pinned (OpenSpec.upto entitlementWholeSpec)

/-- 'landaidlaw21.EntitlementLeases', WHERE WHAT IT READS IS OF BULK AT MOST 1048576: true; the input reads as it did. -/
def entitlementLeasesUptoRow : OpenClaim := { program := "ytpnmiieohdkenaa", sum := "3eb8cf667468153ac2df60b781f5e911132e40b4b6289d901c9a376261020094", func := "landaid/landaidlaw21.EntitlementLeases", spec := "entitlementLeases", unfollowed := true, recurses := true, apart := false, narrowed := true }
def EntitlementLeasesUptoSaid : Prop := entitlementLeasesUptoRow.holds Try.pinned (OpenSpec.upto entitlementLeasesSpec)

/-- 'landaidlaw21.EntitlementSells', WHERE WHAT IT READS IS OF BULK AT MOST 1048576: true; the input reads as it did. -/
def entitlementSellsUptoRow : OpenClaim := { program := "ytpnmiieohdkenaa", sum := "3eb8cf667468153ac2df60b781f5e911132e40b4b6289d901c9a376261020094", func := "landaid/landaidlaw21.EntitlementSells", spec := "entitlementSells", unfollowed := true, recurses := true, apart := false, narrowed := true }
def EntitlementSellsUptoSaid : Prop := entitlementSellsUptoRow.holds Try.pinned (OpenSpec.upto entitlementSellsSpec)

/-- 'landaidlaw21.EntitlementInherits', WHERE WHAT IT READS IS OF BULK AT MOST 1048576: true; the input reads as it did. -/
def entitlementInheritsUptoRow : OpenClaim := { program := "ytpnmiieohdkenaa", sum := "3eb8cf667468153ac2df60b781f5e911132e40b4b6289d901c9a376261020094", func := "landaid/landaidlaw21.EntitlementInherits", spec := "entitlementInherits", unfollowed := true, recurses := true, apart := false, narrowed := true }
def EntitlementInheritsUptoSaid : Prop := entitlementInheritsUptoRow.holds Try.pinned (OpenSpec.upto entitlementInheritsSpec)

/-- 'landaidlaw21.EntitlementGives', WHERE WHAT IT READS IS OF BULK AT MOST 1048576: true; the input reads as it did. -/
def entitlementGivesUptoRow : OpenClaim := { program := "ytpnmiieohdkenaa", sum := "3eb8cf667468153ac2df60b781f5e911132e40b4b6289d901c9a376261020094", func := "landaid/landaidlaw21.EntitlementGives", spec := "entitlementGives", unfollowed := true, recurses := true, apart := false, narrowed := true }
def EntitlementGivesUptoSaid : Prop := entitlementGivesUptoRow.holds Try.pinned (OpenSpec.upto entitlementGivesSpec)

/-- 'landaidlaw21.EntitlementUses', WHERE WHAT IT READS IS OF BULK AT MOST 1048576: true; the input reads as it did. -/
def entitlementUsesUptoRow : OpenClaim := { program := "ytpnmiieohdkenaa", sum := "3eb8cf667468153ac2df60b781f5e911132e40b4b6289d901c9a376261020094", func := "landaid/landaidlaw21.EntitlementUses", spec := "entitlementUses", unfollowed := true, recurses := true, apart := false, narrowed := true }
def EntitlementUsesUptoSaid : Prop := entitlementUsesUptoRow.holds Try.pinned (OpenSpec.upto entitlementUsesSpec)

/-- 'landaidlaw21.EntitlementLooks', WHERE WHAT IT READS IS OF BULK AT MOST 1048576: true; the input reads as it did. -/
def entitlementLooksUptoRow : OpenClaim := { program := "ytpnmiieohdkenaa", sum := "3eb8cf667468153ac2df60b781f5e911132e40b4b6289d901c9a376261020094", func := "landaid/landaidlaw21.EntitlementLooks", spec := "entitlementLooks", unfollowed := true, recurses := true, apart := false, narrowed := true }
def EntitlementLooksUptoSaid : Prop := entitlementLooksUptoRow.holds Try.pinned (OpenSpec.upto entitlementLooksSpec)

end Rows
end Go.Proofs.Ytpnmiieohdkenaa
