/-
  The engine: what the tape hands out.
-/
import Derived.Test.YtmmekdkllccmdaaEgT
namespace Go.Proofs.Ytmmekdkllccmdaa
open Go.RowKit
set_option linter.unusedVariables false
namespace Eng
set_option maxRecDepth 100000 in
set_option maxHeartbeats 4000000 in
theorem range_c (lo hi : Int) (h1 : -1099511627776 ≤ lo) (h2 : lo ≤ 1099511627776) (h3 : -1099511627776 ≤ hi) (h4 : hi ≤ 1099511627776) : ACalls Try.prog 33 true true [.tp, .d (iD lo), .d (iD hi)] (fun r => ∃ z : Int, r = iD z ∧ lo ≤ z ∧ (z ≤ hi ∨ z = lo)) := by
  refine ACalls.of Try.func33 rfl rfl rfl rfl rfl fun w0 S0 T => ?_
  refine AC.seq ?_
  refine AC.region ?_
  first | refine AO.pure (PureOp.assignD (SLe.eq rfl)) rfl rfl ?_ | refine AO.pure (PureOp.assignB (SLe.eq rfl)) rfl rfl ?_ | refine AO.pure (PureOp.assignT (SLe.eq rfl)) rfl rfl ?_ | refine AO.pure (PureOp.assignO (SLe.eq rfl)) rfl rfl ?_ | refine AO.pure (PureOp.assignP (SLe.eq rfl)) rfl rfl ?_ | refine AO.pure (PureOp.assignA (SLe.eq rfl)) rfl rfl ?_
  refine AO.nil ?_
  refine thenQ_normal ?_
  refine AC.seq ?_
  refine AC.region ?_
  first | refine AO.pure (PureOp.moveD (SLe.eq rfl)) rfl rfl ?_ | refine AO.pure (PureOp.moveB (SLe.eq rfl)) rfl rfl ?_ | refine AO.pure (PureOp.moveT (SLe.eq rfl)) rfl rfl ?_ | refine AO.pure (PureOp.moveO (SLe.eq rfl)) rfl rfl ?_ | refine AO.pure (PureOp.moveP (SLe.eq rfl)) rfl rfl ?_ | refine AO.pure (PureOp.moveA (SLe.eq rfl)) rfl rfl ?_
  first | refine AO.pure (PureOp.moveD (SLe.eq rfl)) rfl rfl ?_ | refine AO.pure (PureOp.moveB (SLe.eq rfl)) rfl rfl ?_ | refine AO.pure (PureOp.moveT (SLe.eq rfl)) rfl rfl ?_ | refine AO.pure (PureOp.moveO (SLe.eq rfl)) rfl rfl ?_ | refine AO.pure (PureOp.moveP (SLe.eq rfl)) rfl rfl ?_ | refine AO.pure (PureOp.moveA (SLe.eq rfl)) rfl rfl ?_
  first | refine AO.pure (PureOp.moveD (SLe.eq rfl)) rfl rfl ?_ | refine AO.pure (PureOp.moveB (SLe.eq rfl)) rfl rfl ?_ | refine AO.pure (PureOp.moveT (SLe.eq rfl)) rfl rfl ?_ | refine AO.pure (PureOp.moveO (SLe.eq rfl)) rfl rfl ?_ | refine AO.pure (PureOp.moveP (SLe.eq rfl)) rfl rfl ?_ | refine AO.pure (PureOp.moveA (SLe.eq rfl)) rfl rfl ?_
  first | refine AO.pure (PureOp.moveD (SLe.eq rfl)) rfl rfl ?_ | refine AO.pure (PureOp.moveB (SLe.eq rfl)) rfl rfl ?_ | refine AO.pure (PureOp.moveT (SLe.eq rfl)) rfl rfl ?_ | refine AO.pure (PureOp.moveO (SLe.eq rfl)) rfl rfl ?_ | refine AO.pure (PureOp.moveP (SLe.eq rfl)) rfl rfl ?_ | refine AO.pure (PureOp.moveA (SLe.eq rfl)) rfl rfl ?_
  refine AO.pure (PureOp.sub (SLe.eq rfl) (SLe.eq rfl) (by omega) (by omega)) rfl rfl ?_
  refine AO.pure (PureOp.add (SLe.eq rfl) (SLe.eq rfl) (by omega) (by omega)) rfl rfl ?_
  refine AO.tcall (.tp (SLe.eq rfl) (.cons (SLe.eq rfl) (by first | exact .d _ | exact View.osr rfl rfl | exact .bx rfl rfl | exact .agg (by repeat (first | exact .nil | refine .cons (by first | exact .d _ | exact View.osr rfl rfl) ?_)) | exact .fn (by repeat (first | exact .nil | refine .cons (by first | exact .d _ | exact View.osr rfl rfl | exact .bx rfl rfl) ?_))) .nil)) (next_c _ (by omega)) rfl (by kernel_rfl) rfl ?_
  rintro _ ⟨z1, rfl, hz1a, hz1b⟩
  refine AO.pure (PureOp.add (SLe.eq rfl) (SLe.eq rfl) (by omega) (by omega)) rfl rfl ?_
  first | refine AO.pure (PureOp.assignD (SLe.eq rfl)) rfl rfl ?_ | refine AO.pure (PureOp.assignB (SLe.eq rfl)) rfl rfl ?_ | refine AO.pure (PureOp.assignT (SLe.eq rfl)) rfl rfl ?_ | refine AO.pure (PureOp.assignO (SLe.eq rfl)) rfl rfl ?_ | refine AO.pure (PureOp.assignP (SLe.eq rfl)) rfl rfl ?_ | refine AO.pure (PureOp.assignA (SLe.eq rfl)) rfl rfl ?_
  refine AO.nil ?_
  refine thenQ_normal ?_
  refine AC.ret ?_
  refine ⟨rfl, _, ?_, ResOf.one (by first | exact GetR.flat (SLe.eq rfl) rfl | exact GetR.nil (SLe.eq rfl) | exact GetR.ownR (SLe.eq rfl) rfl rfl (by simp [flatRows, D.flat]) | exact GetR.any (SLe.eq rfl) | exact GetR.ownA (SLe.eq rfl) rfl rfl)⟩
  exact ⟨_, rfl, by omega, by omega⟩

set_option maxRecDepth 100000 in
set_option maxHeartbeats 4000000 in
theorem one_c (n : Int) (h1 : -1099511627776 ≤ n) (h2 : n ≤ 1099511627776) : ACalls Try.prog 68 true true [.tp, .d (iD n)] (fun r => ∃ z : Bool, r = bD z) := by
  refine ACalls.of Try.func68 rfl rfl rfl rfl rfl fun w0 S0 T => ?_
  refine AC.seq ?_
  refine AC.region ?_
  first | refine AO.pure (PureOp.assignD (SLe.eq rfl)) rfl rfl ?_ | refine AO.pure (PureOp.assignB (SLe.eq rfl)) rfl rfl ?_ | refine AO.pure (PureOp.assignT (SLe.eq rfl)) rfl rfl ?_ | refine AO.pure (PureOp.assignO (SLe.eq rfl)) rfl rfl ?_ | refine AO.pure (PureOp.assignP (SLe.eq rfl)) rfl rfl ?_ | refine AO.pure (PureOp.assignA (SLe.eq rfl)) rfl rfl ?_
  refine AO.nil ?_
  refine thenQ_normal ?_
  refine AC.seq ?_
  refine AC.region ?_
  first | refine AO.pure (PureOp.moveD (SLe.eq rfl)) rfl rfl ?_ | refine AO.pure (PureOp.moveB (SLe.eq rfl)) rfl rfl ?_ | refine AO.pure (PureOp.moveT (SLe.eq rfl)) rfl rfl ?_ | refine AO.pure (PureOp.moveO (SLe.eq rfl)) rfl rfl ?_ | refine AO.pure (PureOp.moveP (SLe.eq rfl)) rfl rfl ?_ | refine AO.pure (PureOp.moveA (SLe.eq rfl)) rfl rfl ?_
  first | refine AO.pure (PureOp.moveD (SLe.eq rfl)) rfl rfl ?_ | refine AO.pure (PureOp.moveB (SLe.eq rfl)) rfl rfl ?_ | refine AO.pure (PureOp.moveT (SLe.eq rfl)) rfl rfl ?_ | refine AO.pure (PureOp.moveO (SLe.eq rfl)) rfl rfl ?_ | refine AO.pure (PureOp.moveP (SLe.eq rfl)) rfl rfl ?_ | refine AO.pure (PureOp.moveA (SLe.eq rfl)) rfl rfl ?_
  refine AO.tcall (.tp (SLe.eq rfl) (.cons (SLe.eq rfl) (by first | exact .d _ | exact View.osr rfl rfl | exact .bx rfl rfl | exact .agg (by repeat (first | exact .nil | refine .cons (by first | exact .d _ | exact View.osr rfl rfl) ?_)) | exact .fn (by repeat (first | exact .nil | refine .cons (by first | exact .d _ | exact View.osr rfl rfl | exact .bx rfl rfl) ?_))) .nil)) (next_c _ (by omega)) rfl (by kernel_rfl) rfl ?_
  rintro _ ⟨z1, rfl, hz1a, hz1b⟩
  first | refine AO.pure (PureOp.moveD (SLe.eq rfl)) rfl rfl ?_ | refine AO.pure (PureOp.moveB (SLe.eq rfl)) rfl rfl ?_ | refine AO.pure (PureOp.moveT (SLe.eq rfl)) rfl rfl ?_ | refine AO.pure (PureOp.moveO (SLe.eq rfl)) rfl rfl ?_ | refine AO.pure (PureOp.moveP (SLe.eq rfl)) rfl rfl ?_ | refine AO.pure (PureOp.moveA (SLe.eq rfl)) rfl rfl ?_
  refine AO.pure (PureOp.sub (SLe.eq rfl) (SLe.eq rfl) (by omega) (by omega)) rfl rfl ?_
  refine AO.pure (PureOp.eql (SLe.eq rfl) (SLe.eq rfl)) rfl rfl ?_
  first | refine AO.pure (PureOp.assignD (SLe.eq rfl)) rfl rfl ?_ | refine AO.pure (PureOp.assignB (SLe.eq rfl)) rfl rfl ?_ | refine AO.pure (PureOp.assignT (SLe.eq rfl)) rfl rfl ?_ | refine AO.pure (PureOp.assignO (SLe.eq rfl)) rfl rfl ?_ | refine AO.pure (PureOp.assignP (SLe.eq rfl)) rfl rfl ?_ | refine AO.pure (PureOp.assignA (SLe.eq rfl)) rfl rfl ?_
  refine AO.nil ?_
  refine thenQ_normal ?_
  refine AC.ret ?_
  refine ⟨rfl, _, ?_, ResOf.one (by first | exact GetR.flat (SLe.eq rfl) rfl | exact GetR.nil (SLe.eq rfl) | exact GetR.ownR (SLe.eq rfl) rfl rfl (by simp [flatRows, D.flat]) | exact GetR.any (SLe.eq rfl) | exact GetR.ownA (SLe.eq rfl) rfl rfl)⟩
  exact ⟨_, rfl⟩

end Eng
end Go.Proofs.Ytmmekdkllccmdaa
