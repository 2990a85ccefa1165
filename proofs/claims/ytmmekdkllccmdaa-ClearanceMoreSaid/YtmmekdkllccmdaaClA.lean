/-
  Chapter 41: contracts at the program's own types.
-/
import Derived.Test.YtmmekdkllccmdaaTy
import Derived.Test.YtmmekdkllccmdaaEgO
import Derived.Test.YtmmekdkllccmdaaClS
import Derived.Test.YtmmekdkllccmdaaVisE
import Derived.Test.YtmmekdkllccmdaaEstRef
namespace Go.Proofs.Ytmmekdkllccmdaa
open Go.RowKit
set_option linter.unusedVariables false
namespace Eng
namespace Clr
open Est (upV err rat upper_any rupper_any rate_any rrate_any)
open Ex (part_any rpart_any)
def partI (t p : Int) : Int := ((t.toNat * p.toNat / 1000 : Nat) : Int)
theorem bp_part (t p : Int) (h : 0 ≤ t ∧ t ≤ 68719476736 ∧ 0 ≤ p ∧ p ≤ 1000) : FC Try.prog 73 [iD t, iD p, iD 1000] (.tup [iD (partI t p), iD 0]) := by
  obtain ⟨h1, h2, h3, h4⟩ := h
  obtain ⟨m, rfl⟩ := Int.eq_ofNat_of_zero_le h1
  obtain ⟨n, rfl⟩ := Int.eq_ofNat_of_zero_le h3
  have hmn : m * n ≤ 68719476736 * 1000 := Nat.mul_le_mul (by omega) (by omega)
  exact FC.ofCalls (vs := [.int .i64 m, .int .i64 n, .int .i64 1000]) (fun S w => Rd.tup [iD (partI m n), iD 0] [.int .i64 (partI m n), .int .i64 0] rfl (fun i c u hc hu => by match i, hc, hu with | 0, hc, hu => (cases hc; cases hu; exact .v _) | 1, hc, hu => (cases hc; cases hu; exact .v _))) (fun w => part_any m n 1000 (by omega) (by omega) (by omega) (by omega) (by omega) w)
theorem br_part (t p : Int) (h : 0 ≤ t ∧ t ≤ 68719476736 ∧ 0 ≤ p ∧ p ≤ 1000) : FC Try.prog 75 [iD t, iD p, iD 1000] (.tup [iD (partI t p), iD 0]) := by
  obtain ⟨h1, h2, h3, h4⟩ := h
  obtain ⟨m, rfl⟩ := Int.eq_ofNat_of_zero_le h1
  obtain ⟨n, rfl⟩ := Int.eq_ofNat_of_zero_le h3
  have hmn : m * n ≤ 68719476736 * 1000 := Nat.mul_le_mul (by omega) (by omega)
  exact FC.ofCalls (vs := [.int .i64 m, .int .i64 n, .int .i64 1000]) (fun S w => Rd.tup [iD (partI m n), iD 0] [.int .i64 (partI m n), .int .i64 0] rfl (fun i c u hc hu => by match i, hc, hu with | 0, hc, hu => (cases hc; cases hu; exact .v _) | 1, hc, hu => (cases hc; cases hu; exact .v _))) (fun w => rpart_any m n 1000 (by omega) (by omega) (by omega) (by omega) (by omega) w)
theorem rd_two (a b : Int) (S : Cells) (w : World) : Rd S w (.tup [iD a, iD b]) (.tuple #[.int .i64 a, .int .i64 b]) := Rd.tup [iD a, iD b] [.int .i64 a, .int .i64 b] rfl (fun i c u hc hu => by match i, hc, hu with | 0, hc, hu => (cases hc; cases hu; exact .v _) | 1, hc, hu => (cases hc; cases hu; exact .v _))
theorem bp_upper (a b c d : Int) : FC Try.prog 34 [iD a, iD b, iD c, iD d] (.tup [iD (upV a b c d), iD (err a b c d)]) := FC.ofEq (vs := [.int .i64 a, .int .i64 b, .int .i64 c, .int .i64 d]) (rd_two _ _) (fun w => upper_any a b c d w)
theorem br_upper (a b c d : Int) : FC Try.prog 80 [iD a, iD b, iD c, iD d] (.tup [iD (upV a b c d), iD (err a b c d)]) := FC.ofEq (vs := [.int .i64 a, .int .i64 b, .int .i64 c, .int .i64 d]) (rd_two _ _) (fun w => rupper_any a b c d w)
theorem bp_rate (a b : Int) : FC Try.prog 35 [iD a, iD b] (iD (rat a b)) := FC.ofEq (vs := [.int .i64 a, .int .i64 b]) (fun _ _ => .v _) (fun w => rate_any a b w)
theorem br_rate (a b : Int) : FC Try.prog 81 [iD a, iD b] (iD (rat a b)) := FC.ofEq (vs := [.int .i64 a, .int .i64 b]) (fun _ _ => .v _) (fun w => rrate_any a b w)
theorem vs_one (x : api_Finding) : ∀ v ∈ vs x, v.oneCell' = true := by
  intro v hv
  simp [vs] at hv
  rcases hv with rfl | rfl | rfl | rfl | rfl <;> rfl
theorem sorted_nil (l : List api_Finding) (h : Sorted [] l) : l = [] := h.1.eq_nil
theorem Sorted_nil : Sorted [] [] := ⟨List.Perm.refl _, List.Pairwise.nil⟩
def r32_Money_W (p0 : Int) (Post : Bool → Prop) : Prop :=
  Post (decide (0 ≤ p0) && decide (p0 ≤ 68719476736))
set_option maxRecDepth 100000 in
set_option maxHeartbeats 4000000 in
theorem r32_Money_w (p0 : Int) (Post : Bool → Prop) (H : r32_Money_W p0 Post) : ACalls Try.prog 79 false false (([(iD p0)] : List D).map SV.d) (fun r => ∃ y0 : Bool, r = (bD y0) ∧ Post y0) := by
  refine ACalls.of Try.func79 rfl rfl rfl rfl rfl fun w0 S0 T => ?_
  unfold r32_Money_W at H
  refine AC.seq ?_
  refine AC.region ?_
  refine AO.pure (PureOp.assignD (SLe.eq rfl)) rfl rfl ?_
  refine AO.nil ?_
  refine thenQ_normal ?_
  refine AC.seq ?_
  refine AC.region ?_
  refine AO.pure (PureOp.moveD (SLe.eq rfl)) rfl rfl ?_
  refine AO.pure (PureOp.geq (SLe.eq rfl) (SLe.eq rfl)) rfl rfl ?_
  refine AO.pure (PureOp.moveD (SLe.eq rfl)) rfl rfl ?_
  refine AO.guarded rfl rfl (fun hG => PureOp.moveD (SLe.eq rfl)) rfl rfl ?_
  refine AO.guarded rfl rfl (fun hG => PureOp.leq (SLe.cnd rfl hG) (SLe.eq rfl)) rfl rfl ?_
  refine AO.pure (PureOp.pickAnd (SLe.eq rfl) rfl rfl (fun h => beq_t h)) rfl rfl ?_
  refine AO.pure (PureOp.assignD (SLe.eq rfl)) rfl rfl ?_
  refine AO.nil ?_
  refine thenQ_normal ?_
  refine AC.ret ?_
  refine ⟨rfl, _, ?_, ResOf.one (GetR.any (r := (bD (decide (0 ≤ p0) && decide (p0 ≤ 68719476736)))) (SLe.eq rfl))⟩
  exact ⟨(decide (0 ≤ p0) && decide (p0 ≤ 68719476736)), rfl, H⟩
def r32_Money_E (p0 : Int) : Bool :=
  (decide (0 ≤ p0) && decide (p0 ≤ 68719476736))
theorem r32_Money_any (p0 : Int) : FC Try.prog 79 [(iD p0)] (bD (r32_Money_E p0)) := by
  refine FC.of1 (enc := fun y : Bool => (bD y)) (r32_Money_w p0 _ ?_)
  unfold r32_Money_W r32_Money_E
  first | rfl | (repeat' split) <;> first | rfl | simp_all
def c_right_W (p0 : api_Finding) (Post : Bool → Prop) : Prop :=
  Post ((((((((decide (1 ≤ p0.Number) && decide (p0.Number ≤ 1125899906842624)) && decide (1 ≤ p0.Schemes)) && decide (p0.Schemes < 65536)) && decide (0 ≤ p0.From)) && decide (p0.From ≤ p0.Until)) && decide (p0.Until ≤ 100)) && decide (1 ≤ p0.Mille)) && decide (p0.Mille ≤ 1000))
set_option maxRecDepth 100000 in
set_option maxHeartbeats 4000000 in
theorem c_right_w (p0 : api_Finding) (Post : Bool → Prop) (H : c_right_W p0 Post) : ACalls Try.prog 76 false false (([(.agg (api_Finding.av p0))] : List D).map SV.d) (fun r => ∃ y0 : Bool, r = (bD y0) ∧ Post y0) := by
  refine ACalls.of Try.func76 rfl rfl rfl rfl rfl fun w0 S0 T => ?_
  unfold c_right_W at H
  refine AC.seq ?_
  refine AC.region ?_
  refine AO.box (SLe.eq rfl) rfl rfl rfl rfl rfl ?_
  refine AO.pure (PureOp.assignD (SLe.eq rfl)) rfl rfl ?_
  refine AO.nil ?_
  refine thenQ_normal ?_
  refine AC.seq ?_
  refine AC.region ?_
  refine AO.pure (PureOp.fldB (k := 0) (SLe.eq rfl) (by kernel_rfl)) rfl rfl ?_
  refine AO.pure (PureOp.loadB1 (s := .d (iD p0.Number)) (SLe.eq rfl) rfl rfl (by kernel_rfl)) rfl rfl ?_
  refine AO.pure (PureOp.geq (SLe.eq rfl) (SLe.eq rfl)) rfl rfl ?_
  refine AO.pure (PureOp.moveD (SLe.eq rfl)) rfl rfl ?_
  refine AO.guarded rfl rfl (fun hG => PureOp.fldB (k := 0) (SLe.eq rfl) (by kernel_rfl)) rfl rfl ?_
  refine AO.guarded rfl rfl (fun hG => PureOp.loadB1 (s := .d (iD p0.Number)) (SLe.cnd rfl hG) rfl rfl (by kernel_rfl)) rfl rfl ?_
  refine AO.guarded rfl rfl (fun hG => PureOp.leq (SLe.cnd rfl hG) (SLe.eq rfl)) rfl rfl ?_
  refine AO.pure (PureOp.pickAnd (SLe.eq rfl) rfl rfl (fun h => beq_t h)) rfl rfl ?_
  refine AO.pure (PureOp.moveD (SLe.eq rfl)) rfl rfl ?_
  refine AO.guarded rfl rfl (fun hG => PureOp.fldB (k := 1) (SLe.eq rfl) (by kernel_rfl)) rfl rfl ?_
  refine AO.guarded rfl rfl (fun hG => PureOp.loadB1 (s := .d (iD p0.Schemes)) (SLe.cnd rfl hG) rfl rfl (by kernel_rfl)) rfl rfl ?_
  refine AO.guarded rfl rfl (fun hG => PureOp.geq (SLe.cnd rfl hG) (SLe.eq rfl)) rfl rfl ?_
  refine AO.pure (PureOp.pickAnd (SLe.eq rfl) rfl rfl (fun h => beq_t h)) rfl rfl ?_
  refine AO.pure (PureOp.moveD (SLe.eq rfl)) rfl rfl ?_
  refine AO.guarded rfl rfl (fun hG => PureOp.fldB (k := 1) (SLe.eq rfl) (by kernel_rfl)) rfl rfl ?_
  refine AO.guarded rfl rfl (fun hG => PureOp.loadB1 (s := .d (iD p0.Schemes)) (SLe.cnd rfl hG) rfl rfl (by kernel_rfl)) rfl rfl ?_
  refine AO.guarded rfl rfl (fun hG => PureOp.lss (SLe.cnd rfl hG) (SLe.eq rfl)) rfl rfl ?_
  refine AO.pure (PureOp.pickAnd (SLe.eq rfl) rfl rfl (fun h => beq_t h)) rfl rfl ?_
  refine AO.pure (PureOp.moveD (SLe.eq rfl)) rfl rfl ?_
  refine AO.guarded rfl rfl (fun hG => PureOp.fldB (k := 2) (SLe.eq rfl) (by kernel_rfl)) rfl rfl ?_
  refine AO.guarded rfl rfl (fun hG => PureOp.loadB1 (s := .d (iD p0.From)) (SLe.cnd rfl hG) rfl rfl (by kernel_rfl)) rfl rfl ?_
  refine AO.guarded rfl rfl (fun hG => PureOp.geq (SLe.cnd rfl hG) (SLe.eq rfl)) rfl rfl ?_
  refine AO.pure (PureOp.pickAnd (SLe.eq rfl) rfl rfl (fun h => beq_t h)) rfl rfl ?_
  refine AO.pure (PureOp.moveD (SLe.eq rfl)) rfl rfl ?_
  refine AO.guarded rfl rfl (fun hG => PureOp.fldB (k := 2) (SLe.eq rfl) (by kernel_rfl)) rfl rfl ?_
  refine AO.guarded rfl rfl (fun hG => PureOp.loadB1 (s := .d (iD p0.From)) (SLe.cnd rfl hG) rfl rfl (by kernel_rfl)) rfl rfl ?_
  refine AO.guarded rfl rfl (fun hG => PureOp.fldB (k := 3) (SLe.eq rfl) (by kernel_rfl)) rfl rfl ?_
  refine AO.guarded rfl rfl (fun hG => PureOp.loadB1 (s := .d (iD p0.Until)) (SLe.cnd rfl hG) rfl rfl (by kernel_rfl)) rfl rfl ?_
  refine AO.guarded rfl rfl (fun hG => PureOp.leq (SLe.cnd rfl hG) (SLe.cnd rfl hG)) rfl rfl ?_
  refine AO.pure (PureOp.pickAnd (SLe.eq rfl) rfl rfl (fun h => beq_t h)) rfl rfl ?_
  refine AO.pure (PureOp.moveD (SLe.eq rfl)) rfl rfl ?_
  refine AO.guarded rfl rfl (fun hG => PureOp.fldB (k := 3) (SLe.eq rfl) (by kernel_rfl)) rfl rfl ?_
  refine AO.guarded rfl rfl (fun hG => PureOp.loadB1 (s := .d (iD p0.Until)) (SLe.cnd rfl hG) rfl rfl (by kernel_rfl)) rfl rfl ?_
  refine AO.guarded rfl rfl (fun hG => PureOp.leq (SLe.cnd rfl hG) (SLe.eq rfl)) rfl rfl ?_
  refine AO.pure (PureOp.pickAnd (SLe.eq rfl) rfl rfl (fun h => beq_t h)) rfl rfl ?_
  refine AO.pure (PureOp.moveD (SLe.eq rfl)) rfl rfl ?_
  refine AO.guarded rfl rfl (fun hG => PureOp.fldB (k := 4) (SLe.eq rfl) (by kernel_rfl)) rfl rfl ?_
  refine AO.guarded rfl rfl (fun hG => PureOp.loadB1 (s := .d (iD p0.Mille)) (SLe.cnd rfl hG) rfl rfl (by kernel_rfl)) rfl rfl ?_
  refine AO.guarded rfl rfl (fun hG => PureOp.geq (SLe.cnd rfl hG) (SLe.eq rfl)) rfl rfl ?_
  refine AO.pure (PureOp.pickAnd (SLe.eq rfl) rfl rfl (fun h => beq_t h)) rfl rfl ?_
  refine AO.pure (PureOp.moveD (SLe.eq rfl)) rfl rfl ?_
  refine AO.guarded rfl rfl (fun hG => PureOp.fldB (k := 4) (SLe.eq rfl) (by kernel_rfl)) rfl rfl ?_
  refine AO.guarded rfl rfl (fun hG => PureOp.loadB1 (s := .d (iD p0.Mille)) (SLe.cnd rfl hG) rfl rfl (by kernel_rfl)) rfl rfl ?_
  refine AO.guarded rfl rfl (fun hG => PureOp.leq (SLe.cnd rfl hG) (SLe.eq rfl)) rfl rfl ?_
  refine AO.pure (PureOp.pickAnd (SLe.eq rfl) rfl rfl (fun h => beq_t h)) rfl rfl ?_
  refine AO.pure (PureOp.assignD (SLe.eq rfl)) rfl rfl ?_
  refine AO.nil ?_
  refine thenQ_normal ?_
  refine AC.ret ?_
  refine ⟨rfl, _, ?_, ResOf.one (GetR.any (r := (bD ((((((((decide (1 ≤ p0.Number) && decide (p0.Number ≤ 1125899906842624)) && decide (1 ≤ p0.Schemes)) && decide (p0.Schemes < 65536)) && decide (0 ≤ p0.From)) && decide (p0.From ≤ p0.Until)) && decide (p0.Until ≤ 100)) && decide (1 ≤ p0.Mille)) && decide (p0.Mille ≤ 1000)))) (SLe.eq rfl))⟩
  exact ⟨((((((((decide (1 ≤ p0.Number) && decide (p0.Number ≤ 1125899906842624)) && decide (1 ≤ p0.Schemes)) && decide (p0.Schemes < 65536)) && decide (0 ≤ p0.From)) && decide (p0.From ≤ p0.Until)) && decide (p0.Until ≤ 100)) && decide (1 ≤ p0.Mille)) && decide (p0.Mille ≤ 1000)), rfl, H⟩
def c_right_E (p0 : api_Finding) : Bool :=
  ((((((((decide (1 ≤ p0.Number) && decide (p0.Number ≤ 1125899906842624)) && decide (1 ≤ p0.Schemes)) && decide (p0.Schemes < 65536)) && decide (0 ≤ p0.From)) && decide (p0.From ≤ p0.Until)) && decide (p0.Until ≤ 100)) && decide (1 ≤ p0.Mille)) && decide (p0.Mille ≤ 1000))
theorem c_right_any (p0 : api_Finding) : FC Try.prog 76 [(.agg (api_Finding.av p0))] (bD (c_right_E p0)) := by
  refine FC.of1 (enc := fun y : Bool => (bD y)) (c_right_w p0 _ ?_)
  unfold c_right_W c_right_E
  first | rfl | (repeat' split) <;> first | rfl | simp_all
def c_fact_W (p0 : api_Spent) (Post : Bool → Prop) : Prop :=
  Post (((((decide (0 ≤ p0.Year) && decide (p0.Year ≤ 100)) && decide (0 ≤ p0.Scheme)) && decide (p0.Scheme ≤ 15)) && decide (0 ≤ p0.Amount)) && decide (p0.Amount ≤ 68719476736))
set_option maxRecDepth 100000 in
set_option maxHeartbeats 4000000 in
theorem c_fact_w (p0 : api_Spent) (Post : Bool → Prop) (H : c_fact_W p0 Post) : ACalls Try.prog 77 false false (([(.agg (api_Spent.av p0))] : List D).map SV.d) (fun r => ∃ y0 : Bool, r = (bD y0) ∧ Post y0) := by
  refine ACalls.of Try.func77 rfl rfl rfl rfl rfl fun w0 S0 T => ?_
  unfold c_fact_W at H
  refine AC.seq ?_
  refine AC.region ?_
  refine AO.box (SLe.eq rfl) rfl rfl rfl rfl rfl ?_
  refine AO.pure (PureOp.assignD (SLe.eq rfl)) rfl rfl ?_
  refine AO.nil ?_
  refine thenQ_normal ?_
  refine AC.seq ?_
  refine AC.region ?_
  refine AO.pure (PureOp.fldB (k := 0) (SLe.eq rfl) (by kernel_rfl)) rfl rfl ?_
  refine AO.pure (PureOp.loadB1 (s := .d (iD p0.Year)) (SLe.eq rfl) rfl rfl (by kernel_rfl)) rfl rfl ?_
  refine AO.pure (PureOp.geq (SLe.eq rfl) (SLe.eq rfl)) rfl rfl ?_
  refine AO.pure (PureOp.moveD (SLe.eq rfl)) rfl rfl ?_
  refine AO.guarded rfl rfl (fun hG => PureOp.fldB (k := 0) (SLe.eq rfl) (by kernel_rfl)) rfl rfl ?_
  refine AO.guarded rfl rfl (fun hG => PureOp.loadB1 (s := .d (iD p0.Year)) (SLe.cnd rfl hG) rfl rfl (by kernel_rfl)) rfl rfl ?_
  refine AO.guarded rfl rfl (fun hG => PureOp.leq (SLe.cnd rfl hG) (SLe.eq rfl)) rfl rfl ?_
  refine AO.pure (PureOp.pickAnd (SLe.eq rfl) rfl rfl (fun h => beq_t h)) rfl rfl ?_
  refine AO.pure (PureOp.moveD (SLe.eq rfl)) rfl rfl ?_
  refine AO.guarded rfl rfl (fun hG => PureOp.fldB (k := 1) (SLe.eq rfl) (by kernel_rfl)) rfl rfl ?_
  refine AO.guarded rfl rfl (fun hG => PureOp.loadB1 (s := .d (iD p0.Scheme)) (SLe.cnd rfl hG) rfl rfl (by kernel_rfl)) rfl rfl ?_
  refine AO.guarded rfl rfl (fun hG => PureOp.geq (SLe.cnd rfl hG) (SLe.eq rfl)) rfl rfl ?_
  refine AO.pure (PureOp.pickAnd (SLe.eq rfl) rfl rfl (fun h => beq_t h)) rfl rfl ?_
  refine AO.pure (PureOp.moveD (SLe.eq rfl)) rfl rfl ?_
  refine AO.guarded rfl rfl (fun hG => PureOp.fldB (k := 1) (SLe.eq rfl) (by kernel_rfl)) rfl rfl ?_
  refine AO.guarded rfl rfl (fun hG => PureOp.loadB1 (s := .d (iD p0.Scheme)) (SLe.cnd rfl hG) rfl rfl (by kernel_rfl)) rfl rfl ?_
  refine AO.guarded rfl rfl (fun hG => PureOp.leq (SLe.cnd rfl hG) (SLe.eq rfl)) rfl rfl ?_
  refine AO.pure (PureOp.pickAnd (SLe.eq rfl) rfl rfl (fun h => beq_t h)) rfl rfl ?_
  refine AO.pure (PureOp.moveD (SLe.eq rfl)) rfl rfl ?_
  refine AO.guarded rfl rfl (fun hG => PureOp.fldB (k := 2) (SLe.eq rfl) (by kernel_rfl)) rfl rfl ?_
  refine AO.guarded rfl rfl (fun hG => PureOp.loadB1 (s := .d (iD p0.Amount)) (SLe.cnd rfl hG) rfl rfl (by kernel_rfl)) rfl rfl ?_
  refine AO.guarded rfl rfl (fun hG => PureOp.geq (SLe.cnd rfl hG) (SLe.eq rfl)) rfl rfl ?_
  refine AO.pure (PureOp.pickAnd (SLe.eq rfl) rfl rfl (fun h => beq_t h)) rfl rfl ?_
  refine AO.pure (PureOp.moveD (SLe.eq rfl)) rfl rfl ?_
  refine AO.guarded rfl rfl (fun hG => PureOp.fldB (k := 2) (SLe.eq rfl) (by kernel_rfl)) rfl rfl ?_
  refine AO.guarded rfl rfl (fun hG => PureOp.loadB1 (s := .d (iD p0.Amount)) (SLe.cnd rfl hG) rfl rfl (by kernel_rfl)) rfl rfl ?_
  refine AO.guarded rfl rfl (fun hG => PureOp.leq (SLe.cnd rfl hG) (SLe.eq rfl)) rfl rfl ?_
  refine AO.pure (PureOp.pickAnd (SLe.eq rfl) rfl rfl (fun h => beq_t h)) rfl rfl ?_
  refine AO.pure (PureOp.assignD (SLe.eq rfl)) rfl rfl ?_
  refine AO.nil ?_
  refine thenQ_normal ?_
  refine AC.ret ?_
  refine ⟨rfl, _, ?_, ResOf.one (GetR.any (r := (bD (((((decide (0 ≤ p0.Year) && decide (p0.Year ≤ 100)) && decide (0 ≤ p0.Scheme)) && decide (p0.Scheme ≤ 15)) && decide (0 ≤ p0.Amount)) && decide (p0.Amount ≤ 68719476736)))) (SLe.eq rfl))⟩
  exact ⟨(((((decide (0 ≤ p0.Year) && decide (p0.Year ≤ 100)) && decide (0 ≤ p0.Scheme)) && decide (p0.Scheme ≤ 15)) && decide (0 ≤ p0.Amount)) && decide (p0.Amount ≤ 68719476736)), rfl, H⟩
def c_fact_E (p0 : api_Spent) : Bool :=
  (((((decide (0 ≤ p0.Year) && decide (p0.Year ≤ 100)) && decide (0 ≤ p0.Scheme)) && decide (p0.Scheme ≤ 15)) && decide (0 ≤ p0.Amount)) && decide (p0.Amount ≤ 68719476736))
theorem c_fact_any (p0 : api_Spent) : FC Try.prog 77 [(.agg (api_Spent.av p0))] (bD (c_fact_E p0)) := by
  refine FC.of1 (enc := fun y : Bool => (bD y)) (c_fact_w p0 _ ?_)
  unfold c_fact_W c_fact_E
  first | rfl | (repeat' split) <;> first | rfl | simp_all
end Clr
end Eng
end Go.Proofs.Ytmmekdkllccmdaa
