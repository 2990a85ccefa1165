/-
  Chapter 41: awake.
-/
import Derived.Test.YtmmekdkllccmdaaClF
namespace Go.Proofs.Ytmmekdkllccmdaa
open Go.RowKit
set_option linter.unusedVariables false
namespace Eng
namespace Clr
open Est (upV err rat)
set_option maxHeartbeats 400000 in
theorem down_92 (w : World) : Calls Try.prog 67 #[.int .i64 9, .int .i64 2] w fun e w' => e = .returned (.int .i64 4) ∧ Below w.heap.size w w' := by
  go_enter Try.func67, Try.ntmps67
  go_wp2
  go_ret
  exact ⟨rfl, Below.refl _ _⟩
theorem b_down (a b : Int) (h : a = 9 ∧ b = 2) : FC Try.prog 67 [iD a, iD b] (iD 4) := by
  obtain ⟨rfl, rfl⟩ := h
  exact FC.ofCalls (vs := [.int .i64 9, .int .i64 2]) (fun _ _ => .v _) (fun w => down_92 w)
def awk_W  (Post : Bool → Prop) : Prop :=
  ∀ b1 : Bool, b1 = (decide ((chkC ([(⟨1, 2, 0, 3, 100⟩ : api_Finding), (⟨4, 3, 0, 3, 250⟩ : api_Finding)] : List api_Finding) ([(⟨2, 1, 1000⟩ : api_Spent)] : List api_Spent)) = 0) && decide ((chkC ([(⟨1, 2, 0, 3, 100⟩ : api_Finding), (⟨4, 3, 0, 3, 250⟩ : api_Finding)] : List api_Finding) ([(⟨2, 1, 1000⟩ : api_Spent)] : List api_Spent)) = 0)) → ((b1 == true) = true → (corS ([(⟨1, 2, 0, 3, 100⟩ : api_Finding), (⟨4, 3, 0, 3, 250⟩ : api_Finding)] : List api_Finding) ([(⟨2, 1, 1000⟩ : api_Spent)] : List api_Spent)).length ≤ 4611686018427387903) ∧ ((b1 == true) = true → ([325] : List Int).length ≤ 4611686018427387903) ∧ ∀ b2 : Bool, b2 = (b1 && (decide ((corS ([(⟨1, 2, 0, 3, 100⟩ : api_Finding), (⟨4, 3, 0, 3, 250⟩ : api_Finding)] : List api_Finding) ([(⟨2, 1, 1000⟩ : api_Spent)] : List api_Spent)) = ([325] : List Int)))) → ∀ b3 : Bool, b3 = decide ((namE ([(⟨1, 2, 0, 3, 100⟩ : api_Finding), (⟨4, 3, 0, 3, 250⟩ : api_Finding)] : List api_Finding) ([(⟨2, 1, 1000⟩ : api_Spent)] : List api_Spent) 0) = 0) → (((b2 && b3) == true) = true → (namS ([(⟨1, 2, 0, 3, 100⟩ : api_Finding), (⟨4, 3, 0, 3, 250⟩ : api_Finding)] : List api_Finding) ([(⟨2, 1, 1000⟩ : api_Spent)] : List api_Spent) 0).length ≤ 4611686018427387903) ∧ (((b2 && b3) == true) = true → ([1, 4] : List Int).length ≤ 4611686018427387903) ∧ ∀ b4 : Bool, b4 = ((b2 && b3) && (decide ((namS ([(⟨1, 2, 0, 3, 100⟩ : api_Finding), (⟨4, 3, 0, 3, 250⟩ : api_Finding)] : List api_Finding) ([(⟨2, 1, 1000⟩ : api_Spent)] : List api_Spent) 0) = ([1, 4] : List Int)))) → Post ((((b4 && decide ((flatI 2) = 50)) && decide ((extE 10 5 0 50) = 0)) && decide ((extV 10 5 0 50) = 300)) && decide (4 = 4))
set_option maxRecDepth 100000 in
set_option maxHeartbeats 4000000 in
theorem awk_w  (Post : Bool → Prop) (H : awk_W  Post) : ACalls Try.prog 15 false false (([] : List D).map SV.d) (fun r => ∃ y0 : Bool, r = (bD y0) ∧ Post y0) := by
  refine ACalls.of Try.func15 rfl rfl rfl rfl rfl fun w0 S0 T => ?_
  unfold awk_W at H
  refine AC.seq ?_
  refine AC.region ?_
  refine AO.pure (PureOp.assignD (SLe.eq rfl)) rfl rfl ?_
  refine AO.nil ?_
  refine thenQ_normal ?_
  refine AC.seq ?_
  refine AC.region ?_
  refine AO.pure (PureOp.build (ds := [(iD 1), (iD 2), (iD 0), (iD 3), (iD 100)]) (z := .agg #[.int .i64 0, .int .i64 0, .int .i64 0, .int .i64 0, .int .i64 0]) (pl := [(0, 1), (1, 1), (2, 1), (3, 1), (4, 1)]) (by kernel_rfl) rfl (by kernel_rfl) (.cons (SLe.eq rfl) rfl (.cons (SLe.eq rfl) rfl (.cons (SLe.eq rfl) rfl (.cons (SLe.eq rfl) rfl .nil)))) rfl rfl) rfl rfl ?_
  refine AO.pure (PureOp.build (ds := [(iD 4), (iD 3), (iD 0), (iD 3), (iD 250)]) (z := .agg #[.int .i64 0, .int .i64 0, .int .i64 0, .int .i64 0, .int .i64 0]) (pl := [(0, 1), (1, 1), (2, 1), (3, 1), (4, 1)]) (by kernel_rfl) rfl (by kernel_rfl) (.cons (SLe.eq rfl) rfl (.cons (SLe.eq rfl) rfl (.cons (SLe.eq rfl) rfl (.cons (SLe.eq rfl) rfl .nil)))) rfl rfl) rfl rfl ?_
  refine AO.pure (PureOp.buildSlice (e := 32) (sz := 5) (z := .agg #[.int .i64 0, .int .i64 0, .int .i64 0, .int .i64 0, .int .i64 0]) (rows := [[(iD 1), (iD 2), (iD 0), (iD 3), (iD 100)], [(iD 4), (iD 3), (iD 0), (iD 3), (iD 250)]]) (by kernel_rfl) (by kernel_rfl) rfl rfl rfl (.cons (SLe.eq rfl) rfl (.cons (SLe.eq rfl) rfl .nil)) rfl rfl rfl rfl) rfl rfl ?_
  refine AO.pure (PureOp.assignD (SLe.eq rfl)) rfl rfl ?_
  refine AO.nil ?_
  refine thenQ_normal ?_
  refine AC.seq ?_
  refine AC.region ?_
  refine AO.pure (PureOp.build (ds := [(iD 2), (iD 1), (iD 1000)]) (z := .agg #[.int .i64 0, .int .i64 0, .int .i64 0]) (pl := [(0, 1), (1, 1), (2, 1)]) (by kernel_rfl) rfl (by kernel_rfl) (.cons (SLe.eq rfl) rfl (.cons (SLe.eq rfl) rfl (.cons (SLe.eq rfl) rfl .nil))) rfl rfl) rfl rfl ?_
  refine AO.pure (PureOp.buildSlice (e := 36) (sz := 3) (z := .agg #[.int .i64 0, .int .i64 0, .int .i64 0]) (rows := [[(iD 2), (iD 1), (iD 1000)]]) (by kernel_rfl) (by kernel_rfl) rfl rfl rfl (.cons (SLe.eq rfl) rfl .nil) rfl rfl rfl rfl) rfl rfl ?_
  refine AO.pure (PureOp.assignD (SLe.eq rfl)) rfl rfl ?_
  refine AO.nil ?_
  refine thenQ_normal ?_
  refine AC.seq ?_
  refine AC.region ?_
  refine AO.pure (PureOp.moveD (SLe.eq rfl)) rfl rfl ?_
  refine AO.pure (PureOp.moveD (SLe.eq rfl)) rfl rfl ?_
  refine AO.pure (PureOp.callS (.cons (SLe.eq rfl) (.cons (SLe.eq rfl) .nil)) (bc_cor ([(⟨1, 2, 0, 3, 100⟩ : api_Finding), (⟨4, 3, 0, 3, 250⟩ : api_Finding)] : List api_Finding) ([(⟨2, 1, 1000⟩ : api_Spent)] : List api_Spent)) (by kernel_rfl)) rfl rfl ?_
  refine AO.pure (PureOp.moveD (SLe.eq rfl)) rfl rfl ?_
  refine AO.pure (PureOp.extract (c := (.sl 1 ((corS ([(⟨1, 2, 0, 3, 100⟩ : api_Finding), (⟨4, 3, 0, 3, 250⟩ : api_Finding)] : List api_Finding) ([(⟨2, 1, 1000⟩ : api_Spent)] : List api_Spent)).map avI))) (SLe.eq rfl) rfl) rfl rfl ?_
  refine AO.pure (PureOp.extract (c := (iD (chkC ([(⟨1, 2, 0, 3, 100⟩ : api_Finding), (⟨4, 3, 0, 3, 250⟩ : api_Finding)] : List api_Finding) ([(⟨2, 1, 1000⟩ : api_Spent)] : List api_Spent)))) (SLe.eq rfl) rfl) rfl rfl ?_
  refine AO.pure (PureOp.assignD (SLe.eq rfl)) rfl rfl ?_
  refine AO.pure (PureOp.assignD (SLe.eq rfl)) rfl rfl ?_
  refine AO.nil ?_
  refine thenQ_normal ?_
  refine AC.seq ?_
  refine AC.region ?_
  refine AO.pure (PureOp.moveD (SLe.eq rfl)) rfl rfl ?_
  refine AO.pure (PureOp.moveD (SLe.eq rfl)) rfl rfl ?_
  refine AO.pure (PureOp.callS (.cons (SLe.eq rfl) (.cons (SLe.eq rfl) (.cons (SLe.eq rfl) .nil))) (bc_nam ([(⟨1, 2, 0, 3, 100⟩ : api_Finding), (⟨4, 3, 0, 3, 250⟩ : api_Finding)] : List api_Finding) ([(⟨2, 1, 1000⟩ : api_Spent)] : List api_Spent) 0) (by kernel_rfl)) rfl rfl ?_
  refine AO.pure (PureOp.moveD (SLe.eq rfl)) rfl rfl ?_
  refine AO.pure (PureOp.extract (c := (.sl 1 ((namS ([(⟨1, 2, 0, 3, 100⟩ : api_Finding), (⟨4, 3, 0, 3, 250⟩ : api_Finding)] : List api_Finding) ([(⟨2, 1, 1000⟩ : api_Spent)] : List api_Spent) 0).map avI))) (SLe.eq rfl) rfl) rfl rfl ?_
  refine AO.pure (PureOp.extract (c := (iD (namE ([(⟨1, 2, 0, 3, 100⟩ : api_Finding), (⟨4, 3, 0, 3, 250⟩ : api_Finding)] : List api_Finding) ([(⟨2, 1, 1000⟩ : api_Spent)] : List api_Spent) 0))) (SLe.eq rfl) rfl) rfl rfl ?_
  refine AO.pure (PureOp.assignD (SLe.eq rfl)) rfl rfl ?_
  refine AO.pure (PureOp.assignD (SLe.eq rfl)) rfl rfl ?_
  refine AO.nil ?_
  refine thenQ_normal ?_
  refine AC.seq ?_
  refine AC.region ?_
  refine AO.pure (PureOp.callS (.cons (SLe.eq rfl) (.cons (SLe.eq rfl) (.cons (SLe.eq rfl) (.cons (SLe.eq rfl) .nil)))) (bc_ext 10 5 0 50) (by kernel_rfl)) rfl rfl ?_
  refine AO.pure (PureOp.moveD (SLe.eq rfl)) rfl rfl ?_
  refine AO.pure (PureOp.extract (c := (iD (extV 10 5 0 50))) (SLe.eq rfl) rfl) rfl rfl ?_
  refine AO.pure (PureOp.extract (c := (iD (extE 10 5 0 50))) (SLe.eq rfl) rfl) rfl rfl ?_
  refine AO.pure (PureOp.assignD (SLe.eq rfl)) rfl rfl ?_
  refine AO.pure (PureOp.assignD (SLe.eq rfl)) rfl rfl ?_
  refine AO.nil ?_
  refine thenQ_normal ?_
  refine AC.seq ?_
  refine AC.region ?_
  refine AO.pure (PureOp.moveD (SLe.eq rfl)) rfl rfl ?_
  refine AO.pure (PureOp.moveD (SLe.eq rfl)) rfl rfl ?_
  refine AO.pure (PureOp.callS (.cons (SLe.eq rfl) (.cons (SLe.eq rfl) .nil)) (bc_chk ([(⟨1, 2, 0, 3, 100⟩ : api_Finding), (⟨4, 3, 0, 3, 250⟩ : api_Finding)] : List api_Finding) ([(⟨2, 1, 1000⟩ : api_Spent)] : List api_Spent)) (by kernel_rfl)) rfl rfl ?_
  refine AO.pure (PureOp.eql (SLe.eq rfl) (SLe.eq rfl)) rfl rfl ?_
  refine AO.pure (PureOp.moveD (SLe.eq rfl)) rfl rfl ?_
  refine AO.guarded rfl rfl (fun hG => PureOp.moveD (SLe.eq rfl)) rfl rfl ?_
  refine AO.guarded rfl rfl (fun hG => PureOp.eql (SLe.cnd rfl hG) (SLe.eq rfl)) rfl rfl ?_
  obtain ⟨b1, hb1⟩ : ∃ b : Bool, b = (decide ((chkC ([(⟨1, 2, 0, 3, 100⟩ : api_Finding), (⟨4, 3, 0, 3, 250⟩ : api_Finding)] : List api_Finding) ([(⟨2, 1, 1000⟩ : api_Spent)] : List api_Spent)) = 0) && decide ((chkC ([(⟨1, 2, 0, 3, 100⟩ : api_Finding), (⟨4, 3, 0, 3, 250⟩ : api_Finding)] : List api_Finding) ([(⟨2, 1, 1000⟩ : api_Spent)] : List api_Spent)) = 0)) := ⟨_, rfl⟩
  replace H := H b1 hb1
  refine AO.pure (r := .d (bD b1)) (by rw [hb1]; exact PureOp.pickAnd (SLe.eq rfl) rfl rfl (fun h => beq_t h)) rfl rfl ?_
  refine AO.pure (PureOp.moveD (SLe.eq rfl)) rfl rfl ?_
  refine AO.guarded rfl rfl (fun hG => PureOp.moveD (SLe.eq rfl)) rfl rfl ?_
  refine AO.guarded rfl rfl (fun hG => PureOp.buildSlice (e := 3) (sz := 1) (z := .int .i64 0) (rows := [[(iD 325)]]) (by kernel_rfl) (by kernel_rfl) rfl rfl rfl (.cons (SLe.eq rfl) rfl .nil) rfl rfl rfl rfl) rfl rfl ?_
  obtain ⟨g1, H⟩ := H
  obtain ⟨g2, H⟩ := H
  refine AO.guarded rfl rfl (fun hG => PureOp.callS (.cons (SLe.cnd rfl hG) (.cons (SLe.cnd rfl hG) .nil)) ((Vis.ints_any (corS ([(⟨1, 2, 0, 3, 100⟩ : api_Finding), (⟨4, 3, 0, 3, 250⟩ : api_Finding)] : List api_Finding) ([(⟨2, 1, 1000⟩ : api_Spent)] : List api_Spent)) ([325] : List Int) (g1 hG) (g2 hG)).any) (by kernel_rfl)) rfl rfl ?_
  obtain ⟨b2, hb2⟩ : ∃ b : Bool, b = (b1 && (decide ((corS ([(⟨1, 2, 0, 3, 100⟩ : api_Finding), (⟨4, 3, 0, 3, 250⟩ : api_Finding)] : List api_Finding) ([(⟨2, 1, 1000⟩ : api_Spent)] : List api_Spent)) = ([325] : List Int)))) := ⟨_, rfl⟩
  replace H := H b2 hb2
  refine AO.pure (r := .d (bD b2)) (by rw [hb2]; exact PureOp.pickAnd (SLe.eq rfl) rfl rfl (fun h => beq_t h)) rfl rfl ?_
  refine AO.pure (PureOp.moveD (SLe.eq rfl)) rfl rfl ?_
  refine AO.guarded rfl rfl (fun hG => PureOp.moveD (SLe.eq rfl)) rfl rfl ?_
  obtain ⟨b3, hb3⟩ : ∃ b : Bool, b = decide ((namE ([(⟨1, 2, 0, 3, 100⟩ : api_Finding), (⟨4, 3, 0, 3, 250⟩ : api_Finding)] : List api_Finding) ([(⟨2, 1, 1000⟩ : api_Spent)] : List api_Spent) 0) = 0) := ⟨_, rfl⟩
  replace H := H b3 hb3
  refine AO.guarded (r := .d (bD b3)) rfl rfl (fun hG => by rw [hb3]; exact PureOp.eql (SLe.cnd rfl hG) (SLe.eq rfl)) rfl rfl ?_
  refine AO.pure (PureOp.pickAnd (SLe.eq rfl) rfl rfl (fun h => beq_t h)) rfl rfl ?_
  refine AO.pure (PureOp.moveD (SLe.eq rfl)) rfl rfl ?_
  refine AO.guarded rfl rfl (fun hG => PureOp.moveD (SLe.eq rfl)) rfl rfl ?_
  refine AO.guarded rfl rfl (fun hG => PureOp.buildSlice (e := 3) (sz := 1) (z := .int .i64 0) (rows := [[(iD 1)], [(iD 4)]]) (by kernel_rfl) (by kernel_rfl) rfl rfl rfl (.cons (SLe.eq rfl) rfl (.cons (SLe.eq rfl) rfl .nil)) rfl rfl rfl rfl) rfl rfl ?_
  obtain ⟨g3, H⟩ := H
  obtain ⟨g4, H⟩ := H
  refine AO.guarded rfl rfl (fun hG => PureOp.callS (.cons (SLe.cnd rfl hG) (.cons (SLe.cnd rfl hG) .nil)) ((Vis.ints_any (namS ([(⟨1, 2, 0, 3, 100⟩ : api_Finding), (⟨4, 3, 0, 3, 250⟩ : api_Finding)] : List api_Finding) ([(⟨2, 1, 1000⟩ : api_Spent)] : List api_Spent) 0) ([1, 4] : List Int) (g3 hG) (g4 hG)).any) (by kernel_rfl)) rfl rfl ?_
  obtain ⟨b4, hb4⟩ : ∃ b : Bool, b = ((b2 && b3) && (decide ((namS ([(⟨1, 2, 0, 3, 100⟩ : api_Finding), (⟨4, 3, 0, 3, 250⟩ : api_Finding)] : List api_Finding) ([(⟨2, 1, 1000⟩ : api_Spent)] : List api_Spent) 0) = ([1, 4] : List Int)))) := ⟨_, rfl⟩
  replace H := H b4 hb4
  refine AO.pure (r := .d (bD b4)) (by rw [hb4]; exact PureOp.pickAnd (SLe.eq rfl) rfl rfl (fun h => beq_t h)) rfl rfl ?_
  refine AO.pure (PureOp.moveD (SLe.eq rfl)) rfl rfl ?_
  refine AO.guarded rfl rfl (fun hG => PureOp.callS (.cons (SLe.eq rfl) .nil) (bc_flat 2) (by kernel_rfl)) rfl rfl ?_
  refine AO.guarded rfl rfl (fun hG => PureOp.eql (SLe.cnd rfl hG) (SLe.eq rfl)) rfl rfl ?_
  refine AO.pure (PureOp.pickAnd (SLe.eq rfl) rfl rfl (fun h => beq_t h)) rfl rfl ?_
  refine AO.pure (PureOp.moveD (SLe.eq rfl)) rfl rfl ?_
  refine AO.guarded rfl rfl (fun hG => PureOp.moveD (SLe.eq rfl)) rfl rfl ?_
  refine AO.guarded rfl rfl (fun hG => PureOp.eql (SLe.cnd rfl hG) (SLe.eq rfl)) rfl rfl ?_
  refine AO.pure (PureOp.pickAnd (SLe.eq rfl) rfl rfl (fun h => beq_t h)) rfl rfl ?_
  refine AO.pure (PureOp.moveD (SLe.eq rfl)) rfl rfl ?_
  refine AO.guarded rfl rfl (fun hG => PureOp.moveD (SLe.eq rfl)) rfl rfl ?_
  refine AO.guarded rfl rfl (fun hG => PureOp.eql (SLe.cnd rfl hG) (SLe.eq rfl)) rfl rfl ?_
  refine AO.pure (PureOp.pickAnd (SLe.eq rfl) rfl rfl (fun h => beq_t h)) rfl rfl ?_
  refine AO.pure (PureOp.moveD (SLe.eq rfl)) rfl rfl ?_
  refine AO.guarded rfl rfl (fun hG => PureOp.callS (.cons (SLe.eq rfl) (.cons (SLe.eq rfl) .nil)) (b_down 9 2 (by decide)) (by kernel_rfl)) rfl rfl ?_
  refine AO.guarded rfl rfl (fun hG => PureOp.eql (SLe.cnd rfl hG) (SLe.eq rfl)) rfl rfl ?_
  refine AO.pure (PureOp.pickAnd (SLe.eq rfl) rfl rfl (fun h => beq_t h)) rfl rfl ?_
  refine AO.pure (PureOp.assignD (SLe.eq rfl)) rfl rfl ?_
  refine AO.nil ?_
  refine thenQ_normal ?_
  refine AC.ret ?_
  refine ⟨rfl, _, ?_, ResOf.one (GetR.any (r := (bD ((((b4 && decide ((flatI 2) = 50)) && decide ((extE 10 5 0 50) = 0)) && decide ((extV 10 5 0 50) = 300)) && decide (4 = 4)))) (SLe.eq rfl))⟩
  exact ⟨((((b4 && decide ((flatI 2) = 50)) && decide ((extE 10 5 0 50) = 0)) && decide ((extV 10 5 0 50) = 300)) && decide (4 = 4)), rfl, H⟩
theorem awk_sd : sd [100, 250] = [250, 100] := (sd_eq (l := [250, 100]) (List.Perm.swap 100 250 []) (by simp)).symm
theorem awk_s (Post : Bool → Prop) (h : Post true) : awk_W Post := by
  have k1 : chkC ([(⟨1, 2, 0, 3, 100⟩ : api_Finding), (⟨4, 3, 0, 3, 250⟩ : api_Finding)] : List api_Finding) ([(⟨2, 1, 1000⟩ : api_Spent)] : List api_Spent) = 0 := by decide
  have k2 : corS ([(⟨1, 2, 0, 3, 100⟩ : api_Finding), (⟨4, 3, 0, 3, 250⟩ : api_Finding)] : List api_Finding) ([(⟨2, 1, 1000⟩ : api_Spent)] : List api_Spent) = ([325] : List Int) := by
    have hf : (([(⟨1, 2, 0, 3, 100⟩ : api_Finding), (⟨4, 3, 0, 3, 250⟩ : api_Finding)] : List api_Finding).filter (fun f => conB f ⟨2, 1, 1000⟩)) = ([(⟨1, 2, 0, 3, 100⟩ : api_Finding), (⟨4, 3, 0, 3, 250⟩ : api_Finding)] : List api_Finding) := by decide
    unfold corS
    rw [if_pos k1]
    show [corOf ([(⟨1, 2, 0, 3, 100⟩ : api_Finding), (⟨4, 3, 0, 3, 250⟩ : api_Finding)] : List api_Finding) ⟨2, 1, 1000⟩] = [325]
    unfold corOf
    rw [hf]
    show [1000 - leftS (sd [100, 250]) 1000] = [325]
    rw [awk_sd]
    decide
  have k3 : namE ([(⟨1, 2, 0, 3, 100⟩ : api_Finding), (⟨4, 3, 0, 3, 250⟩ : api_Finding)] : List api_Finding) ([(⟨2, 1, 1000⟩ : api_Spent)] : List api_Spent) 0 = 0 := by
    unfold namE
    rw [if_pos k1]
    rfl
  have k4 : namS ([(⟨1, 2, 0, 3, 100⟩ : api_Finding), (⟨4, 3, 0, 3, 250⟩ : api_Finding)] : List api_Finding) ([(⟨2, 1, 1000⟩ : api_Spent)] : List api_Spent) 0 = ([1, 4] : List Int) := by
    unfold namS
    rw [if_pos k1]
    decide
  have k5 : flatI 2 = 50 := by decide
  have k6 : err 10 5 0 50 = 0 := by decide +kernel
  have k7 : rat 10 (upV 10 5 0 50) = 300 := by decide +kernel
  have k8 : extE 10 5 0 50 = 0 := k6
  have k9 : extV 10 5 0 50 = 300 := by
    unfold extV
    rw [if_pos k6]
    exact k7
  unfold awk_W
  rw [k1, k2, k3, k4]
  rintro b1 rfl
  refine ⟨fun _ => by simp, fun _ => by simp, ?_⟩
  rintro b2 rfl b3 rfl
  refine ⟨fun _ => by simp, fun _ => by simp, ?_⟩
  rintro b4 rfl
  rw [k5, k8, k9]
  first | exact ⟨⟨rfl, rfl⟩, h⟩ | exact ⟨fun _ => ⟨rfl, rfl⟩, h⟩ | exact h
theorem b_awake : FC Try.prog 15 [] (bD true) := FC.of1 (enc := fun y : Bool => bD y) (awk_w _ (awk_s _ rfl))
end Clr
end Eng
end Go.Proofs.Ytmmekdkllccmdaa
