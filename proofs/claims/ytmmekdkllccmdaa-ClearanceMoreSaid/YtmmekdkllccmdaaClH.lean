/-
  Chapter 41: the walk of ClearanceMore.
-/
import Derived.Test.YtmmekdkllccmdaaClG
import Derived.Test.YtmmekdkllccmdaaEgQ
namespace Go.Proofs.Ytmmekdkllccmdaa
open Go.RowKit
set_option linter.unusedVariables false
namespace Eng
namespace Clr
open Est (upV err rat)
def more_l1b (Post : Bool → Prop) (z1 : List api_Finding) (z2 : List api_Spent) (z3 : Int) (z4 : Int) (z5 : Int) (z6 : Int) (rec1 : Unit → Prop) (i1 : Nat) (x1 : api_Spent) (v1 : Unit) : Prop :=
  (((decide (z3 ≤ x1.Year) && decide (x1.Year ≤ w64 (z3 + z5))) == true) = true → 0 ≤ x1.Scheme) ∧ (inb (corS (z1 ++ ([(⟨100, z4, z3, w64 (z3 + z5), z6⟩ : api_Finding)] : List api_Finding)) z2) ((i1 : Nat) : Int)) ∧ (inb (corS z1 z2) ((i1 : Nat) : Int)) ∧ ∀ b2 : Bool, b2 = decide ((ix (corS (z1 ++ ([(⟨100, z4, z3, w64 (z3 + z5), z6⟩ : api_Finding)] : List api_Finding)) z2) ((i1 : Nat) : Int)) < (ix (corS z1 z2) ((i1 : Nat) : Int))) → ∀ b3 : Bool, b3 = (!decide ((ix (corS z1 z2) ((i1 : Nat) : Int)) = (ix (corS (z1 ++ ([(⟨100, z4, z3, w64 (z3 + z5), z6⟩ : api_Finding)] : List api_Finding)) z2) ((i1 : Nat) : Int)))) → (if (b2 || ((!((decide (z3 ≤ x1.Year) && decide (x1.Year ≤ w64 (z3 + z5))) && decide ((andK .i64 (shrK .i64 z4 x1.Scheme) 1) = 1))) && b3)) = true then Post false else rec1 ())
def more_l1e (Post : Bool → Prop) (v1 : Unit) : Prop :=
  Post true
def more_W  (Post : Bool → Prop) : Prop :=
  ∀ z1 : List api_Finding, (FGood z1) → ∀ z2 : List api_Spent, (SGood z2) → ∀ z3 : Int, (0 ≤ z3) → (z3 < 6 ∨ z3 = 0) → ∀ z4 : Int, (1 ≤ z4) → (z4 ≤ 15 ∨ z4 = 1) → ∀ z5 : Int, (0 ≤ z5) → (z5 < 3 ∨ z5 = 0) → ∀ z6 : Int, (1 ≤ z6) → (z6 ≤ 1000 ∨ z6 = 1) → (apOK 40 ([] : List api_Finding).length z1.length) ∧ (apOK 40 z1.length 1) ∧ ∀ b1 : Bool, b1 = (((!decide ((chkC z1 z2) = 0)) || (!decide ((chkC (z1 ++ ([(⟨100, z4, z3, w64 (z3 + z5), z6⟩ : api_Finding)] : List api_Finding)) z2) = 0))) || (!decide ((((corS z1 z2).length : Nat) : Int) = ((z2.length : Nat) : Int)))) → (if (b1 || (!decide ((((corS (z1 ++ ([(⟨100, z4, z3, w64 (z3 + z5), z6⟩ : api_Finding)] : List api_Finding)) z2).length : Nat) : Int) = ((z2.length : Nat) : Int)))) = true then Post false else forLI (more_l1b Post z1 z2 z3 z4 z5 z6) (more_l1e Post) 0 z2 ())
set_option maxRecDepth 100000 in
set_option maxHeartbeats 4000000 in
theorem more_w (w : World) (a : Option Addr) (len cap : Nat) (hi : Keep.IntsAt w a len cap) (H : more_W  (fun r => r = true)) : Calls Try.prog 5 #[.slice a len cap] w fun e w' => e = .returned (.bool true) ∧ Below w.heap.size w w' := by
  have hsrc := src_all hi
  obtain ⟨Post, hPost⟩ : ∃ Q : Bool → Prop, Q = (fun r => r = true) := ⟨_, rfl⟩
  rw [← hPost] at H
  refine law_of (S := allS w) (args := [.d (.v (.slice a len cap))]) (vals := [.slice a len cap]) Try.func5 rfl rfl rfl rfl rfl (fun _ _ h => h) rfl (fun i s u hs hu => ?_) ?_
  · match i, hs, hu with
    | 0, hs, hu =>
      have e1 := Option.some.inj hs; have e2 := Option.some.inj hu; subst e1 e2; exact .d _ _ (.v _)
    | n + 1, hs, hu => simp at hs
  unfold more_W at H
  refine AC.seq ?_
  refine AC.region ?_
  refine AO.pure (PureOp.assignD (SLe.eq rfl)) rfl rfl ?_
  refine AO.nil ?_
  refine thenQ_normal ?_
  refine AC.seq ?_
  refine AC.region ?_
  refine AO.pure (PureOp.moveD (SLe.eq rfl)) rfl rfl ?_
  refine AO.newT (SLe.eq rfl) hsrc (fun b hb => hb) (fun b hb => hb) rfl rfl rfl rfl ?_
  refine AO.pure (PureOp.assignT (SLe.eq rfl)) rfl rfl ?_
  refine AO.nil ?_
  refine thenQ_normal ?_
  refine AC.seq ?_
  refine AC.region ?_
  refine AO.pure (PureOp.moveT (SLe.eq rfl)) rfl rfl ?_
  refine AO.tcallS (.tp (SLe.eq rfl) .nil) (b_fin) rfl (by kernel_rfl) rfl ?_
  rintro _ ⟨z1, rfl, h1⟩
  replace H := H z1 h1
  refine AO.pure (PureOp.moveT (SLe.eq rfl)) rfl rfl ?_
  refine AO.tcallS (.tp (SLe.eq rfl) .nil) (b_spe) rfl (by kernel_rfl) rfl ?_
  rintro _ ⟨z2, rfl, h2⟩
  replace H := H z2 h2
  refine AO.pure (PureOp.assignD (SLe.eq rfl)) rfl rfl ?_
  refine AO.pure (PureOp.assignD (SLe.eq rfl)) rfl rfl ?_
  refine AO.nil ?_
  refine thenQ_normal ?_
  refine AC.seq ?_
  refine AC.region ?_
  refine AO.pure (PureOp.moveT (SLe.eq rfl)) rfl rfl ?_
  refine AO.tcallS (.tp (SLe.eq rfl) (.cons (SLe.eq rfl) .nil)) ((next_c 6 (by decide)).any) rfl (by kernel_rfl) rfl ?_
  rintro _ ⟨z3, rfl, h3, h4⟩
  replace H := H z3 h3 h4
  refine AO.pure (PureOp.assignD (SLe.eq rfl)) rfl rfl ?_
  refine AO.nil ?_
  refine thenQ_normal ?_
  refine AC.seq ?_
  refine AC.region ?_
  refine AO.pure (PureOp.moveT (SLe.eq rfl)) rfl rfl ?_
  refine AO.tcallS (.tp (SLe.eq rfl) (.cons (SLe.eq rfl) (.cons (SLe.eq rfl) .nil))) ((range_c 1 15 (by decide) (by decide) (by decide) (by decide)).any) rfl (by kernel_rfl) rfl ?_
  rintro _ ⟨z4, rfl, h5, h6⟩
  replace H := H z4 h5 h6
  refine AO.pure (PureOp.moveD (SLe.eq rfl)) rfl rfl ?_
  refine AO.pure (PureOp.moveD (SLe.eq rfl)) rfl rfl ?_
  refine AO.pure (PureOp.moveT (SLe.eq rfl)) rfl rfl ?_
  refine AO.tcallS (.tp (SLe.eq rfl) (.cons (SLe.eq rfl) .nil)) ((next_c 3 (by decide)).any) rfl (by kernel_rfl) rfl ?_
  rintro _ ⟨z5, rfl, h7, h8⟩
  replace H := H z5 h7 h8
  refine AO.pure (PureOp.addW (SLe.eq rfl) (SLe.eq rfl)) rfl rfl ?_
  refine AO.pure (PureOp.moveT (SLe.eq rfl)) rfl rfl ?_
  refine AO.tcallS (.tp (SLe.eq rfl) (.cons (SLe.eq rfl) (.cons (SLe.eq rfl) .nil))) ((range_c 1 1000 (by decide) (by decide) (by decide) (by decide)).any) rfl (by kernel_rfl) rfl ?_
  rintro _ ⟨z6, rfl, h9, h10⟩
  replace H := H z6 h9 h10
  refine AO.pure (PureOp.build (ds := [(iD 100), (iD z4), (iD z3), (iD (w64 (z3 + z5))), (iD z6)]) (z := .agg #[.int .i64 0, .int .i64 0, .int .i64 0, .int .i64 0, .int .i64 0]) (pl := [(0, 1), (1, 1), (2, 1), (3, 1), (4, 1)]) (by kernel_rfl) rfl (by kernel_rfl) (.cons (SLe.eq rfl) rfl (.cons (SLe.eq rfl) rfl (.cons (SLe.eq rfl) rfl (.cons (SLe.eq rfl) rfl (.cons (SLe.eq rfl) rfl .nil))))) rfl rfl) rfl rfl ?_
  refine AO.alloc (z := .agg #[.int .i64 0, .int .i64 0, .int .i64 0, .int .i64 0, .int .i64 0]) (by kernel_rfl) rfl rfl rfl ?_
  refine AO.store (SLe.eq rfl) (SLe.eq rfl) rfl rfl rfl rfl rfl (by kernel_rfl) rfl rfl ?_
  refine AO.nil ?_
  refine thenQ_normal ?_
  refine AC.seq ?_
  obtain ⟨g1, H⟩ := H
  obtain ⟨g2, H⟩ := H
  refine AC.drawAll ⟨[(4, .d (.sl 5 (z1.map api_Finding.av))), (5, .d (.sl 3 (z2.map api_Spent.av))), (7, .bx 0 0), (8, .os 3)], [(0, [.d (iD 100), .d (iD z4), .d (iD z3), .d (iD (w64 (z3 + z5))), .d (iD z6)])], [(3, ⟨32, 5, (z1 ++ ([(⟨100, z4, z3, w64 (z3 + z5), z6⟩ : api_Finding)] : List api_Finding)).map api_Finding.av⟩)], 4, true, 132⟩ (by kernel_rfl) rfl ?_ ?_
  · skip
    refine AD.take (i := 1) (s := .d (.sl 5 (z1.map api_Finding.av))) rfl (SLe.eq rfl) rfl rfl (by kernel_rfl) (by kernel_rfl) (by kernel_rfl) ?_
    refine AD.step (rs := [0, 3]) (by kernel_rfl) rfl (ADs.cons rfl ?_ (ADs.cons rfl ?_ ADs.nil))
    · skip
      refine AO.buildOwn (e := 32) (sz := 5) (z := .agg #[.int .i64 0, .int .i64 0, .int .i64 0, .int .i64 0, .int .i64 0]) (rows := []) (by kernel_rfl) (by kernel_rfl) rfl rfl rfl .nil rfl rfl rfl rfl rfl rfl ?_
      refine AO.nil ?_
      refine AD.step (rs := [2, 3]) (by kernel_rfl) rfl (ADs.cons rfl ?_ (ADs.cons rfl ?_ ADs.nil))
      · skip
        refine AO.appendL (e := 32) (sz := 5) (bs := 40) (av := api_Finding.av) ([] : List api_Finding) z1 (SLe.eq rfl) rfl (SLe.eq rfl) (by kernel_rfl) g1 rfl ?_
        refine AO.nil ?_
        refine AD.step (rs := [3]) (by kernel_rfl) rfl (ADs.cons rfl ?_ ADs.nil)
        refine AO.pure (PureOp.loadBN (sz := 5) (ds := [(iD 100), (iD z4), (iD z3), (iD (w64 (z3 + z5))), (iD z6)]) (SLe.eq rfl) rfl rfl rfl rfl (by kernel_rfl)) rfl rfl ?_
        refine AO.nil ?_
        refine AD.step (rs := [4]) (by kernel_rfl) rfl (ADs.cons rfl ?_ ADs.nil)
        refine AO.pure (PureOp.buildSlice (e := 32) (sz := 5) (z := .agg #[.int .i64 0, .int .i64 0, .int .i64 0, .int .i64 0, .int .i64 0]) (rows := [[(iD 100), (iD z4), (iD z3), (iD (w64 (z3 + z5))), (iD z6)]]) (by kernel_rfl) (by kernel_rfl) rfl rfl rfl (.cons (SLe.eq rfl) rfl .nil) rfl rfl rfl rfl) rfl rfl ?_
        refine AO.nil ?_
        refine AD.step (rs := [5]) (by kernel_rfl) rfl (ADs.cons rfl ?_ ADs.nil)
        refine AO.appendL (e := 32) (sz := 5) (bs := 40) (av := api_Finding.av) z1 ([(⟨100, z4, z3, w64 (z3 + z5), z6⟩ : api_Finding)] : List api_Finding) (SLe.eq rfl) rfl (SLe.eq rfl) (by kernel_rfl) g2 rfl ?_
        refine AO.nil ?_
        refine AD.step (rs := [6]) (by kernel_rfl) rfl (ADs.cons rfl ?_ ADs.nil)
        refine AO.pure (PureOp.assignO (SLe.eq rfl)) rfl rfl ?_
        refine AO.nil ?_
        refine AD.done (by kernel_rfl) ?_
        exact Le.mk [(3, 3)] ⟨⟨SLe.eq rfl, rfl⟩, ⟨SLe.eq rfl, rfl⟩, ⟨SLe.eq rfl, rfl⟩, rfl, trivial⟩ ⟨⟨_, rfl, ⟨⟨SLe.eq rfl, rfl⟩, ⟨SLe.eq rfl, rfl⟩, ⟨SLe.eq rfl, rfl⟩, ⟨SLe.eq rfl, rfl⟩, ⟨SLe.eq rfl, rfl⟩, trivial⟩⟩, trivial⟩ ⟨⟨_, rfl, rfl⟩, trivial⟩ rfl rfl rfl rfl rfl
      · skip
        refine AO.pure (PureOp.loadBN (sz := 5) (ds := [(iD 100), (iD z4), (iD z3), (iD (w64 (z3 + z5))), (iD z6)]) (SLe.eq rfl) rfl rfl rfl rfl (by kernel_rfl)) rfl rfl ?_
        refine AO.nil ?_
        refine AD.step (rs := [2, 4]) (by kernel_rfl) rfl (ADs.cons rfl ?_ (ADs.cons rfl ?_ ADs.nil))
        · skip
          refine AO.appendL (e := 32) (sz := 5) (bs := 40) (av := api_Finding.av) ([] : List api_Finding) z1 (SLe.eq rfl) rfl (SLe.eq rfl) (by kernel_rfl) g1 rfl ?_
          refine AO.nil ?_
          refine AD.step (rs := [4]) (by kernel_rfl) rfl (ADs.cons rfl ?_ ADs.nil)
          refine AO.pure (PureOp.buildSlice (e := 32) (sz := 5) (z := .agg #[.int .i64 0, .int .i64 0, .int .i64 0, .int .i64 0, .int .i64 0]) (rows := [[(iD 100), (iD z4), (iD z3), (iD (w64 (z3 + z5))), (iD z6)]]) (by kernel_rfl) (by kernel_rfl) rfl rfl rfl (.cons (SLe.eq rfl) rfl .nil) rfl rfl rfl rfl) rfl rfl ?_
          refine AO.nil ?_
          refine AD.step (rs := [5]) (by kernel_rfl) rfl (ADs.cons rfl ?_ ADs.nil)
          refine AO.appendL (e := 32) (sz := 5) (bs := 40) (av := api_Finding.av) z1 ([(⟨100, z4, z3, w64 (z3 + z5), z6⟩ : api_Finding)] : List api_Finding) (SLe.eq rfl) rfl (SLe.eq rfl) (by kernel_rfl) g2 rfl ?_
          refine AO.nil ?_
          refine AD.step (rs := [6]) (by kernel_rfl) rfl (ADs.cons rfl ?_ ADs.nil)
          refine AO.pure (PureOp.assignO (SLe.eq rfl)) rfl rfl ?_
          refine AO.nil ?_
          refine AD.done (by kernel_rfl) ?_
          exact Le.mk [(3, 3)] ⟨⟨SLe.eq rfl, rfl⟩, ⟨SLe.eq rfl, rfl⟩, ⟨SLe.eq rfl, rfl⟩, rfl, trivial⟩ ⟨⟨_, rfl, ⟨⟨SLe.eq rfl, rfl⟩, ⟨SLe.eq rfl, rfl⟩, ⟨SLe.eq rfl, rfl⟩, ⟨SLe.eq rfl, rfl⟩, ⟨SLe.eq rfl, rfl⟩, trivial⟩⟩, trivial⟩ ⟨⟨_, rfl, rfl⟩, trivial⟩ rfl rfl rfl rfl rfl
        · skip
          refine AO.pure (PureOp.buildSlice (e := 32) (sz := 5) (z := .agg #[.int .i64 0, .int .i64 0, .int .i64 0, .int .i64 0, .int .i64 0]) (rows := [[(iD 100), (iD z4), (iD z3), (iD (w64 (z3 + z5))), (iD z6)]]) (by kernel_rfl) (by kernel_rfl) rfl rfl rfl (.cons (SLe.eq rfl) rfl .nil) rfl rfl rfl rfl) rfl rfl ?_
          refine AO.nil ?_
          refine AD.step (rs := [2]) (by kernel_rfl) rfl (ADs.cons rfl ?_ ADs.nil)
          refine AO.appendL (e := 32) (sz := 5) (bs := 40) (av := api_Finding.av) ([] : List api_Finding) z1 (SLe.eq rfl) rfl (SLe.eq rfl) (by kernel_rfl) g1 rfl ?_
          refine AO.nil ?_
          refine AD.step (rs := [5]) (by kernel_rfl) rfl (ADs.cons rfl ?_ ADs.nil)
          refine AO.appendL (e := 32) (sz := 5) (bs := 40) (av := api_Finding.av) z1 ([(⟨100, z4, z3, w64 (z3 + z5), z6⟩ : api_Finding)] : List api_Finding) (SLe.eq rfl) rfl (SLe.eq rfl) (by kernel_rfl) g2 rfl ?_
          refine AO.nil ?_
          refine AD.step (rs := [6]) (by kernel_rfl) rfl (ADs.cons rfl ?_ ADs.nil)
          refine AO.pure (PureOp.assignO (SLe.eq rfl)) rfl rfl ?_
          refine AO.nil ?_
          refine AD.done (by kernel_rfl) ?_
          exact Le.mk [(3, 3)] ⟨⟨SLe.eq rfl, rfl⟩, ⟨SLe.eq rfl, rfl⟩, ⟨SLe.eq rfl, rfl⟩, rfl, trivial⟩ ⟨⟨_, rfl, ⟨⟨SLe.eq rfl, rfl⟩, ⟨SLe.eq rfl, rfl⟩, ⟨SLe.eq rfl, rfl⟩, ⟨SLe.eq rfl, rfl⟩, ⟨SLe.eq rfl, rfl⟩, trivial⟩⟩, trivial⟩ ⟨⟨_, rfl, rfl⟩, trivial⟩ rfl rfl rfl rfl rfl
    · skip
      refine AO.pure (PureOp.loadBN (sz := 5) (ds := [(iD 100), (iD z4), (iD z3), (iD (w64 (z3 + z5))), (iD z6)]) (SLe.eq rfl) rfl rfl rfl rfl (by kernel_rfl)) rfl rfl ?_
      refine AO.nil ?_
      refine AD.step (rs := [0, 4]) (by kernel_rfl) rfl (ADs.cons rfl ?_ (ADs.cons rfl ?_ ADs.nil))
      · skip
        refine AO.buildOwn (e := 32) (sz := 5) (z := .agg #[.int .i64 0, .int .i64 0, .int .i64 0, .int .i64 0, .int .i64 0]) (rows := []) (by kernel_rfl) (by kernel_rfl) rfl rfl rfl .nil rfl rfl rfl rfl rfl rfl ?_
        refine AO.nil ?_
        refine AD.step (rs := [2, 4]) (by kernel_rfl) rfl (ADs.cons rfl ?_ (ADs.cons rfl ?_ ADs.nil))
        · skip
          refine AO.appendL (e := 32) (sz := 5) (bs := 40) (av := api_Finding.av) ([] : List api_Finding) z1 (SLe.eq rfl) rfl (SLe.eq rfl) (by kernel_rfl) g1 rfl ?_
          refine AO.nil ?_
          refine AD.step (rs := [4]) (by kernel_rfl) rfl (ADs.cons rfl ?_ ADs.nil)
          refine AO.pure (PureOp.buildSlice (e := 32) (sz := 5) (z := .agg #[.int .i64 0, .int .i64 0, .int .i64 0, .int .i64 0, .int .i64 0]) (rows := [[(iD 100), (iD z4), (iD z3), (iD (w64 (z3 + z5))), (iD z6)]]) (by kernel_rfl) (by kernel_rfl) rfl rfl rfl (.cons (SLe.eq rfl) rfl .nil) rfl rfl rfl rfl) rfl rfl ?_
          refine AO.nil ?_
          refine AD.step (rs := [5]) (by kernel_rfl) rfl (ADs.cons rfl ?_ ADs.nil)
          refine AO.appendL (e := 32) (sz := 5) (bs := 40) (av := api_Finding.av) z1 ([(⟨100, z4, z3, w64 (z3 + z5), z6⟩ : api_Finding)] : List api_Finding) (SLe.eq rfl) rfl (SLe.eq rfl) (by kernel_rfl) g2 rfl ?_
          refine AO.nil ?_
          refine AD.step (rs := [6]) (by kernel_rfl) rfl (ADs.cons rfl ?_ ADs.nil)
          refine AO.pure (PureOp.assignO (SLe.eq rfl)) rfl rfl ?_
          refine AO.nil ?_
          refine AD.done (by kernel_rfl) ?_
          exact Le.mk [(3, 3)] ⟨⟨SLe.eq rfl, rfl⟩, ⟨SLe.eq rfl, rfl⟩, ⟨SLe.eq rfl, rfl⟩, rfl, trivial⟩ ⟨⟨_, rfl, ⟨⟨SLe.eq rfl, rfl⟩, ⟨SLe.eq rfl, rfl⟩, ⟨SLe.eq rfl, rfl⟩, ⟨SLe.eq rfl, rfl⟩, ⟨SLe.eq rfl, rfl⟩, trivial⟩⟩, trivial⟩ ⟨⟨_, rfl, rfl⟩, trivial⟩ rfl rfl rfl rfl rfl
        · skip
          refine AO.pure (PureOp.buildSlice (e := 32) (sz := 5) (z := .agg #[.int .i64 0, .int .i64 0, .int .i64 0, .int .i64 0, .int .i64 0]) (rows := [[(iD 100), (iD z4), (iD z3), (iD (w64 (z3 + z5))), (iD z6)]]) (by kernel_rfl) (by kernel_rfl) rfl rfl rfl (.cons (SLe.eq rfl) rfl .nil) rfl rfl rfl rfl) rfl rfl ?_
          refine AO.nil ?_
          refine AD.step (rs := [2]) (by kernel_rfl) rfl (ADs.cons rfl ?_ ADs.nil)
          refine AO.appendL (e := 32) (sz := 5) (bs := 40) (av := api_Finding.av) ([] : List api_Finding) z1 (SLe.eq rfl) rfl (SLe.eq rfl) (by kernel_rfl) g1 rfl ?_
          refine AO.nil ?_
          refine AD.step (rs := [5]) (by kernel_rfl) rfl (ADs.cons rfl ?_ ADs.nil)
          refine AO.appendL (e := 32) (sz := 5) (bs := 40) (av := api_Finding.av) z1 ([(⟨100, z4, z3, w64 (z3 + z5), z6⟩ : api_Finding)] : List api_Finding) (SLe.eq rfl) rfl (SLe.eq rfl) (by kernel_rfl) g2 rfl ?_
          refine AO.nil ?_
          refine AD.step (rs := [6]) (by kernel_rfl) rfl (ADs.cons rfl ?_ ADs.nil)
          refine AO.pure (PureOp.assignO (SLe.eq rfl)) rfl rfl ?_
          refine AO.nil ?_
          refine AD.done (by kernel_rfl) ?_
          exact Le.mk [(3, 3)] ⟨⟨SLe.eq rfl, rfl⟩, ⟨SLe.eq rfl, rfl⟩, ⟨SLe.eq rfl, rfl⟩, rfl, trivial⟩ ⟨⟨_, rfl, ⟨⟨SLe.eq rfl, rfl⟩, ⟨SLe.eq rfl, rfl⟩, ⟨SLe.eq rfl, rfl⟩, ⟨SLe.eq rfl, rfl⟩, ⟨SLe.eq rfl, rfl⟩, trivial⟩⟩, trivial⟩ ⟨⟨_, rfl, rfl⟩, trivial⟩ rfl rfl rfl rfl rfl
      · skip
        refine AO.pure (PureOp.buildSlice (e := 32) (sz := 5) (z := .agg #[.int .i64 0, .int .i64 0, .int .i64 0, .int .i64 0, .int .i64 0]) (rows := [[(iD 100), (iD z4), (iD z3), (iD (w64 (z3 + z5))), (iD z6)]]) (by kernel_rfl) (by kernel_rfl) rfl rfl rfl (.cons (SLe.eq rfl) rfl .nil) rfl rfl rfl rfl) rfl rfl ?_
        refine AO.nil ?_
        refine AD.step (rs := [0]) (by kernel_rfl) rfl (ADs.cons rfl ?_ ADs.nil)
        refine AO.buildOwn (e := 32) (sz := 5) (z := .agg #[.int .i64 0, .int .i64 0, .int .i64 0, .int .i64 0, .int .i64 0]) (rows := []) (by kernel_rfl) (by kernel_rfl) rfl rfl rfl .nil rfl rfl rfl rfl rfl rfl ?_
        refine AO.nil ?_
        refine AD.step (rs := [2]) (by kernel_rfl) rfl (ADs.cons rfl ?_ ADs.nil)
        refine AO.appendL (e := 32) (sz := 5) (bs := 40) (av := api_Finding.av) ([] : List api_Finding) z1 (SLe.eq rfl) rfl (SLe.eq rfl) (by kernel_rfl) g1 rfl ?_
        refine AO.nil ?_
        refine AD.step (rs := [5]) (by kernel_rfl) rfl (ADs.cons rfl ?_ ADs.nil)
        refine AO.appendL (e := 32) (sz := 5) (bs := 40) (av := api_Finding.av) z1 ([(⟨100, z4, z3, w64 (z3 + z5), z6⟩ : api_Finding)] : List api_Finding) (SLe.eq rfl) rfl (SLe.eq rfl) (by kernel_rfl) g2 rfl ?_
        refine AO.nil ?_
        refine AD.step (rs := [6]) (by kernel_rfl) rfl (ADs.cons rfl ?_ ADs.nil)
        refine AO.pure (PureOp.assignO (SLe.eq rfl)) rfl rfl ?_
        refine AO.nil ?_
        refine AD.done (by kernel_rfl) ?_
        exact Le.mk [(3, 3)] ⟨⟨SLe.eq rfl, rfl⟩, ⟨SLe.eq rfl, rfl⟩, ⟨SLe.eq rfl, rfl⟩, rfl, trivial⟩ ⟨⟨_, rfl, ⟨⟨SLe.eq rfl, rfl⟩, ⟨SLe.eq rfl, rfl⟩, ⟨SLe.eq rfl, rfl⟩, ⟨SLe.eq rfl, rfl⟩, ⟨SLe.eq rfl, rfl⟩, trivial⟩⟩, trivial⟩ ⟨⟨_, rfl, rfl⟩, trivial⟩ rfl rfl rfl rfl rfl
  refine thenQ_normal ?_
  refine AC.seq ?_
  refine AC.region ?_
  refine AO.pure (PureOp.moveD (SLe.eq rfl)) rfl rfl ?_
  refine AO.pure (PureOp.moveD (SLe.eq rfl)) rfl rfl ?_
  refine AO.pure (PureOp.callS (.cons (SLe.eq rfl) (.cons (SLe.eq rfl) .nil)) (bc_cor z1 z2) (by kernel_rfl)) rfl rfl ?_
  refine AO.pure (PureOp.moveD (SLe.eq rfl)) rfl rfl ?_
  refine AO.pure (PureOp.extract (c := (.sl 1 ((corS z1 z2).map avI))) (SLe.eq rfl) rfl) rfl rfl ?_
  refine AO.pure (PureOp.extract (c := (iD (chkC z1 z2))) (SLe.eq rfl) rfl) rfl rfl ?_
  refine AO.pure (PureOp.assignD (SLe.eq rfl)) rfl rfl ?_
  refine AO.pure (PureOp.assignD (SLe.eq rfl)) rfl rfl ?_
  refine AO.nil ?_
  refine thenQ_normal ?_
  refine AC.seq ?_
  refine AC.region ?_
  refine AO.pure (PureOp.moveO (SLe.eq rfl)) rfl rfl ?_
  refine AO.pure (PureOp.moveD (SLe.eq rfl)) rfl rfl ?_
  refine AO.le (Le.frz 3 32 5 ((z1 ++ ([(⟨100, z4, z3, w64 (z3 + z5), z6⟩ : api_Finding)] : List api_Finding)).map api_Finding.av) rfl rfl) ?_
  refine AO.pure (PureOp.callS (.cons (SLe.eq rfl) (.cons (SLe.eq rfl) .nil)) (bc_cor (z1 ++ ([(⟨100, z4, z3, w64 (z3 + z5), z6⟩ : api_Finding)] : List api_Finding)) z2) (by kernel_rfl)) rfl rfl ?_
  refine AO.pure (PureOp.moveD (SLe.eq rfl)) rfl rfl ?_
  refine AO.pure (PureOp.extract (c := (.sl 1 ((corS (z1 ++ ([(⟨100, z4, z3, w64 (z3 + z5), z6⟩ : api_Finding)] : List api_Finding)) z2).map avI))) (SLe.eq rfl) rfl) rfl rfl ?_
  refine AO.pure (PureOp.extract (c := (iD (chkC (z1 ++ ([(⟨100, z4, z3, w64 (z3 + z5), z6⟩ : api_Finding)] : List api_Finding)) z2))) (SLe.eq rfl) rfl) rfl rfl ?_
  refine AO.pure (PureOp.assignD (SLe.eq rfl)) rfl rfl ?_
  refine AO.pure (PureOp.assignD (SLe.eq rfl)) rfl rfl ?_
  refine AO.nil ?_
  refine thenQ_normal ?_
  refine AC.seq ?_
  refine AC.seq ?_
  refine AC.region ?_
  refine AO.pure (PureOp.moveD (SLe.eq rfl)) rfl rfl ?_
  refine AO.pure (PureOp.neq (SLe.eq rfl) (SLe.eq rfl)) rfl rfl ?_
  refine AO.pure (PureOp.moveD (SLe.eq rfl)) rfl rfl ?_
  refine AO.guarded rfl rfl (fun hG => PureOp.moveD (SLe.eq rfl)) rfl rfl ?_
  refine AO.guarded rfl rfl (fun hG => PureOp.neq (SLe.cnd rfl hG) (SLe.eq rfl)) rfl rfl ?_
  refine AO.pure (PureOp.pickOr (SLe.eq rfl) rfl rfl (fun h => beq_f h)) rfl rfl ?_
  refine AO.pure (PureOp.moveD (SLe.eq rfl)) rfl rfl ?_
  refine AO.guarded rfl rfl (fun hG => PureOp.moveD (SLe.eq rfl)) rfl rfl ?_
  refine AO.guarded rfl rfl (fun hG => PureOp.lenL (e := 3) (s' := 1) (sz := 1) (l := (corS z1 z2)) (av := avI) (SLe.cnd rfl hG) (by kernel_rfl)) rfl rfl ?_
  refine AO.guarded rfl rfl (fun hG => PureOp.moveD (SLe.eq rfl)) rfl rfl ?_
  refine AO.guarded rfl rfl (fun hG => PureOp.lenL (e := 36) (s' := 3) (sz := 3) (l := z2) (av := api_Spent.av) (SLe.cnd rfl hG) (by kernel_rfl)) rfl rfl ?_
  refine AO.guarded rfl rfl (fun hG => PureOp.neq (SLe.cnd rfl hG) (SLe.cnd rfl hG)) rfl rfl ?_
  obtain ⟨b1, hb1⟩ : ∃ b : Bool, b = (((!decide ((chkC z1 z2) = 0)) || (!decide ((chkC (z1 ++ ([(⟨100, z4, z3, w64 (z3 + z5), z6⟩ : api_Finding)] : List api_Finding)) z2) = 0))) || (!decide ((((corS z1 z2).length : Nat) : Int) = ((z2.length : Nat) : Int)))) := ⟨_, rfl⟩
  replace H := H b1 hb1
  refine AO.pure (r := .d (bD b1)) (by rw [hb1]; exact PureOp.pickOr (SLe.eq rfl) rfl rfl (fun h => beq_f h)) rfl rfl ?_
  refine AO.pure (PureOp.moveD (SLe.eq rfl)) rfl rfl ?_
  refine AO.guarded rfl rfl (fun hG => PureOp.moveD (SLe.eq rfl)) rfl rfl ?_
  refine AO.guarded rfl rfl (fun hG => PureOp.lenL (e := 3) (s' := 1) (sz := 1) (l := (corS (z1 ++ ([(⟨100, z4, z3, w64 (z3 + z5), z6⟩ : api_Finding)] : List api_Finding)) z2)) (av := avI) (SLe.cnd rfl hG) (by kernel_rfl)) rfl rfl ?_
  refine AO.guarded rfl rfl (fun hG => PureOp.moveD (SLe.eq rfl)) rfl rfl ?_
  refine AO.guarded rfl rfl (fun hG => PureOp.lenL (e := 36) (s' := 3) (sz := 3) (l := z2) (av := api_Spent.av) (SLe.cnd rfl hG) (by kernel_rfl)) rfl rfl ?_
  refine AO.guarded rfl rfl (fun hG => PureOp.neq (SLe.cnd rfl hG) (SLe.cnd rfl hG)) rfl rfl ?_
  refine AO.pure (PureOp.pickOr (SLe.eq rfl) rfl rfl (fun h => beq_f h)) rfl rfl ?_
  refine AO.nil ?_
  refine thenQ_normal ?_
  refine AC.cond (SLe.eq rfl) (fun hb => ?_) (fun hb => ?_)
  · skip
    replace H := ite_t H hb
    refine AC.seq ?_
    refine AC.region ?_
    refine AO.pure (PureOp.assignD (SLe.eq rfl)) rfl rfl ?_
    refine AO.nil ?_
    refine thenQ_normal ?_
    refine AC.ret ?_
    refine thenQ_ret ?_
    refine ⟨rfl, _, ?_, ResOf.one (GetR.flat (SLe.eq rfl) rfl)⟩
    exact congrArg (fun b => D.v (.bool b)) (lawpost hPost H)
  · skip
    replace H := ite_f H hb
    refine AC.skip ?_
    refine thenQ_normal ?_
    refine AC.seq ?_
    refine AC.seq ?_
    refine AC.region ?_
    refine AO.pure (PureOp.moveD (SLe.eq rfl)) rfl rfl ?_
    refine AO.pure (PureOp.lenL (e := 36) (s' := 3) (sz := 3) (l := z2) (av := api_Spent.av) (SLe.eq rfl) (by kernel_rfl)) rfl rfl ?_
    refine AO.pure (PureOp.moveD (SLe.eq rfl)) rfl rfl ?_
    refine AO.nil ?_
    refine thenQ_normal ?_
    refine AC.block ?_
    refine AC.loop (ι := Nat × Unit) (fun q => ⟨[(5, .d (.sl 3 (z2.map api_Spent.av))), (7, .bx 0 0), (9, .d (.sl 1 ((corS z1 z2).map avI))), (11, .d (.sl 1 ((corS (z1 ++ ([(⟨100, z4, z3, w64 (z3 + z5), z6⟩ : api_Finding)] : List api_Finding)) z2).map avI))), (72, .d (iD ((z2.length : Nat) : Int))), (73, .d (iD ((q.1 : Nat) : Int)))], [(0, [.d (iD 100), .d (iD z4), .d (iD z3), .d (iD (w64 (z3 + z5))), .d (iD z6)])], [], 4, true, 132⟩) (fun q => q.1 ≤ z2.length ∧ forLI (more_l1b Post z1 z2 z3 z4 z5 z6) (more_l1e Post) q.1 (z2.drop q.1) q.2) (fun q => z2.length - q.1) (0, ()) ?_ ⟨Nat.zero_le _, H⟩ ?_
    · skip
      exact Le.mk [] ⟨⟨SLe.eq rfl, rfl⟩, ⟨SLe.eq rfl, rfl⟩, ⟨SLe.eq rfl, rfl⟩, ⟨SLe.eq rfl, rfl⟩, ⟨SLe.eq rfl, rfl⟩, (by first | exact ⟨SLe.eq rfl, rfl⟩ | exact ⟨SLe.int rfl (by omega), rfl⟩), trivial⟩ ⟨⟨_, rfl, ⟨⟨SLe.eq rfl, rfl⟩, ⟨SLe.eq rfl, rfl⟩, ⟨SLe.eq rfl, rfl⟩, ⟨SLe.eq rfl, rfl⟩, ⟨SLe.eq rfl, rfl⟩, trivial⟩⟩, trivial⟩ trivial rfl rfl rfl rfl rfl
    · rintro ⟨i1, v1⟩ ⟨hi1, H⟩
      dsimp only at hi1 H
      change AC _ _ _ _ _ ⟨[(5, .d (.sl 3 (z2.map api_Spent.av))), (7, .bx 0 0), (9, .d (.sl 1 ((corS z1 z2).map avI))), (11, .d (.sl 1 ((corS (z1 ++ ([(⟨100, z4, z3, w64 (z3 + z5), z6⟩ : api_Finding)] : List api_Finding)) z2).map avI))), (72, .d (iD ((z2.length : Nat) : Int))), (73, .d (iD ((i1 : Nat) : Int)))], [(0, [.d (iD 100), .d (iD z4), .d (iD z3), .d (iD (w64 (z3 + z5))), .d (iD z6)])], [], 4, true, 132⟩ _
      obtain ⟨rec1, hrec1⟩ : ∃ r, r = forLI (more_l1b Post z1 z2 z3 z4 z5 z6) (more_l1e Post) (i1 + 1) (z2.drop (i1 + 1)) := ⟨_, rfl⟩
      refine AC.seq ?_
      refine AC.region ?_
      refine AO.pure (PureOp.lss (SLe.eq rfl) (SLe.eq rfl)) rfl rfl ?_
      refine AO.nil ?_
      refine thenQ_normal ?_
      refine AC.seq ?_
      refine AC.cond (SLe.eq rfl) (fun hb => ?_) (fun hb => ?_)
      · skip
        obtain ⟨x1, hx1, hd1, hlt1⟩ := drop_at (l := z2) (i := i1) hb
        rw [hd1] at H
        replace H := forLI_step H
        rw [← hrec1] at H
        unfold more_l1b at H
        refine AC.len (av := api_Spent.av) (l := z2) (t := 5) (SLe.eq rfl) (fun hL1 => ?_)
        refine AC.skip ?_
        refine thenQ_normal ?_
        refine AC.seq ?_
        refine AC.block ?_
        refine AC.seq ?_
        refine AC.region ?_
        refine AO.pure (PureOp.moveD (SLe.eq rfl)) rfl rfl ?_
        refine AO.pure (PureOp.assignD (SLe.eq rfl)) rfl rfl ?_
        refine AO.nil ?_
        refine thenQ_normal ?_
        refine AC.seq ?_
        refine AC.drawN 31 [] (by kernel_rfl) (by kernel_rfl) (by kernel_rfl) .nil (by kernel_rfl) ?_
        refine PSeqN.pure (PureOp.fldB (k := 2) (SLe.eq rfl) (by kernel_rfl)) rfl rfl ?_
        refine PSeqN.pure (PureOp.loadB1 (s := .d (iD z3)) (SLe.eq rfl) rfl rfl (by kernel_rfl)) rfl rfl ?_
        refine PSeqN.pure (PureOp.moveD (SLe.eq rfl)) rfl rfl ?_
        refine PSeqN.pure (PureOp.moveD (SLe.eq rfl)) rfl rfl ?_
        refine PSeqN.pure (PureOp.idxE (e := 36) (sz := 3) (av := api_Spent.av) (l := z2) (n := i1) (z := x1) (SLe.eq rfl) (SLe.eq rfl) rfl hx1 (by kernel_rfl)) rfl rfl ?_
        refine PSeqN.pure (PureOp.fld (k := 0) (SLe.eq rfl) (by kernel_rfl)) rfl rfl ?_
        refine PSeqN.pure (PureOp.load1 (c := (iD x1.Year)) (SLe.eq rfl) rfl (by kernel_rfl)) rfl rfl ?_
        refine PSeqN.pure (PureOp.leq (SLe.eq rfl) (SLe.eq rfl)) rfl rfl ?_
        refine PSeqN.pure (PureOp.moveD (SLe.eq rfl)) rfl rfl ?_
        refine PSeqN.guarded rfl rfl (fun hG => PureOp.moveD (SLe.eq rfl)) rfl rfl ?_
        refine PSeqN.guarded rfl rfl (fun hG => PureOp.moveD (SLe.eq rfl)) rfl rfl ?_
        refine PSeqN.guarded rfl rfl (fun hG => PureOp.idxE (e := 36) (sz := 3) (av := api_Spent.av) (l := z2) (n := i1) (z := x1) (SLe.cnd rfl hG) (SLe.cnd rfl hG) rfl hx1 (by kernel_rfl)) rfl rfl ?_
        refine PSeqN.guarded rfl rfl (fun hG => PureOp.fld (k := 0) (SLe.cnd rfl hG) (by kernel_rfl)) rfl rfl ?_
        refine PSeqN.guarded rfl rfl (fun hG => PureOp.load1 (c := (iD x1.Year)) (SLe.cnd rfl hG) rfl (by kernel_rfl)) rfl rfl ?_
        refine PSeqN.guarded rfl rfl (fun hG => PureOp.fldB (k := 3) (SLe.eq rfl) (by kernel_rfl)) rfl rfl ?_
        refine PSeqN.guarded rfl rfl (fun hG => PureOp.loadB1 (s := .d (iD (w64 (z3 + z5)))) (SLe.cnd rfl hG) rfl rfl (by kernel_rfl)) rfl rfl ?_
        refine PSeqN.guarded rfl rfl (fun hG => PureOp.leq (SLe.cnd rfl hG) (SLe.cnd rfl hG)) rfl rfl ?_
        refine PSeqN.pure (PureOp.pickAnd (SLe.eq rfl) rfl rfl (fun h => beq_t h)) rfl rfl ?_
        refine PSeqN.pure (PureOp.moveD (SLe.eq rfl)) rfl rfl ?_
        refine PSeqN.guarded rfl rfl (fun hG => PureOp.fldB (k := 1) (SLe.eq rfl) (by kernel_rfl)) rfl rfl ?_
        refine PSeqN.guarded rfl rfl (fun hG => PureOp.loadB1 (s := .d (iD z4)) (SLe.cnd rfl hG) rfl rfl (by kernel_rfl)) rfl rfl ?_
        refine PSeqN.guarded rfl rfl (fun hG => PureOp.moveD (SLe.eq rfl)) rfl rfl ?_
        refine PSeqN.guarded rfl rfl (fun hG => PureOp.moveD (SLe.eq rfl)) rfl rfl ?_
        refine PSeqN.guarded rfl rfl (fun hG => PureOp.idxE (e := 36) (sz := 3) (av := api_Spent.av) (l := z2) (n := i1) (z := x1) (SLe.cnd rfl hG) (SLe.cnd rfl hG) rfl hx1 (by kernel_rfl)) rfl rfl ?_
        refine PSeqN.guarded rfl rfl (fun hG => PureOp.fld (k := 1) (SLe.cnd rfl hG) (by kernel_rfl)) rfl rfl ?_
        refine PSeqN.guarded rfl rfl (fun hG => PureOp.load1 (c := (iD x1.Scheme)) (SLe.cnd rfl hG) rfl (by kernel_rfl)) rfl rfl ?_
        obtain ⟨g3, H⟩ := H
        refine PSeqN.guarded rfl rfl (fun hG => PureOp.shr (SLe.cnd rfl hG) (SLe.cnd rfl hG) (g3 hG)) rfl rfl ?_
        refine PSeqN.guarded rfl rfl (fun hG => PureOp.and (SLe.cnd rfl hG) (SLe.eq rfl)) rfl rfl ?_
        refine PSeqN.guarded rfl rfl (fun hG => PureOp.eql (SLe.cnd rfl hG) (SLe.eq rfl)) rfl rfl ?_
        refine PSeqN.pure (PureOp.pickAnd (SLe.eq rfl) rfl rfl (fun h => beq_t h)) rfl rfl ?_
        refine PSeqN.pure (PureOp.assignD (SLe.eq rfl)) rfl rfl ?_
        refine PSeqN.nil ?_
        refine AO.nil ?_
        refine thenQ_normal ?_
        refine AC.seq ?_
        refine AC.drawN 24 [] (by kernel_rfl) (by kernel_rfl) (by kernel_rfl) .nil (by kernel_rfl) ?_
        refine PSeqN.pure (PureOp.moveD (SLe.eq rfl)) rfl rfl ?_
        refine PSeqN.pure (PureOp.moveD (SLe.eq rfl)) rfl rfl ?_
        obtain ⟨g4, H⟩ := H
        refine PSeqN.pure (PureOp.idxI (e := 3) (sz := 1) (av := avI) (l := (corS (z1 ++ ([(⟨100, z4, z3, w64 (z3 + z5), z6⟩ : api_Finding)] : List api_Finding)) z2)) (SLe.eq rfl) (SLe.eq rfl) g4 (by kernel_rfl)) rfl rfl ?_
        refine PSeqN.pure (PureOp.load1 (c := (iD (ix (corS (z1 ++ ([(⟨100, z4, z3, w64 (z3 + z5), z6⟩ : api_Finding)] : List api_Finding)) z2) ((i1 : Nat) : Int)))) (SLe.eq rfl) rfl (by kernel_rfl)) rfl rfl ?_
        refine PSeqN.pure (PureOp.moveD (SLe.eq rfl)) rfl rfl ?_
        refine PSeqN.pure (PureOp.moveD (SLe.eq rfl)) rfl rfl ?_
        obtain ⟨g5, H⟩ := H
        refine PSeqN.pure (PureOp.idxI (e := 3) (sz := 1) (av := avI) (l := (corS z1 z2)) (SLe.eq rfl) (SLe.eq rfl) g5 (by kernel_rfl)) rfl rfl ?_
        refine PSeqN.pure (PureOp.load1 (c := (iD (ix (corS z1 z2) ((i1 : Nat) : Int)))) (SLe.eq rfl) rfl (by kernel_rfl)) rfl rfl ?_
        obtain ⟨b2, hb2⟩ : ∃ b : Bool, b = decide ((ix (corS (z1 ++ ([(⟨100, z4, z3, w64 (z3 + z5), z6⟩ : api_Finding)] : List api_Finding)) z2) ((i1 : Nat) : Int)) < (ix (corS z1 z2) ((i1 : Nat) : Int))) := ⟨_, rfl⟩
        replace H := H b2 hb2
        refine PSeqN.pure (r := .d (bD b2)) (by rw [hb2]; exact PureOp.lss (SLe.eq rfl) (SLe.eq rfl)) rfl rfl ?_
        refine PSeqN.pure (PureOp.moveD (SLe.eq rfl)) rfl rfl ?_
        refine PSeqN.guarded rfl rfl (fun hG => PureOp.moveD (SLe.eq rfl)) rfl rfl ?_
        refine PSeqN.guarded rfl rfl (fun hG => PureOp.not (SLe.cnd rfl hG)) rfl rfl ?_
        refine PSeqN.guarded rfl rfl (fun hG => PureOp.moveD (SLe.cnd rfl hG)) rfl rfl ?_
        refine PSeqN.guarded rfl rfl (fun hG => PureOp.moveD (SLe.eq rfl)) rfl rfl ?_
        refine PSeqN.guarded rfl rfl (fun hG => PureOp.moveD (SLe.eq rfl)) rfl rfl ?_
        refine PSeqN.guarded rfl rfl (fun hG => PureOp.idxI (e := 3) (sz := 1) (av := avI) (l := (corS z1 z2)) (SLe.cnd rfl hG) (SLe.cnd rfl hG) g5 (by kernel_rfl)) rfl rfl ?_
        refine PSeqN.guarded rfl rfl (fun hG => PureOp.load1 (c := (iD (ix (corS z1 z2) ((i1 : Nat) : Int)))) (SLe.cnd rfl hG) rfl (by kernel_rfl)) rfl rfl ?_
        refine PSeqN.guarded rfl rfl (fun hG => PureOp.moveD (SLe.eq rfl)) rfl rfl ?_
        refine PSeqN.guarded rfl rfl (fun hG => PureOp.moveD (SLe.eq rfl)) rfl rfl ?_
        refine PSeqN.guarded rfl rfl (fun hG => PureOp.idxI (e := 3) (sz := 1) (av := avI) (l := (corS (z1 ++ ([(⟨100, z4, z3, w64 (z3 + z5), z6⟩ : api_Finding)] : List api_Finding)) z2)) (SLe.cnd rfl hG) (SLe.cnd rfl hG) g4 (by kernel_rfl)) rfl rfl ?_
        refine PSeqN.guarded rfl rfl (fun hG => PureOp.load1 (c := (iD (ix (corS (z1 ++ ([(⟨100, z4, z3, w64 (z3 + z5), z6⟩ : api_Finding)] : List api_Finding)) z2) ((i1 : Nat) : Int)))) (SLe.cnd rfl hG) rfl (by kernel_rfl)) rfl rfl ?_
        obtain ⟨b3, hb3⟩ : ∃ b : Bool, b = (!decide ((ix (corS z1 z2) ((i1 : Nat) : Int)) = (ix (corS (z1 ++ ([(⟨100, z4, z3, w64 (z3 + z5), z6⟩ : api_Finding)] : List api_Finding)) z2) ((i1 : Nat) : Int)))) := ⟨_, rfl⟩
        replace H := H b3 hb3
        refine PSeqN.guarded (r := .d (bD b3)) rfl rfl (fun hG => by rw [hb3]; exact PureOp.neq (SLe.cnd rfl hG) (SLe.cnd rfl hG)) rfl rfl ?_
        refine PSeqN.guarded rfl rfl (fun hG => PureOp.pickAnd (SLe.cnd rfl hG) rfl rfl (fun h => and_i hG (beq_t h))) rfl rfl ?_
        refine PSeqN.pure (PureOp.pickOr (SLe.eq rfl) rfl rfl (fun h => beq_f h)) rfl rfl ?_
        refine PSeqN.nil ?_
        refine AO.nil ?_
        refine thenQ_normal ?_
        refine AC.cond (SLe.eq rfl) (fun hb => ?_) (fun hb => ?_)
        · skip
          replace H := ite_t H hb
          refine AC.seq ?_
          refine AC.region ?_
          refine AO.pure (PureOp.assignD (SLe.eq rfl)) rfl rfl ?_
          refine AO.nil ?_
          refine thenQ_normal ?_
          refine AC.ret ?_
          refine blockQ_ret ?_
          refine thenQ_ret ?_
          refine thenQ_ret ?_
          refine blockQ_ret ?_
          refine thenQ_ret ?_
          refine ⟨rfl, _, ?_, ResOf.one (GetR.flat (SLe.eq rfl) rfl)⟩
          exact congrArg (fun b => D.v (.bool b)) (lawpost hPost H)
        · skip
          replace H := ite_f H hb
          refine AC.skip ?_
          refine blockQ_normal ?_
          refine thenQ_normal ?_
          refine AC.region ?_
          refine AO.pure (PureOp.add (SLe.eq rfl) (SLe.eq rfl) (by omega) (by omega)) rfl rfl ?_
          refine AO.pure (PureOp.moveD (SLe.eq rfl)) rfl rfl ?_
          refine AO.nil ?_
          refine thenQ_normal ?_
          refine ⟨(i1 + 1, ()), ⟨hlt1, by rw [hrec1] at H; exact H⟩, (by show z2.length - (i1 + 1) < z2.length - i1; omega), ?_⟩
          exact Le.mk [] ⟨⟨SLe.eq rfl, rfl⟩, ⟨SLe.eq rfl, rfl⟩, ⟨SLe.eq rfl, rfl⟩, ⟨SLe.eq rfl, rfl⟩, ⟨SLe.eq rfl, rfl⟩, (by first | exact ⟨SLe.eq rfl, rfl⟩ | exact ⟨SLe.int rfl (by omega), rfl⟩), trivial⟩ ⟨⟨_, rfl, ⟨⟨SLe.eq rfl, rfl⟩, ⟨SLe.eq rfl, rfl⟩, ⟨SLe.eq rfl, rfl⟩, ⟨SLe.eq rfl, rfl⟩, ⟨SLe.eq rfl, rfl⟩, trivial⟩⟩, trivial⟩ trivial rfl rfl rfl rfl rfl
      · skip
        obtain ⟨hd1, _⟩ := drop_end (l := z2) (i := i1) hi1 hb
        rw [hd1] at H
        replace H := forLI_end H
        unfold more_l1e at H
        refine AC.exit ?_
        refine thenQ_exit ?_
        refine thenQ_exit ?_
        refine blockQ_hit ?_
        refine thenQ_normal ?_
        refine AC.seq ?_
        refine AC.region ?_
        refine AO.pure (PureOp.callS .nil (b_awake) (by kernel_rfl)) rfl rfl ?_
        refine AO.pure (PureOp.assignD (SLe.eq rfl)) rfl rfl ?_
        refine AO.nil ?_
        refine thenQ_normal ?_
        refine AC.ret ?_
        refine ⟨rfl, _, ?_, ResOf.one (GetR.flat (SLe.eq rfl) rfl)⟩
        exact congrArg (fun b => D.v (.bool b)) (lawpost hPost H)
end Clr
end Eng
end Go.Proofs.Ytmmekdkllccmdaa
