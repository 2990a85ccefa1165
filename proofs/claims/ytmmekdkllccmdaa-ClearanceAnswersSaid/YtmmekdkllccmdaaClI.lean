/-
  Chapter 41: the walk of ClearanceYears.
-/
import Derived.Test.YtmmekdkllccmdaaClG
namespace Go.Proofs.Ytmmekdkllccmdaa
open Go.RowKit
set_option linter.unusedVariables false
namespace Eng
namespace Clr
open Est (upV err rat)
def years_l2b (x1 : api_Spent) (rec2 : (List api_Finding) → Prop) (x2 : api_Finding) (v2 : List api_Finding) : Prop :=
  (0 ≤ (x1).Scheme ∧ (x1).Scheme ≤ 15) ∧ (if (conB x2 x1) = true then (apOK 40 v2.length 1) ∧ rec2 (v2 ++ ([x2] : List api_Finding)) else rec2 v2)
def years_l2e (Post : Bool → Prop) (z1 : List api_Finding) (z2 : List api_Spent) (rec1 : Unit → Prop) (i1 : Nat) (v2 : List api_Finding) : Prop :=
  (0 ≤ ((i1 : Nat) : Int) ∧ ((i1 : Nat) : Int) ≤ w64 (((i1 : Nat) : Int) + 1) ∧ w64 (((i1 : Nat) : Int) + 1) ≤ ((z2.length : Nat) : Int)) ∧ ∀ b1 : Bool, b1 = ((!decide ((chkC v2 (sub z2 ((i1 : Nat) : Int) (w64 (((i1 : Nat) : Int) + 1)))) = 0)) || (!decide ((((corS v2 (sub z2 ((i1 : Nat) : Int) (w64 (((i1 : Nat) : Int) + 1)))).length : Nat) : Int) = 1))) → ((b1 == false) = true → inb (corS v2 (sub z2 ((i1 : Nat) : Int) (w64 (((i1 : Nat) : Int) + 1)))) 0) ∧ ((b1 == false) = true → inb (corS z1 z2) ((i1 : Nat) : Int)) ∧ (if (b1 || (!decide ((ix (corS v2 (sub z2 ((i1 : Nat) : Int) (w64 (((i1 : Nat) : Int) + 1)))) 0) = (ix (corS z1 z2) ((i1 : Nat) : Int))))) = true then Post false else rec1 ())
def years_l1b (Post : Bool → Prop) (z1 : List api_Finding) (z2 : List api_Spent) (rec1 : Unit → Prop) (i1 : Nat) (x1 : api_Spent) (v1 : Unit) : Prop :=
  forL (years_l2b x1) (years_l2e Post z1 z2 rec1 i1) z1 ([] : List api_Finding)
def years_l1e (Post : Bool → Prop) (v1 : Unit) : Prop :=
  Post true
def years_W  (Post : Bool → Prop) : Prop :=
  ∀ z1 : List api_Finding, (FGood z1) → ∀ z2 : List api_Spent, (SGood z2) → (if ((!decide ((chkC z1 z2) = 0)) || (!decide ((((corS z1 z2).length : Nat) : Int) = ((z2.length : Nat) : Int)))) = true then Post false else forLI (years_l1b Post z1 z2) (years_l1e Post) 0 z2 ())
set_option maxRecDepth 100000 in
set_option maxHeartbeats 4000000 in
theorem years_w (w : World) (a : Option Addr) (len cap : Nat) (hi : Keep.IntsAt w a len cap) (H : years_W  (fun r => r = true)) : Calls Try.prog 7 #[.slice a len cap] w fun e w' => e = .returned (.bool true) ∧ Below w.heap.size w w' := by
  have hsrc := src_all hi
  obtain ⟨Post, hPost⟩ : ∃ Q : Bool → Prop, Q = (fun r => r = true) := ⟨_, rfl⟩
  rw [← hPost] at H
  refine law_of (S := allS w) (args := [.d (.v (.slice a len cap))]) (vals := [.slice a len cap]) Try.func7 rfl rfl rfl rfl rfl (fun _ _ h => h) rfl (fun i s u hs hu => ?_) ?_
  · match i, hs, hu with
    | 0, hs, hu =>
      have e1 := Option.some.inj hs; have e2 := Option.some.inj hu; subst e1 e2; exact .d _ _ (.v _)
    | n + 1, hs, hu => simp at hs
  unfold years_W at H
  refine AC.seq ?_
  refine AC.region ?_
  refine AO.pure (PureOp.assignD (SLe.eq rfl)) rfl rfl ?_
  refine AO.nil ?_
  refine thenQ_normal ?_
  refine AC.seq ?_
  refine AC.region ?_
  refine AO.pure (PureOp.moveD (SLe.eq rfl)) rfl rfl ?_
  refine AO.newT (SLe.eq rfl) hsrc (fun b hb => hb) (fun b hb => hb) rfl rfl rfl rfl ?_
  refine AO.pure (PureOp.assignT (SLe.eq rfl)) rfl rfl ?_
  refine AO.nil ?_
  refine thenQ_normal ?_
  refine AC.seq ?_
  refine AC.region ?_
  refine AO.pure (PureOp.moveT (SLe.eq rfl)) rfl rfl ?_
  refine AO.tcallS (.tp (SLe.eq rfl) .nil) (b_fin) rfl (by kernel_rfl) rfl ?_
  rintro _ ⟨z1, rfl, h1⟩
  replace H := H z1 h1
  refine AO.pure (PureOp.moveT (SLe.eq rfl)) rfl rfl ?_
  refine AO.tcallS (.tp (SLe.eq rfl) .nil) (b_spe) rfl (by kernel_rfl) rfl ?_
  rintro _ ⟨z2, rfl, h2⟩
  replace H := H z2 h2
  refine AO.pure (PureOp.assignD (SLe.eq rfl)) rfl rfl ?_
  refine AO.pure (PureOp.assignD (SLe.eq rfl)) rfl rfl ?_
  refine AO.nil ?_
  refine thenQ_normal ?_
  refine AC.seq ?_
  refine AC.region ?_
  refine AO.pure (PureOp.moveD (SLe.eq rfl)) rfl rfl ?_
  refine AO.pure (PureOp.moveD (SLe.eq rfl)) rfl rfl ?_
  refine AO.pure (PureOp.callS (.cons (SLe.eq rfl) (.cons (SLe.eq rfl) .nil)) (bc_cor z1 z2) (by kernel_rfl)) rfl rfl ?_
  refine AO.pure (PureOp.moveD (SLe.eq rfl)) rfl rfl ?_
  refine AO.pure (PureOp.extract (c := (.sl 1 ((corS z1 z2).map avI))) (SLe.eq rfl) rfl) rfl rfl ?_
  refine AO.pure (PureOp.extract (c := (iD (chkC z1 z2))) (SLe.eq rfl) rfl) rfl rfl ?_
  refine AO.pure (PureOp.assignD (SLe.eq rfl)) rfl rfl ?_
  refine AO.pure (PureOp.assignD (SLe.eq rfl)) rfl rfl ?_
  refine AO.nil ?_
  refine thenQ_normal ?_
  refine AC.seq ?_
  refine AC.seq ?_
  refine AC.region ?_
  refine AO.pure (PureOp.moveD (SLe.eq rfl)) rfl rfl ?_
  refine AO.pure (PureOp.neq (SLe.eq rfl) (SLe.eq rfl)) rfl rfl ?_
  refine AO.pure (PureOp.moveD (SLe.eq rfl)) rfl rfl ?_
  refine AO.guarded rfl rfl (fun hG => PureOp.moveD (SLe.eq rfl)) rfl rfl ?_
  refine AO.guarded rfl rfl (fun hG => PureOp.lenL (e := 3) (s' := 1) (sz := 1) (l := (corS z1 z2)) (av := avI) (SLe.cnd rfl hG) (by kernel_rfl)) rfl rfl ?_
  refine AO.guarded rfl rfl (fun hG => PureOp.moveD (SLe.eq rfl)) rfl rfl ?_
  refine AO.guarded rfl rfl (fun hG => PureOp.lenL (e := 36) (s' := 3) (sz := 3) (l := z2) (av := api_Spent.av) (SLe.cnd rfl hG) (by kernel_rfl)) rfl rfl ?_
  refine AO.guarded rfl rfl (fun hG => PureOp.neq (SLe.cnd rfl hG) (SLe.cnd rfl hG)) rfl rfl ?_
  refine AO.pure (PureOp.pickOr (SLe.eq rfl) rfl rfl (fun h => beq_f h)) rfl rfl ?_
  refine AO.nil ?_
  refine thenQ_normal ?_
  refine AC.cond (SLe.eq rfl) (fun hb => ?_) (fun hb => ?_)
  · skip
    replace H := ite_t H hb
    refine AC.seq ?_
    refine AC.region ?_
    refine AO.pure (PureOp.assignD (SLe.eq rfl)) rfl rfl ?_
    refine AO.nil ?_
    refine thenQ_normal ?_
    refine AC.ret ?_
    refine thenQ_ret ?_
    refine ⟨rfl, _, ?_, ResOf.one (GetR.flat (SLe.eq rfl) rfl)⟩
    exact congrArg (fun b => D.v (.bool b)) (lawpost hPost H)
  · skip
    replace H := ite_f H hb
    refine AC.skip ?_
    refine thenQ_normal ?_
    refine AC.seq ?_
    refine AC.seq ?_
    refine AC.region ?_
    refine AO.pure (PureOp.moveD (SLe.eq rfl)) rfl rfl ?_
    refine AO.pure (PureOp.lenL (e := 36) (s' := 3) (sz := 3) (l := z2) (av := api_Spent.av) (SLe.eq rfl) (by kernel_rfl)) rfl rfl ?_
    refine AO.pure (PureOp.moveD (SLe.eq rfl)) rfl rfl ?_
    refine AO.nil ?_
    refine thenQ_normal ?_
    refine AC.block ?_
    refine AC.loop (ι := Nat × Unit) (fun q => ⟨[(4, .d (.sl 5 (z1.map api_Finding.av))), (5, .d (.sl 3 (z2.map api_Spent.av))), (6, .d (.sl 1 ((corS z1 z2).map avI))), (36, .d (iD ((z2.length : Nat) : Int))), (37, .d (iD ((q.1 : Nat) : Int)))], [], [], 0, true, 86⟩) (fun q => q.1 ≤ z2.length ∧ forLI (years_l1b Post z1 z2) (years_l1e Post) q.1 (z2.drop q.1) q.2) (fun q => z2.length - q.1) (0, ()) ?_ ⟨Nat.zero_le _, H⟩ ?_
    · skip
      exact Le.mk [] ⟨⟨SLe.eq rfl, rfl⟩, ⟨SLe.eq rfl, rfl⟩, ⟨SLe.eq rfl, rfl⟩, ⟨SLe.eq rfl, rfl⟩, (by first | exact ⟨SLe.eq rfl, rfl⟩ | exact ⟨SLe.int rfl (by omega), rfl⟩), trivial⟩ trivial trivial rfl rfl rfl rfl rfl
    · rintro ⟨i1, v1⟩ ⟨hi1, H⟩
      dsimp only at hi1 H
      change AC _ _ _ _ _ ⟨[(4, .d (.sl 5 (z1.map api_Finding.av))), (5, .d (.sl 3 (z2.map api_Spent.av))), (6, .d (.sl 1 ((corS z1 z2).map avI))), (36, .d (iD ((z2.length : Nat) : Int))), (37, .d (iD ((i1 : Nat) : Int)))], [], [], 0, true, 86⟩ _
      obtain ⟨rec1, hrec1⟩ : ∃ r, r = forLI (years_l1b Post z1 z2) (years_l1e Post) (i1 + 1) (z2.drop (i1 + 1)) := ⟨_, rfl⟩
      refine AC.seq ?_
      refine AC.region ?_
      refine AO.pure (PureOp.lss (SLe.eq rfl) (SLe.eq rfl)) rfl rfl ?_
      refine AO.nil ?_
      refine thenQ_normal ?_
      refine AC.seq ?_
      refine AC.cond (SLe.eq rfl) (fun hb => ?_) (fun hb => ?_)
      · skip
        obtain ⟨x1, hx1, hd1, hlt1⟩ := drop_at (l := z2) (i := i1) hb
        rw [hd1] at H
        replace H := forLI_step H
        rw [← hrec1] at H
        unfold years_l1b at H
        refine AC.len (av := api_Spent.av) (l := z2) (t := 5) (SLe.eq rfl) (fun hL1 => ?_)
        refine AC.skip ?_
        refine thenQ_normal ?_
        refine AC.seq ?_
        refine AC.block ?_
        refine AC.seq ?_
        refine AC.region ?_
        refine AO.pure (PureOp.moveD (SLe.eq rfl)) rfl rfl ?_
        refine AO.pure (PureOp.assignD (SLe.eq rfl)) rfl rfl ?_
        refine AO.nil ?_
        refine thenQ_normal ?_
        refine AC.seq ?_
        refine AC.region ?_
        refine AO.pure (PureOp.assignD (SLe.eq rfl)) rfl rfl ?_
        refine AO.nil ?_
        refine thenQ_normal ?_
        refine AC.seq ?_
        refine AC.seq ?_
        refine AC.region ?_
        refine AO.pure (PureOp.moveD (SLe.eq rfl)) rfl rfl ?_
        refine AO.pure (PureOp.lenL (e := 32) (s' := 5) (sz := 5) (l := z1) (av := api_Finding.av) (SLe.eq rfl) (by kernel_rfl)) rfl rfl ?_
        refine AO.pure (PureOp.moveD (SLe.eq rfl)) rfl rfl ?_
        refine AO.nil ?_
        refine thenQ_normal ?_
        refine AC.block ?_
        refine AC.loop (ι := Nat × (List api_Finding)) (fun q => ⟨[(4, .d (.sl 5 (z1.map api_Finding.av))), (5, .d (.sl 3 (z2.map api_Spent.av))), (6, .d (.sl 1 ((corS z1 z2).map avI))), (8, .d (iD ((i1 : Nat) : Int))), (9, .os 0), (36, .d (iD ((z2.length : Nat) : Int))), (37, .d (iD ((i1 : Nat) : Int))), (40, .d (.sl 5 (z1.map api_Finding.av))), (41, .d (iD ((z1.length : Nat) : Int))), (42, .d (iD ((q.1 : Nat) : Int)))], [], [(0, ⟨32, 5, q.2.map api_Finding.av⟩)], 1, true, 86⟩) (fun q => q.1 ≤ z1.length ∧ forL (years_l2b x1) (years_l2e Post z1 z2 rec1 i1) (z1.drop q.1) q.2) (fun q => z1.length - q.1) (0, ([] : List api_Finding)) ?_ ⟨Nat.zero_le _, H⟩ ?_
        · skip
          refine Le.trans (Le.ownNil 9 32 5 rfl rfl) ?_
          exact Le.mk [(0, 0)] ⟨⟨SLe.eq rfl, rfl⟩, ⟨SLe.eq rfl, rfl⟩, ⟨SLe.eq rfl, rfl⟩, ⟨SLe.eq rfl, rfl⟩, rfl, ⟨SLe.eq rfl, rfl⟩, ⟨SLe.eq rfl, rfl⟩, ⟨SLe.eq rfl, rfl⟩, ⟨SLe.eq rfl, rfl⟩, (by first | exact ⟨SLe.eq rfl, rfl⟩ | exact ⟨SLe.int rfl (by omega), rfl⟩), trivial⟩ trivial ⟨⟨_, rfl, rfl⟩, trivial⟩ rfl rfl rfl rfl rfl
        · rintro ⟨i2, v2⟩ ⟨hi2, H⟩
          dsimp only at hi2 H
          change AC _ _ _ _ _ ⟨[(4, .d (.sl 5 (z1.map api_Finding.av))), (5, .d (.sl 3 (z2.map api_Spent.av))), (6, .d (.sl 1 ((corS z1 z2).map avI))), (8, .d (iD ((i1 : Nat) : Int))), (9, .os 0), (36, .d (iD ((z2.length : Nat) : Int))), (37, .d (iD ((i1 : Nat) : Int))), (40, .d (.sl 5 (z1.map api_Finding.av))), (41, .d (iD ((z1.length : Nat) : Int))), (42, .d (iD ((i2 : Nat) : Int)))], [], [(0, ⟨32, 5, v2.map api_Finding.av⟩)], 1, true, 86⟩ _
          obtain ⟨rec2, hrec2⟩ : ∃ r, r = forL (years_l2b x1) (years_l2e Post z1 z2 rec1 i1) (z1.drop (i2 + 1)) := ⟨_, rfl⟩
          refine AC.seq ?_
          refine AC.region ?_
          refine AO.pure (PureOp.lss (SLe.eq rfl) (SLe.eq rfl)) rfl rfl ?_
          refine AO.nil ?_
          refine thenQ_normal ?_
          refine AC.seq ?_
          refine AC.cond (SLe.eq rfl) (fun hb => ?_) (fun hb => ?_)
          · skip
            obtain ⟨x2, hx2, hd2, hlt2⟩ := drop_at (l := z1) (i := i2) hb
            rw [hd2] at H
            replace H := forL_step H
            rw [← hrec2] at H
            unfold years_l2b at H
            refine AC.len (av := api_Finding.av) (l := z1) (t := 4) (SLe.eq rfl) (fun hL2 => ?_)
            refine AC.skip ?_
            refine thenQ_normal ?_
            refine AC.seq ?_
            refine AC.block ?_
            refine AC.seq ?_
            refine AC.region ?_
            refine AO.pure (PureOp.idxE (e := 32) (sz := 5) (av := api_Finding.av) (l := z1) (n := i2) (z := x2) (SLe.eq rfl) (SLe.eq rfl) rfl hx2 (by kernel_rfl)) rfl rfl ?_
            refine AO.pure (PureOp.loadN (sz := 5) (ks := (api_Finding.av x2)) (SLe.eq rfl) rfl rfl (by kernel_rfl)) rfl rfl ?_
            refine AO.alloc (z := .agg #[.int .i64 0, .int .i64 0, .int .i64 0, .int .i64 0, .int .i64 0]) (by kernel_rfl) rfl rfl rfl ?_
            refine AO.store (SLe.eq rfl) (SLe.eq rfl) rfl rfl rfl rfl rfl (by kernel_rfl) rfl rfl ?_
            refine AO.nil ?_
            refine thenQ_normal ?_
            refine AC.seq ?_
            refine AC.drawN 6 [] (by kernel_rfl) (by kernel_rfl) (by kernel_rfl) .nil (by kernel_rfl) ?_
            refine PSeqN.pure (PureOp.loadBN (sz := 5) (ds := (api_Finding.av x2)) (SLe.eq rfl) rfl rfl rfl rfl (by kernel_rfl)) rfl rfl ?_
            refine PSeqN.pure (PureOp.moveD (SLe.eq rfl)) rfl rfl ?_
            refine PSeqN.pure (PureOp.moveD (SLe.eq rfl)) rfl rfl ?_
            refine PSeqN.pure (PureOp.idxE (e := 36) (sz := 3) (av := api_Spent.av) (l := z2) (n := i1) (z := x1) (SLe.eq rfl) (SLe.eq rfl) rfl hx1 (by kernel_rfl)) rfl rfl ?_
            refine PSeqN.pure (PureOp.loadN (sz := 3) (ks := (api_Spent.av x1)) (SLe.eq rfl) rfl rfl (by kernel_rfl)) rfl rfl ?_
            obtain ⟨g1, H⟩ := H
            refine PSeqN.pure (PureOp.callS (.cons (SLe.eq rfl) (.cons (SLe.eq rfl) .nil)) (br_conc x2 x1 g1) (by kernel_rfl)) rfl rfl ?_
            refine PSeqN.nil ?_
            refine AO.nil ?_
            refine thenQ_normal ?_
            refine AC.cond (SLe.eq rfl) (fun hb => ?_) (fun hb => ?_)
            · skip
              replace H := ite_t H hb
              refine AC.region ?_
              refine AO.pure (PureOp.moveO (SLe.eq rfl)) rfl rfl ?_
              refine AO.pure (PureOp.loadBN (sz := 5) (ds := (api_Finding.av x2)) (SLe.eq rfl) rfl rfl rfl rfl (by kernel_rfl)) rfl rfl ?_
              refine AO.pure (PureOp.buildSlice (e := 32) (sz := 5) (z := .agg #[.int .i64 0, .int .i64 0, .int .i64 0, .int .i64 0, .int .i64 0]) (rows := [(api_Finding.av x2)]) (by kernel_rfl) (by kernel_rfl) rfl rfl rfl (.cons (SLe.eq rfl) rfl .nil) rfl rfl rfl rfl) rfl rfl ?_
              obtain ⟨g2, H⟩ := H
              refine AO.appendL (e := 32) (sz := 5) (bs := 40) (av := api_Finding.av) v2 ([x2] : List api_Finding) (SLe.eq rfl) rfl (SLe.eq rfl) (by kernel_rfl) g2 rfl ?_
              refine AO.pure (PureOp.assignO (SLe.eq rfl)) rfl rfl ?_
              refine AO.nil ?_
              refine blockQ_normal ?_
              refine thenQ_normal ?_
              refine AC.region ?_
              refine AO.pure (PureOp.add (SLe.eq rfl) (SLe.eq rfl) (by omega) (by omega)) rfl rfl ?_
              refine AO.pure (PureOp.moveD (SLe.eq rfl)) rfl rfl ?_
              refine AO.nil ?_
              refine thenQ_normal ?_
              refine ⟨(i2 + 1, (v2 ++ ([x2] : List api_Finding))), ⟨hlt2, by rw [hrec2] at H; exact H⟩, (by show z1.length - (i2 + 1) < z1.length - i2; omega), ?_⟩
              exact Le.mk [(0, 2)] ⟨⟨SLe.eq rfl, rfl⟩, ⟨SLe.eq rfl, rfl⟩, ⟨SLe.eq rfl, rfl⟩, ⟨SLe.eq rfl, rfl⟩, rfl, ⟨SLe.eq rfl, rfl⟩, ⟨SLe.eq rfl, rfl⟩, ⟨SLe.eq rfl, rfl⟩, ⟨SLe.eq rfl, rfl⟩, (by first | exact ⟨SLe.eq rfl, rfl⟩ | exact ⟨SLe.int rfl (by omega), rfl⟩), trivial⟩ trivial ⟨⟨_, rfl, rfl⟩, trivial⟩ rfl rfl rfl rfl rfl
            · skip
              replace H := ite_f H hb
              refine AC.skip ?_
              refine blockQ_normal ?_
              refine thenQ_normal ?_
              refine AC.region ?_
              refine AO.pure (PureOp.add (SLe.eq rfl) (SLe.eq rfl) (by omega) (by omega)) rfl rfl ?_
              refine AO.pure (PureOp.moveD (SLe.eq rfl)) rfl rfl ?_
              refine AO.nil ?_
              refine thenQ_normal ?_
              refine ⟨(i2 + 1, v2), ⟨hlt2, by rw [hrec2] at H; exact H⟩, (by show z1.length - (i2 + 1) < z1.length - i2; omega), ?_⟩
              exact Le.mk [(0, 0)] ⟨⟨SLe.eq rfl, rfl⟩, ⟨SLe.eq rfl, rfl⟩, ⟨SLe.eq rfl, rfl⟩, ⟨SLe.eq rfl, rfl⟩, rfl, ⟨SLe.eq rfl, rfl⟩, ⟨SLe.eq rfl, rfl⟩, ⟨SLe.eq rfl, rfl⟩, ⟨SLe.eq rfl, rfl⟩, (by first | exact ⟨SLe.eq rfl, rfl⟩ | exact ⟨SLe.int rfl (by omega), rfl⟩), trivial⟩ trivial ⟨⟨_, rfl, rfl⟩, trivial⟩ rfl rfl rfl rfl rfl
          · skip
            obtain ⟨hd2, _⟩ := drop_end (l := z1) (i := i2) hi2 hb
            rw [hd2] at H
            replace H := forL_end H
            unfold years_l2e at H
            refine AC.exit ?_
            refine thenQ_exit ?_
            refine thenQ_exit ?_
            refine blockQ_hit ?_
            refine thenQ_normal ?_
            refine AC.seq ?_
            refine AC.region ?_
            refine AO.pure (PureOp.moveO (SLe.eq rfl)) rfl rfl ?_
            refine AO.pure (PureOp.moveD (SLe.eq rfl)) rfl rfl ?_
            refine AO.pure (PureOp.moveD (SLe.eq rfl)) rfl rfl ?_
            refine AO.pure (PureOp.moveD (SLe.eq rfl)) rfl rfl ?_
            refine AO.pure (PureOp.addW (SLe.eq rfl) (SLe.eq rfl)) rfl rfl ?_
            obtain ⟨g3, H⟩ := H
            refine AO.pure (PureOp.sliceLH (e := 36) (sz := 3) (av := api_Spent.av) (l := z2) (SLe.eq rfl) (SLe.eq rfl) (SLe.eq rfl) g3 (by kernel_rfl)) rfl rfl ?_
            refine AO.le (Le.frz 0 32 5 (v2.map api_Finding.av) rfl rfl) ?_
            refine AO.pure (PureOp.callS (.cons (SLe.eq rfl) (.cons (SLe.eq rfl) .nil)) (bc_cor v2 (sub z2 ((i1 : Nat) : Int) (w64 (((i1 : Nat) : Int) + 1)))) (by kernel_rfl)) rfl rfl ?_
            refine AO.pure (PureOp.moveD (SLe.eq rfl)) rfl rfl ?_
            refine AO.pure (PureOp.extract (c := (.sl 1 ((corS v2 (sub z2 ((i1 : Nat) : Int) (w64 (((i1 : Nat) : Int) + 1)))).map avI))) (SLe.eq rfl) rfl) rfl rfl ?_
            refine AO.pure (PureOp.extract (c := (iD (chkC v2 (sub z2 ((i1 : Nat) : Int) (w64 (((i1 : Nat) : Int) + 1)))))) (SLe.eq rfl) rfl) rfl rfl ?_
            refine AO.pure (PureOp.assignD (SLe.eq rfl)) rfl rfl ?_
            refine AO.pure (PureOp.assignD (SLe.eq rfl)) rfl rfl ?_
            refine AO.nil ?_
            refine thenQ_normal ?_
            refine AC.seq ?_
            refine AC.drawN 17 [] (by kernel_rfl) (by kernel_rfl) (by kernel_rfl) .nil (by kernel_rfl) ?_
            refine PSeqN.pure (PureOp.moveD (SLe.eq rfl)) rfl rfl ?_
            refine PSeqN.pure (PureOp.neq (SLe.eq rfl) (SLe.eq rfl)) rfl rfl ?_
            refine PSeqN.pure (PureOp.moveD (SLe.eq rfl)) rfl rfl ?_
            refine PSeqN.guarded rfl rfl (fun hG => PureOp.moveD (SLe.eq rfl)) rfl rfl ?_
            refine PSeqN.guarded rfl rfl (fun hG => PureOp.lenL (e := 3) (s' := 1) (sz := 1) (l := (corS v2 (sub z2 ((i1 : Nat) : Int) (w64 (((i1 : Nat) : Int) + 1))))) (av := avI) (SLe.cnd rfl hG) (by kernel_rfl)) rfl rfl ?_
            refine PSeqN.guarded rfl rfl (fun hG => PureOp.neq (SLe.cnd rfl hG) (SLe.eq rfl)) rfl rfl ?_
            obtain ⟨b1, hb1⟩ : ∃ b : Bool, b = ((!decide ((chkC v2 (sub z2 ((i1 : Nat) : Int) (w64 (((i1 : Nat) : Int) + 1)))) = 0)) || (!decide ((((corS v2 (sub z2 ((i1 : Nat) : Int) (w64 (((i1 : Nat) : Int) + 1)))).length : Nat) : Int) = 1))) := ⟨_, rfl⟩
            replace H := H b1 hb1
            refine PSeqN.pure (r := .d (bD b1)) (by rw [hb1]; exact PureOp.pickOr (SLe.eq rfl) rfl rfl (fun h => beq_f h)) rfl rfl ?_
            refine PSeqN.pure (PureOp.moveD (SLe.eq rfl)) rfl rfl ?_
            refine PSeqN.guarded rfl rfl (fun hG => PureOp.moveD (SLe.eq rfl)) rfl rfl ?_
            obtain ⟨g4, H⟩ := H
            refine PSeqN.guarded rfl rfl (fun hG => PureOp.idxI (e := 3) (sz := 1) (av := avI) (l := (corS v2 (sub z2 ((i1 : Nat) : Int) (w64 (((i1 : Nat) : Int) + 1))))) (SLe.cnd rfl hG) (SLe.eq rfl) (g4 hG) (by kernel_rfl)) rfl rfl ?_
            refine PSeqN.guarded rfl rfl (fun hG => PureOp.load1 (c := (iD (ix (corS v2 (sub z2 ((i1 : Nat) : Int) (w64 (((i1 : Nat) : Int) + 1)))) 0))) (SLe.cnd rfl hG) rfl (by kernel_rfl)) rfl rfl ?_
            refine PSeqN.guarded rfl rfl (fun hG => PureOp.moveD (SLe.eq rfl)) rfl rfl ?_
            refine PSeqN.guarded rfl rfl (fun hG => PureOp.moveD (SLe.eq rfl)) rfl rfl ?_
            obtain ⟨g5, H⟩ := H
            refine PSeqN.guarded rfl rfl (fun hG => PureOp.idxI (e := 3) (sz := 1) (av := avI) (l := (corS z1 z2)) (SLe.cnd rfl hG) (SLe.cnd rfl hG) (g5 hG) (by kernel_rfl)) rfl rfl ?_
            refine PSeqN.guarded rfl rfl (fun hG => PureOp.load1 (c := (iD (ix (corS z1 z2) ((i1 : Nat) : Int)))) (SLe.cnd rfl hG) rfl (by kernel_rfl)) rfl rfl ?_
            refine PSeqN.guarded rfl rfl (fun hG => PureOp.neq (SLe.cnd rfl hG) (SLe.cnd rfl hG)) rfl rfl ?_
            refine PSeqN.pure (PureOp.pickOr (SLe.eq rfl) rfl rfl (fun h => beq_f h)) rfl rfl ?_
            refine PSeqN.nil ?_
            refine AO.nil ?_
            refine thenQ_normal ?_
            refine AC.cond (SLe.eq rfl) (fun hb => ?_) (fun hb => ?_)
            · skip
              replace H := ite_t H hb
              refine AC.seq ?_
              refine AC.region ?_
              refine AO.pure (PureOp.assignD (SLe.eq rfl)) rfl rfl ?_
              refine AO.nil ?_
              refine thenQ_normal ?_
              refine AC.ret ?_
              refine blockQ_ret ?_
              refine thenQ_ret ?_
              refine thenQ_ret ?_
              refine blockQ_ret ?_
              refine thenQ_ret ?_
              refine ⟨rfl, _, ?_, ResOf.one (GetR.flat (SLe.eq rfl) rfl)⟩
              exact congrArg (fun b => D.v (.bool b)) (lawpost hPost H)
            · skip
              replace H := ite_f H hb
              refine AC.skip ?_
              refine blockQ_normal ?_
              refine thenQ_normal ?_
              refine AC.region ?_
              refine AO.pure (PureOp.add (SLe.eq rfl) (SLe.eq rfl) (by omega) (by omega)) rfl rfl ?_
              refine AO.pure (PureOp.moveD (SLe.eq rfl)) rfl rfl ?_
              refine AO.nil ?_
              refine thenQ_normal ?_
              refine ⟨(i1 + 1, ()), ⟨hlt1, by rw [hrec1] at H; exact H⟩, (by show z2.length - (i1 + 1) < z2.length - i1; omega), ?_⟩
              exact Le.mk [] ⟨⟨SLe.eq rfl, rfl⟩, ⟨SLe.eq rfl, rfl⟩, ⟨SLe.eq rfl, rfl⟩, ⟨SLe.eq rfl, rfl⟩, (by first | exact ⟨SLe.eq rfl, rfl⟩ | exact ⟨SLe.int rfl (by omega), rfl⟩), trivial⟩ trivial trivial rfl rfl rfl rfl rfl
      · skip
        obtain ⟨hd1, _⟩ := drop_end (l := z2) (i := i1) hi1 hb
        rw [hd1] at H
        replace H := forLI_end H
        unfold years_l1e at H
        refine AC.exit ?_
        refine thenQ_exit ?_
        refine thenQ_exit ?_
        refine blockQ_hit ?_
        refine thenQ_normal ?_
        refine AC.seq ?_
        refine AC.region ?_
        refine AO.pure (PureOp.callS .nil (b_awake) (by kernel_rfl)) rfl rfl ?_
        refine AO.pure (PureOp.assignD (SLe.eq rfl)) rfl rfl ?_
        refine AO.nil ?_
        refine thenQ_normal ?_
        refine AC.ret ?_
        refine ⟨rfl, _, ?_, ResOf.one (GetR.flat (SLe.eq rfl) rfl)⟩
        exact congrArg (fun b => D.v (.bool b)) (lawpost hPost H)
end Clr
end Eng
end Go.Proofs.Ytmmekdkllccmdaa
