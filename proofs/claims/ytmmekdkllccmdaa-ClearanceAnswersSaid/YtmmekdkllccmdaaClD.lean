/-
  Chapter 41: the other functions.
-/
import Derived.Test.YtmmekdkllccmdaaClC
import Derived.Test.YtmmekdkllccmdaaEgP
namespace Go.Proofs.Ytmmekdkllccmdaa
open Go.RowKit
set_option linter.unusedVariables false
namespace Eng
namespace Clr
open Est (upV err rat)
def r_conc_W (p0 : api_Finding) (p1 : api_Spent) (Post : Bool → Prop) : Prop :=
  (((decide (p0.From ≤ p1.Year) && decide (p1.Year ≤ p0.Until)) == true) = true → 0 ≤ (IntKind.wrap .u64 p1.Scheme)) ∧ Post ((decide (p0.From ≤ p1.Year) && decide (p1.Year ≤ p0.Until)) && decide ((andK .i64 (shrK .i64 p0.Schemes (IntKind.wrap .u64 p1.Scheme)) 1) = 1))
set_option maxRecDepth 100000 in
set_option maxHeartbeats 4000000 in
theorem r_conc_w (p0 : api_Finding) (p1 : api_Spent) (Post : Bool → Prop) (H : r_conc_W p0 p1 Post) : ACalls Try.prog 36 false false (([(.agg (api_Finding.av p0)), (.agg (api_Spent.av p1))] : List D).map SV.d) (fun r => ∃ y0 : Bool, r = (bD y0) ∧ Post y0) := by
  refine ACalls.of Try.func36 rfl rfl rfl rfl rfl fun w0 S0 T => ?_
  unfold r_conc_W at H
  refine AC.seq ?_
  refine AC.region ?_
  refine AO.box (SLe.eq rfl) rfl rfl rfl rfl rfl ?_
  refine AO.box (SLe.eq rfl) rfl rfl rfl rfl rfl ?_
  refine AO.pure (PureOp.assignD (SLe.eq rfl)) rfl rfl ?_
  refine AO.nil ?_
  refine thenQ_normal ?_
  refine AC.seq ?_
  refine AC.region ?_
  refine AO.pure (PureOp.fldB (k := 2) (SLe.eq rfl) (by kernel_rfl)) rfl rfl ?_
  refine AO.pure (PureOp.loadB1 (s := .d (iD p0.From)) (SLe.eq rfl) rfl rfl (by kernel_rfl)) rfl rfl ?_
  refine AO.pure (PureOp.fldB (k := 0) (SLe.eq rfl) (by kernel_rfl)) rfl rfl ?_
  refine AO.pure (PureOp.loadB1 (s := .d (iD p1.Year)) (SLe.eq rfl) rfl rfl (by kernel_rfl)) rfl rfl ?_
  refine AO.pure (PureOp.leq (SLe.eq rfl) (SLe.eq rfl)) rfl rfl ?_
  refine AO.pure (PureOp.moveD (SLe.eq rfl)) rfl rfl ?_
  refine AO.guarded rfl rfl (fun hG => PureOp.fldB (k := 0) (SLe.eq rfl) (by kernel_rfl)) rfl rfl ?_
  refine AO.guarded rfl rfl (fun hG => PureOp.loadB1 (s := .d (iD p1.Year)) (SLe.cnd rfl hG) rfl rfl (by kernel_rfl)) rfl rfl ?_
  refine AO.guarded rfl rfl (fun hG => PureOp.fldB (k := 3) (SLe.eq rfl) (by kernel_rfl)) rfl rfl ?_
  refine AO.guarded rfl rfl (fun hG => PureOp.loadB1 (s := .d (iD p0.Until)) (SLe.cnd rfl hG) rfl rfl (by kernel_rfl)) rfl rfl ?_
  refine AO.guarded rfl rfl (fun hG => PureOp.leq (SLe.cnd rfl hG) (SLe.cnd rfl hG)) rfl rfl ?_
  refine AO.pure (PureOp.pickAnd (SLe.eq rfl) rfl rfl (fun h => beq_t h)) rfl rfl ?_
  refine AO.pure (PureOp.moveD (SLe.eq rfl)) rfl rfl ?_
  refine AO.guarded rfl rfl (fun hG => PureOp.fldB (k := 1) (SLe.eq rfl) (by kernel_rfl)) rfl rfl ?_
  refine AO.guarded rfl rfl (fun hG => PureOp.loadB1 (s := .d (iD p0.Schemes)) (SLe.cnd rfl hG) rfl rfl (by kernel_rfl)) rfl rfl ?_
  refine AO.guarded rfl rfl (fun hG => PureOp.fldB (k := 1) (SLe.eq rfl) (by kernel_rfl)) rfl rfl ?_
  refine AO.guarded rfl rfl (fun hG => PureOp.loadB1 (s := .d (iD p1.Scheme)) (SLe.cnd rfl hG) rfl rfl (by kernel_rfl)) rfl rfl ?_
  refine AO.guarded rfl rfl (fun hG => PureOp.convK (k' := .u64) (SLe.cnd rfl hG) (by kernel_rfl) (by kernel_rfl)) rfl rfl ?_
  obtain ⟨g1, H⟩ := H
  refine AO.guarded rfl rfl (fun hG => PureOp.shr (SLe.cnd rfl hG) (SLe.cnd rfl hG) (g1 hG)) rfl rfl ?_
  refine AO.guarded rfl rfl (fun hG => PureOp.and (SLe.cnd rfl hG) (SLe.eq rfl)) rfl rfl ?_
  refine AO.guarded rfl rfl (fun hG => PureOp.eql (SLe.cnd rfl hG) (SLe.eq rfl)) rfl rfl ?_
  refine AO.pure (PureOp.pickAnd (SLe.eq rfl) rfl rfl (fun h => beq_t h)) rfl rfl ?_
  refine AO.pure (PureOp.assignD (SLe.eq rfl)) rfl rfl ?_
  refine AO.nil ?_
  refine thenQ_normal ?_
  refine AC.ret ?_
  refine ⟨rfl, _, ?_, ResOf.one (GetR.any (r := (bD ((decide (p0.From ≤ p1.Year) && decide (p1.Year ≤ p0.Until)) && decide ((andK .i64 (shrK .i64 p0.Schemes (IntKind.wrap .u64 p1.Scheme)) 1) = 1)))) (SLe.eq rfl))⟩
  exact ⟨((decide (p0.From ≤ p1.Year) && decide (p1.Year ≤ p0.Until)) && decide ((andK .i64 (shrK .i64 p0.Schemes (IntKind.wrap .u64 p1.Scheme)) 1) = 1)), rfl, H⟩
def c_con_l1b (p1 : api_Spent) (rec1 : (List api_Finding) → Prop) (x1 : api_Finding) (v1 : List api_Finding) : Prop :=
  (((decide (x1.From ≤ p1.Year) && decide (p1.Year ≤ x1.Until)) == true) = true → 0 ≤ p1.Scheme) ∧ (if ((decide (x1.From ≤ p1.Year) && decide (p1.Year ≤ x1.Until)) && decide ((andK .i64 (shrK .i64 x1.Schemes p1.Scheme) 1) = 1)) = true then (apOK 40 v1.length 1) ∧ rec1 (v1 ++ ([x1] : List api_Finding)) else rec1 v1)
def c_con_l1e (Post : List api_Finding → Prop) (v1 : List api_Finding) : Prop :=
  Post v1
def c_con_W (p0 : List api_Finding) (p1 : api_Spent) (Post : List api_Finding → Prop) : Prop :=
  forL (c_con_l1b p1) (c_con_l1e Post) p0 ([] : List api_Finding)
set_option maxRecDepth 100000 in
set_option maxHeartbeats 4000000 in
theorem c_con_w (p0 : List api_Finding) (p1 : api_Spent) (Post : List api_Finding → Prop) (H : c_con_W p0 p1 Post) : OCalls Try.prog 69 [(.sl 5 (p0.map api_Finding.av)), (.agg (api_Spent.av p1))] (fun x => ∃ y : List api_Finding, x = ⟨32, 5, y.map api_Finding.av⟩ ∧ Post y) := by
  refine OCalls.of Try.func69 rfl rfl rfl rfl fun w0 S0 T => ?_
  unfold c_con_W at H
  refine AC.seq ?_
  refine AC.region ?_
  refine AO.box (SLe.eq rfl) rfl rfl rfl rfl rfl ?_
  refine AO.pure (PureOp.assignD (SLe.eq rfl)) rfl rfl ?_
  refine AO.nil ?_
  refine thenQ_normal ?_
  refine AC.seq ?_
  refine AC.region ?_
  refine AO.pure (PureOp.assignD (SLe.eq rfl)) rfl rfl ?_
  refine AO.nil ?_
  refine thenQ_normal ?_
  refine AC.seq ?_
  refine AC.seq ?_
  refine AC.region ?_
  refine AO.pure (PureOp.moveD (SLe.eq rfl)) rfl rfl ?_
  refine AO.pure (PureOp.lenL (e := 32) (s' := 5) (sz := 5) (l := p0) (av := api_Finding.av) (SLe.eq rfl) (by kernel_rfl)) rfl rfl ?_
  refine AO.pure (PureOp.moveD (SLe.eq rfl)) rfl rfl ?_
  refine AO.nil ?_
  refine thenQ_normal ?_
  refine AC.block ?_
  refine AC.loop (ι := Nat × (List api_Finding)) (fun q => ⟨[(3, .bx 0 0), (5, .os 1), (8, .d (.sl 5 (p0.map api_Finding.av))), (9, .d (iD ((p0.length : Nat) : Int))), (10, .d (iD ((q.1 : Nat) : Int)))], [(0, [.d (iD p1.Year), .d (iD p1.Scheme), .d (iD p1.Amount)])], [(1, ⟨32, 5, q.2.map api_Finding.av⟩)], 2, false, 41⟩) (fun q => q.1 ≤ p0.length ∧ forL (c_con_l1b p1) (c_con_l1e Post) (p0.drop q.1) q.2) (fun q => p0.length - q.1) (0, ([] : List api_Finding)) ?_ ⟨Nat.zero_le _, H⟩ ?_
  · skip
    refine Le.trans (Le.ownNil 5 32 5 rfl rfl) ?_
    exact Le.mk [(1, 1)] ⟨⟨SLe.eq rfl, rfl⟩, rfl, ⟨SLe.eq rfl, rfl⟩, ⟨SLe.eq rfl, rfl⟩, (by first | exact ⟨SLe.eq rfl, rfl⟩ | exact ⟨SLe.int rfl (by omega), rfl⟩), trivial⟩ ⟨⟨_, rfl, ⟨⟨SLe.eq rfl, rfl⟩, ⟨SLe.eq rfl, rfl⟩, ⟨SLe.eq rfl, rfl⟩, trivial⟩⟩, trivial⟩ ⟨⟨_, rfl, rfl⟩, trivial⟩ rfl rfl rfl rfl rfl
  · rintro ⟨i1, v1⟩ ⟨hi1, H⟩
    dsimp only at hi1 H
    change AC _ _ _ _ _ ⟨[(3, .bx 0 0), (5, .os 1), (8, .d (.sl 5 (p0.map api_Finding.av))), (9, .d (iD ((p0.length : Nat) : Int))), (10, .d (iD ((i1 : Nat) : Int)))], [(0, [.d (iD p1.Year), .d (iD p1.Scheme), .d (iD p1.Amount)])], [(1, ⟨32, 5, v1.map api_Finding.av⟩)], 2, false, 41⟩ _
    obtain ⟨rec1, hrec1⟩ : ∃ r, r = forL (c_con_l1b p1) (c_con_l1e Post) (p0.drop (i1 + 1)) := ⟨_, rfl⟩
    refine AC.seq ?_
    refine AC.region ?_
    refine AO.pure (PureOp.lss (SLe.eq rfl) (SLe.eq rfl)) rfl rfl ?_
    refine AO.nil ?_
    refine thenQ_normal ?_
    refine AC.seq ?_
    refine AC.cond (SLe.eq rfl) (fun hb => ?_) (fun hb => ?_)
    · skip
      obtain ⟨x1, hx1, hd1, hlt1⟩ := drop_at (l := p0) (i := i1) hb
      rw [hd1] at H
      replace H := forL_step H
      rw [← hrec1] at H
      unfold c_con_l1b at H
      refine AC.len (av := api_Finding.av) (l := p0) (t := 8) (SLe.eq rfl) (fun hL1 => ?_)
      refine AC.skip ?_
      refine thenQ_normal ?_
      refine AC.seq ?_
      refine AC.block ?_
      refine AC.seq ?_
      refine AC.region ?_
      refine AO.pure (PureOp.idxE (e := 32) (sz := 5) (av := api_Finding.av) (l := p0) (n := i1) (z := x1) (SLe.eq rfl) (SLe.eq rfl) rfl hx1 (by kernel_rfl)) rfl rfl ?_
      refine AO.pure (PureOp.loadN (sz := 5) (ks := (api_Finding.av x1)) (SLe.eq rfl) rfl rfl (by kernel_rfl)) rfl rfl ?_
      refine AO.alloc (z := .agg #[.int .i64 0, .int .i64 0, .int .i64 0, .int .i64 0, .int .i64 0]) (by kernel_rfl) rfl rfl rfl ?_
      refine AO.store (SLe.eq rfl) (SLe.eq rfl) rfl rfl rfl rfl rfl (by kernel_rfl) rfl rfl ?_
      refine AO.nil ?_
      refine thenQ_normal ?_
      refine AC.seq ?_
      refine AC.region ?_
      refine AO.pure (PureOp.fldB (k := 0) (SLe.eq rfl) (by kernel_rfl)) rfl rfl ?_
      refine AO.pure (PureOp.loadB1 (s := .d (iD p1.Year)) (SLe.eq rfl) rfl rfl (by kernel_rfl)) rfl rfl ?_
      refine AO.pure (PureOp.fldB (k := 2) (SLe.eq rfl) (by kernel_rfl)) rfl rfl ?_
      refine AO.pure (PureOp.loadB1 (s := .d (iD x1.From)) (SLe.eq rfl) rfl rfl (by kernel_rfl)) rfl rfl ?_
      refine AO.pure (PureOp.geq (SLe.eq rfl) (SLe.eq rfl)) rfl rfl ?_
      refine AO.pure (PureOp.moveD (SLe.eq rfl)) rfl rfl ?_
      refine AO.guarded rfl rfl (fun hG => PureOp.fldB (k := 0) (SLe.eq rfl) (by kernel_rfl)) rfl rfl ?_
      refine AO.guarded rfl rfl (fun hG => PureOp.loadB1 (s := .d (iD p1.Year)) (SLe.cnd rfl hG) rfl rfl (by kernel_rfl)) rfl rfl ?_
      refine AO.guarded rfl rfl (fun hG => PureOp.fldB (k := 3) (SLe.eq rfl) (by kernel_rfl)) rfl rfl ?_
      refine AO.guarded rfl rfl (fun hG => PureOp.loadB1 (s := .d (iD x1.Until)) (SLe.cnd rfl hG) rfl rfl (by kernel_rfl)) rfl rfl ?_
      refine AO.guarded rfl rfl (fun hG => PureOp.leq (SLe.cnd rfl hG) (SLe.cnd rfl hG)) rfl rfl ?_
      refine AO.pure (PureOp.pickAnd (SLe.eq rfl) rfl rfl (fun h => beq_t h)) rfl rfl ?_
      refine AO.pure (PureOp.moveD (SLe.eq rfl)) rfl rfl ?_
      refine AO.guarded rfl rfl (fun hG => PureOp.fldB (k := 1) (SLe.eq rfl) (by kernel_rfl)) rfl rfl ?_
      refine AO.guarded rfl rfl (fun hG => PureOp.loadB1 (s := .d (iD x1.Schemes)) (SLe.cnd rfl hG) rfl rfl (by kernel_rfl)) rfl rfl ?_
      refine AO.guarded rfl rfl (fun hG => PureOp.fldB (k := 1) (SLe.eq rfl) (by kernel_rfl)) rfl rfl ?_
      refine AO.guarded rfl rfl (fun hG => PureOp.loadB1 (s := .d (iD p1.Scheme)) (SLe.cnd rfl hG) rfl rfl (by kernel_rfl)) rfl rfl ?_
      obtain ⟨g1, H⟩ := H
      refine AO.guarded rfl rfl (fun hG => PureOp.shr (SLe.cnd rfl hG) (SLe.cnd rfl hG) (g1 hG)) rfl rfl ?_
      refine AO.guarded rfl rfl (fun hG => PureOp.and (SLe.cnd rfl hG) (SLe.eq rfl)) rfl rfl ?_
      refine AO.guarded rfl rfl (fun hG => PureOp.eql (SLe.cnd rfl hG) (SLe.eq rfl)) rfl rfl ?_
      refine AO.pure (PureOp.pickAnd (SLe.eq rfl) rfl rfl (fun h => beq_t h)) rfl rfl ?_
      refine AO.nil ?_
      refine thenQ_normal ?_
      refine AC.cond (SLe.eq rfl) (fun hb => ?_) (fun hb => ?_)
      · skip
        replace H := ite_t H hb
        refine AC.region ?_
        refine AO.pure (PureOp.moveO (SLe.eq rfl)) rfl rfl ?_
        refine AO.pure (PureOp.loadBN (sz := 5) (ds := (api_Finding.av x1)) (SLe.eq rfl) rfl rfl rfl rfl (by kernel_rfl)) rfl rfl ?_
        refine AO.pure (PureOp.buildSlice (e := 32) (sz := 5) (z := .agg #[.int .i64 0, .int .i64 0, .int .i64 0, .int .i64 0, .int .i64 0]) (rows := [(api_Finding.av x1)]) (by kernel_rfl) (by kernel_rfl) rfl rfl rfl (.cons (SLe.eq rfl) rfl .nil) rfl rfl rfl rfl) rfl rfl ?_
        obtain ⟨g2, H⟩ := H
        refine AO.appendL (e := 32) (sz := 5) (bs := 40) (av := api_Finding.av) v1 ([x1] : List api_Finding) (SLe.eq rfl) rfl (SLe.eq rfl) (by kernel_rfl) g2 rfl ?_
        refine AO.pure (PureOp.assignO (SLe.eq rfl)) rfl rfl ?_
        refine AO.nil ?_
        refine blockQ_normal ?_
        refine thenQ_normal ?_
        refine AC.region ?_
        refine AO.pure (PureOp.add (SLe.eq rfl) (SLe.eq rfl) (by omega) (by omega)) rfl rfl ?_
        refine AO.pure (PureOp.moveD (SLe.eq rfl)) rfl rfl ?_
        refine AO.nil ?_
        refine thenQ_normal ?_
        refine ⟨(i1 + 1, (v1 ++ ([x1] : List api_Finding))), ⟨hlt1, by rw [hrec1] at H; exact H⟩, (by show p0.length - (i1 + 1) < p0.length - i1; omega), ?_⟩
        exact Le.mk [(1, 3)] ⟨⟨SLe.eq rfl, rfl⟩, rfl, ⟨SLe.eq rfl, rfl⟩, ⟨SLe.eq rfl, rfl⟩, (by first | exact ⟨SLe.eq rfl, rfl⟩ | exact ⟨SLe.int rfl (by omega), rfl⟩), trivial⟩ ⟨⟨_, rfl, ⟨⟨SLe.eq rfl, rfl⟩, ⟨SLe.eq rfl, rfl⟩, ⟨SLe.eq rfl, rfl⟩, trivial⟩⟩, trivial⟩ ⟨⟨_, rfl, rfl⟩, trivial⟩ rfl rfl rfl rfl rfl
      · skip
        replace H := ite_f H hb
        refine AC.skip ?_
        refine blockQ_normal ?_
        refine thenQ_normal ?_
        refine AC.region ?_
        refine AO.pure (PureOp.add (SLe.eq rfl) (SLe.eq rfl) (by omega) (by omega)) rfl rfl ?_
        refine AO.pure (PureOp.moveD (SLe.eq rfl)) rfl rfl ?_
        refine AO.nil ?_
        refine thenQ_normal ?_
        refine ⟨(i1 + 1, v1), ⟨hlt1, by rw [hrec1] at H; exact H⟩, (by show p0.length - (i1 + 1) < p0.length - i1; omega), ?_⟩
        exact Le.mk [(1, 1)] ⟨⟨SLe.eq rfl, rfl⟩, rfl, ⟨SLe.eq rfl, rfl⟩, ⟨SLe.eq rfl, rfl⟩, (by first | exact ⟨SLe.eq rfl, rfl⟩ | exact ⟨SLe.int rfl (by omega), rfl⟩), trivial⟩ ⟨⟨_, rfl, ⟨⟨SLe.eq rfl, rfl⟩, ⟨SLe.eq rfl, rfl⟩, ⟨SLe.eq rfl, rfl⟩, trivial⟩⟩, trivial⟩ ⟨⟨_, rfl, rfl⟩, trivial⟩ rfl rfl rfl rfl rfl
    · skip
      obtain ⟨hd1, _⟩ := drop_end (l := p0) (i := i1) hi1 hb
      rw [hd1] at H
      replace H := forL_end H
      unfold c_con_l1e at H
      refine AC.exit ?_
      refine thenQ_exit ?_
      refine thenQ_exit ?_
      refine blockQ_hit ?_
      refine thenQ_normal ?_
      refine AC.seq ?_
      refine AC.region ?_
      refine AO.pure (PureOp.moveO (SLe.eq rfl)) rfl rfl ?_
      refine AO.pure (PureOp.assignO (SLe.eq rfl)) rfl rfl ?_
      refine AO.nil ?_
      refine thenQ_normal ?_
      refine AC.ret ?_
      exact ⟨4, 1, _, rfl, rfl, rfl, v1, rfl, H⟩
/-- Does a finding concern an amount. -/
def conB (f : api_Finding) (s : api_Spent) : Bool := (decide (f.From ≤ s.Year) && decide (s.Year ≤ f.Until)) && decide ((andK .i64 (shrK .i64 f.Schemes s.Scheme) 1) = 1)
theorem br_conc (f : api_Finding) (s : api_Spent) (h : 0 ≤ s.Scheme ∧ s.Scheme ≤ 15) : FC Try.prog 36 [.agg f.av, .agg s.av] (bD (conB f s)) := by
  have e : IntKind.wrap .u64 s.Scheme = s.Scheme := IntWalk.u64_in _ (by omega)
  refine FC.of1 (enc := fun y : Bool => bD y) (r_conc_w f s _ ⟨fun _ => by rw [e]; exact h.1, ?_⟩)
  rw [e]; rfl
theorem con_loop (s : api_Spent) (Post : List api_Finding → Prop) (h : 0 ≤ s.Scheme) : ∀ (q v : List api_Finding), v.length + q.length ≤ 20 → Post (v ++ q.filter (fun f => conB f s)) → forL (c_con_l1b s) (c_con_l1e Post) q v
  | [], v, _, hp => by
    have hp : Post (v ++ []) := hp
    rw [List.append_nil] at hp
    exact hp
  | x :: q, v, hl, hp => by
    show c_con_l1b s (forL (c_con_l1b s) (c_con_l1e Post) q) x v
    unfold c_con_l1b
    simp only [List.length_cons] at hl
    refine ⟨fun _ => h, ?_⟩
    by_cases hc : conB x s = true
    · rw [List.filter_cons, if_pos hc] at hp
      unfold conB at hc
      rw [if_pos hc]
      refine ⟨by unfold apOK; omega, con_loop s Post h q _ (by simp; omega) ?_⟩
      simpa using hp
    · rw [List.filter_cons, if_neg hc] at hp
      unfold conB at hc
      rw [if_neg hc]
      exact con_loop s Post h q v (by omega) hp
theorem bc_conc (l : List api_Finding) (s : api_Spent) (h : 0 ≤ s.Scheme ∧ s.Scheme ≤ 15 ∧ l.length ≤ 20) : OCalls Try.prog 69 [.sl 5 (l.map api_Finding.av), .agg s.av] (fun x => ∃ y : List api_Finding, x = ⟨32, 5, y.map api_Finding.av⟩ ∧ y = l.filter (fun f => conB f s)) :=
  c_con_w l s (· = l.filter (fun f => conB f s)) (con_loop s _ h.1 l [] (by simp; exact h.2.2) rfl)
def r_next_l1b (p0 : List api_Finding) (p1 : api_Spent) (p2 : List Int) (rec1 : Int → Prop) (i1 : Nat) (x1 : api_Finding) (v1 : Int) : Prop :=
  (0 ≤ (p1).Scheme ∧ (p1).Scheme ≤ 15) ∧ (((conB x1 p1) == true) = true → p2.length ≤ 4611686018427387903) ∧ (((((conB x1 p1) && (!(decide (((i1 : Nat) : Int) ∈ p2)))) == true) && ((decide (v1 < 0)) == false)) = true → inb p0 v1) ∧ (if (((conB x1 p1) && (!(decide (((i1 : Nat) : Int) ∈ p2)))) && (decide (v1 < 0) || decide ((ix p0 v1).Mille < x1.Mille))) = true then rec1 ((i1 : Nat) : Int) else rec1 v1)
def r_next_l1e (Post : Int → Prop) (v1 : Int) : Prop :=
  Post v1
def r_next_W (p0 : List api_Finding) (p1 : api_Spent) (p2 : List Int) (Post : Int → Prop) : Prop :=
  forLI (r_next_l1b p0 p1 p2) (r_next_l1e Post) 0 p0 (-1)
set_option maxRecDepth 100000 in
set_option maxHeartbeats 4000000 in
theorem r_next_w (p0 : List api_Finding) (p1 : api_Spent) (p2 : List Int) (Post : Int → Prop) (H : r_next_W p0 p1 p2 Post) : ACalls Try.prog 74 false false (([(.sl 5 (p0.map api_Finding.av)), (.agg (api_Spent.av p1)), (.sl 1 (p2.map avI))] : List D).map SV.d) (fun r => ∃ y0 : Int, r = (iD y0) ∧ Post y0) := by
  refine ACalls.of Try.func74 rfl rfl rfl rfl rfl fun w0 S0 T => ?_
  unfold r_next_W at H
  refine AC.seq ?_
  refine AC.region ?_
  refine AO.box (SLe.eq rfl) rfl rfl rfl rfl rfl ?_
  refine AO.pure (PureOp.assignD (SLe.eq rfl)) rfl rfl ?_
  refine AO.nil ?_
  refine thenQ_normal ?_
  refine AC.seq ?_
  refine AC.region ?_
  refine AO.pure (PureOp.assignD (SLe.eq rfl)) rfl rfl ?_
  refine AO.nil ?_
  refine thenQ_normal ?_
  refine AC.seq ?_
  refine AC.seq ?_
  refine AC.region ?_
  refine AO.pure (PureOp.assignD (SLe.eq rfl)) rfl rfl ?_
  refine AO.nil ?_
  refine thenQ_normal ?_
  refine AC.block ?_
  refine AC.loop (ι := Nat × Int) (fun q => ⟨[(0, .d (.sl 5 (p0.map api_Finding.av))), (2, .d (.sl 1 (p2.map avI))), (4, .bx 0 0), (7, .d (iD q.2)), (8, .d (iD ((q.1 : Nat) : Int)))], [(0, [.d (iD p1.Year), .d (iD p1.Scheme), .d (iD p1.Amount)])], [], 1, false, 46⟩) (fun q => q.1 ≤ p0.length ∧ forLI (r_next_l1b p0 p1 p2) (r_next_l1e Post) q.1 (p0.drop q.1) q.2) (fun q => p0.length - q.1) (0, (-1)) ?_ ⟨Nat.zero_le _, H⟩ ?_
  · skip
    exact Le.mk [] ⟨⟨SLe.eq rfl, rfl⟩, ⟨SLe.eq rfl, rfl⟩, ⟨SLe.eq rfl, rfl⟩, (by first | exact ⟨SLe.eq rfl, rfl⟩ | exact ⟨SLe.int rfl (by omega), rfl⟩), (by first | exact ⟨SLe.eq rfl, rfl⟩ | exact ⟨SLe.int rfl (by omega), rfl⟩), trivial⟩ ⟨⟨_, rfl, ⟨⟨SLe.eq rfl, rfl⟩, ⟨SLe.eq rfl, rfl⟩, ⟨SLe.eq rfl, rfl⟩, trivial⟩⟩, trivial⟩ trivial rfl rfl rfl rfl rfl
  · rintro ⟨i1, v1⟩ ⟨hi1, H⟩
    dsimp only at hi1 H
    change AC _ _ _ _ _ ⟨[(0, .d (.sl 5 (p0.map api_Finding.av))), (2, .d (.sl 1 (p2.map avI))), (4, .bx 0 0), (7, .d (iD v1)), (8, .d (iD ((i1 : Nat) : Int)))], [(0, [.d (iD p1.Year), .d (iD p1.Scheme), .d (iD p1.Amount)])], [], 1, false, 46⟩ _
    obtain ⟨rec1, hrec1⟩ : ∃ r, r = forLI (r_next_l1b p0 p1 p2) (r_next_l1e Post) (i1 + 1) (p0.drop (i1 + 1)) := ⟨_, rfl⟩
    refine AC.seq ?_
    refine AC.seq ?_
    refine AC.region ?_
    refine AO.pure (PureOp.moveD (SLe.eq rfl)) rfl rfl ?_
    refine AO.pure (PureOp.moveD (SLe.eq rfl)) rfl rfl ?_
    refine AO.pure (PureOp.lenL (e := 32) (s' := 5) (sz := 5) (l := p0) (av := api_Finding.av) (SLe.eq rfl) (by kernel_rfl)) rfl rfl ?_
    refine AO.pure (PureOp.lss (SLe.eq rfl) (SLe.eq rfl)) rfl rfl ?_
    refine AO.nil ?_
    refine thenQ_normal ?_
    refine AC.cond (SLe.eq rfl) (fun hb => ?_) (fun hb => ?_)
    · skip
      obtain ⟨x1, hx1, hd1, hlt1⟩ := drop_at (l := p0) (i := i1) hb
      rw [hd1] at H
      replace H := forLI_step H
      rw [← hrec1] at H
      unfold r_next_l1b at H
      refine AC.len (av := api_Finding.av) (l := p0) (t := 0) (SLe.eq rfl) (fun hL1 => ?_)
      refine AC.skip ?_
      refine thenQ_normal ?_
      refine AC.seq ?_
      refine AC.block ?_
      refine AC.seq ?_
      refine AC.drawN 29 [] (by kernel_rfl) (by kernel_rfl) (by kernel_rfl) .nil (by kernel_rfl) ?_
      refine PSeqN.pure (PureOp.moveD (SLe.eq rfl)) rfl rfl ?_
      refine PSeqN.pure (PureOp.moveD (SLe.eq rfl)) rfl rfl ?_
      refine PSeqN.pure (PureOp.idxE (e := 32) (sz := 5) (av := api_Finding.av) (l := p0) (n := i1) (z := x1) (SLe.eq rfl) (SLe.eq rfl) rfl hx1 (by kernel_rfl)) rfl rfl ?_
      refine PSeqN.pure (PureOp.loadN (sz := 5) (ks := (api_Finding.av x1)) (SLe.eq rfl) rfl rfl (by kernel_rfl)) rfl rfl ?_
      refine PSeqN.pure (PureOp.loadBN (sz := 3) (ds := (api_Spent.av p1)) (SLe.eq rfl) rfl rfl rfl rfl (by kernel_rfl)) rfl rfl ?_
      obtain ⟨g1, H⟩ := H
      refine PSeqN.pure (PureOp.callS (.cons (SLe.eq rfl) (.cons (SLe.eq rfl) .nil)) (br_conc x1 p1 g1) (by kernel_rfl)) rfl rfl ?_
      refine PSeqN.pure (PureOp.moveD (SLe.eq rfl)) rfl rfl ?_
      refine PSeqN.guarded rfl rfl (fun hG => PureOp.moveD (SLe.eq rfl)) rfl rfl ?_
      refine PSeqN.guarded rfl rfl (fun hG => PureOp.moveD (SLe.eq rfl)) rfl rfl ?_
      obtain ⟨g2, H⟩ := H
      refine PSeqN.guarded rfl rfl (fun hG => PureOp.callS (.cons (SLe.cnd rfl hG) (.cons (SLe.cnd rfl hG) .nil)) ((Vis.has_any p2 ((i1 : Nat) : Int) (g2 hG)).any) (by kernel_rfl)) rfl rfl ?_
      refine PSeqN.guarded rfl rfl (fun hG => PureOp.not (SLe.cnd rfl hG)) rfl rfl ?_
      refine PSeqN.pure (PureOp.pickAnd (SLe.eq rfl) rfl rfl (fun h => beq_t h)) rfl rfl ?_
      refine PSeqN.pure (PureOp.moveD (SLe.eq rfl)) rfl rfl ?_
      refine PSeqN.guarded rfl rfl (fun hG => PureOp.moveD (SLe.eq rfl)) rfl rfl ?_
      refine PSeqN.guarded rfl rfl (fun hG => PureOp.lss (SLe.cnd rfl hG) (SLe.eq rfl)) rfl rfl ?_
      refine PSeqN.guarded rfl rfl (fun hG => PureOp.moveD (SLe.cnd rfl hG)) rfl rfl ?_
      refine PSeqN.guarded rfl rfl (fun hG => PureOp.moveD (SLe.eq rfl)) rfl rfl ?_
      refine PSeqN.guarded rfl rfl (fun hG => PureOp.moveD (SLe.eq rfl)) rfl rfl ?_
      refine PSeqN.guarded rfl rfl (fun hG => PureOp.idxE (e := 32) (sz := 5) (av := api_Finding.av) (l := p0) (n := i1) (z := x1) (SLe.cnd rfl hG) (SLe.cnd rfl hG) rfl hx1 (by kernel_rfl)) rfl rfl ?_
      refine PSeqN.guarded rfl rfl (fun hG => PureOp.fld (k := 4) (SLe.cnd rfl hG) (by kernel_rfl)) rfl rfl ?_
      refine PSeqN.guarded rfl rfl (fun hG => PureOp.load1 (c := (iD x1.Mille)) (SLe.cnd rfl hG) rfl (by kernel_rfl)) rfl rfl ?_
      refine PSeqN.guarded rfl rfl (fun hG => PureOp.moveD (SLe.eq rfl)) rfl rfl ?_
      refine PSeqN.guarded rfl rfl (fun hG => PureOp.moveD (SLe.eq rfl)) rfl rfl ?_
      obtain ⟨g3, H⟩ := H
      refine PSeqN.guarded rfl rfl (fun hG => PureOp.idxI (e := 32) (sz := 5) (av := api_Finding.av) (l := p0) (SLe.cnd rfl hG) (SLe.cnd rfl hG) (g3 hG) (by kernel_rfl)) rfl rfl ?_
      refine PSeqN.guarded rfl rfl (fun hG => PureOp.fld (k := 4) (SLe.cnd rfl hG) (by kernel_rfl)) rfl rfl ?_
      refine PSeqN.guarded rfl rfl (fun hG => PureOp.load1 (c := (iD ((ix p0 v1).Mille))) (SLe.cnd rfl hG) rfl (by kernel_rfl)) rfl rfl ?_
      refine PSeqN.guarded rfl rfl (fun hG => PureOp.gtr (SLe.cnd rfl hG) (SLe.cnd rfl hG)) rfl rfl ?_
      refine PSeqN.guarded rfl rfl (fun hG => PureOp.pickOr (SLe.cnd rfl hG) rfl rfl (fun h => and_i hG (beq_f h))) rfl rfl ?_
      refine PSeqN.pure (PureOp.pickAnd (SLe.eq rfl) rfl rfl (fun h => beq_t h)) rfl rfl ?_
      refine PSeqN.nil ?_
      refine AO.nil ?_
      refine thenQ_normal ?_
      refine AC.cond (SLe.eq rfl) (fun hb => ?_) (fun hb => ?_)
      · skip
        replace H := ite_t H hb
        refine AC.region ?_
        refine AO.pure (PureOp.moveD (SLe.eq rfl)) rfl rfl ?_
        refine AO.pure (PureOp.assignD (SLe.eq rfl)) rfl rfl ?_
        refine AO.nil ?_
        refine blockQ_normal ?_
        refine thenQ_normal ?_
        refine AC.region ?_
        refine AO.pure (PureOp.moveD (SLe.eq rfl)) rfl rfl ?_
        refine AO.pure (PureOp.add (SLe.eq rfl) (SLe.eq rfl) (by omega) (by omega)) rfl rfl ?_
        refine AO.pure (PureOp.assignD (SLe.eq rfl)) rfl rfl ?_
        refine AO.nil ?_
        refine thenQ_normal ?_
        refine ⟨(i1 + 1, ((i1 : Nat) : Int)), ⟨hlt1, by rw [hrec1] at H; exact H⟩, (by show p0.length - (i1 + 1) < p0.length - i1; omega), ?_⟩
        exact Le.mk [] ⟨⟨SLe.eq rfl, rfl⟩, ⟨SLe.eq rfl, rfl⟩, ⟨SLe.eq rfl, rfl⟩, (by first | exact ⟨SLe.eq rfl, rfl⟩ | exact ⟨SLe.int rfl (by omega), rfl⟩), (by first | exact ⟨SLe.eq rfl, rfl⟩ | exact ⟨SLe.int rfl (by omega), rfl⟩), trivial⟩ ⟨⟨_, rfl, ⟨⟨SLe.eq rfl, rfl⟩, ⟨SLe.eq rfl, rfl⟩, ⟨SLe.eq rfl, rfl⟩, trivial⟩⟩, trivial⟩ trivial rfl rfl rfl rfl rfl
      · skip
        replace H := ite_f H hb
        refine AC.skip ?_
        refine blockQ_normal ?_
        refine thenQ_normal ?_
        refine AC.region ?_
        refine AO.pure (PureOp.moveD (SLe.eq rfl)) rfl rfl ?_
        refine AO.pure (PureOp.add (SLe.eq rfl) (SLe.eq rfl) (by omega) (by omega)) rfl rfl ?_
        refine AO.pure (PureOp.assignD (SLe.eq rfl)) rfl rfl ?_
        refine AO.nil ?_
        refine thenQ_normal ?_
        refine ⟨(i1 + 1, v1), ⟨hlt1, by rw [hrec1] at H; exact H⟩, (by show p0.length - (i1 + 1) < p0.length - i1; omega), ?_⟩
        exact Le.mk [] ⟨⟨SLe.eq rfl, rfl⟩, ⟨SLe.eq rfl, rfl⟩, ⟨SLe.eq rfl, rfl⟩, ⟨SLe.eq rfl, rfl⟩, (by first | exact ⟨SLe.eq rfl, rfl⟩ | exact ⟨SLe.int rfl (by omega), rfl⟩), trivial⟩ ⟨⟨_, rfl, ⟨⟨SLe.eq rfl, rfl⟩, ⟨SLe.eq rfl, rfl⟩, ⟨SLe.eq rfl, rfl⟩, trivial⟩⟩, trivial⟩ trivial rfl rfl rfl rfl rfl
    · skip
      obtain ⟨hd1, _⟩ := drop_end (l := p0) (i := i1) hi1 hb
      rw [hd1] at H
      replace H := forLI_end H
      unfold r_next_l1e at H
      refine AC.exit ?_
      refine thenQ_exit ?_
      refine thenQ_exit ?_
      refine blockQ_hit ?_
      refine thenQ_normal ?_
      refine AC.seq ?_
      refine AC.region ?_
      refine AO.pure (PureOp.moveD (SLe.eq rfl)) rfl rfl ?_
      refine AO.pure (PureOp.assignD (SLe.eq rfl)) rfl rfl ?_
      refine AO.nil ?_
      refine thenQ_normal ?_
      refine AC.ret ?_
      refine ⟨rfl, _, ?_, ResOf.one (GetR.any (r := (iD v1)) (SLe.eq rfl))⟩
      exact ⟨v1, rfl, H⟩
/-! ### next of the reference -/
def nextS (l : List api_Finding) (s : api_Spent) (done : List Int) (o : Int) (p : api_Finding × Nat) : Int := if (conB p.1 s && (!decide ((p.2 : Int) ∈ done))) && (decide (o < 0) || decide ((ix l o).Mille < p.1.Mille)) then (p.2 : Int) else o
def nextI (l : List api_Finding) (s : api_Spent) (done : List Int) : Int := l.zipIdx.foldl (nextS l s done) (-1)
theorem next_loop (l : List api_Finding) (s : api_Spent) (done : List Int) (Post : Int → Prop) (h : 0 ≤ s.Scheme ∧ s.Scheme ≤ 15) (hl : l.length ≤ 20) (hd : done.length ≤ 20) : ∀ (q : List api_Finding) (i : Nat) (o : Int), i + q.length = l.length → (o = -1 ∨ (0 ≤ o ∧ o < i)) → Post ((q.zipIdx i).foldl (nextS l s done) o) → forLI (r_next_l1b l s done) (r_next_l1e Post) i q o
  | [], i, o, _, _, hp => hp
  | x :: q, i, o, hi, ho, hp => by
    show r_next_l1b l s done (forLI (r_next_l1b l s done) (r_next_l1e Post) (i + 1) q) i x o
    unfold r_next_l1b
    simp only [List.length_cons] at hi
    simp only [List.zipIdx_cons, List.foldl_cons] at hp
    refine ⟨h, fun _ => by omega, fun hg => ?_, ?_⟩
    · unfold inb
      simp at hg
      omega
    · unfold nextS at hp
      split
      · rename_i hc
        rw [if_pos hc] at hp
        exact next_loop l s done Post h hl hd q (i + 1) i (by omega) (by omega) hp
      · rename_i hc
        rw [if_neg hc] at hp
        exact next_loop l s done Post h hl hd q (i + 1) o (by omega) (by omega) hp
theorem br_next (l : List api_Finding) (s : api_Spent) (d : List Int) (h : 0 ≤ s.Scheme ∧ s.Scheme ≤ 15 ∧ l.length ≤ 20 ∧ d.length ≤ 20) : FC Try.prog 74 [.sl 5 (l.map api_Finding.av), .agg s.av, .sl 1 (d.map avI)] (iD (nextI l s d)) :=
  FC.of1 (enc := fun y : Int => iD y) (r_next_w l s d _ (next_loop l s d _ ⟨h.1, h.2.1⟩ h.2.2.1 h.2.2.2 l 0 (-1) (by simp) (.inl rfl) rfl))
def c_cor_l2b (Post : List Int → Int → Prop) (rec2 : Int → Prop) (x2 : api_Finding) (v2 : Int) : Prop :=
  (0 ≤ v2 ∧ v2 ≤ 68719476736 ∧ 0 ≤ x2.Mille ∧ x2.Mille ≤ 1000) ∧ (if (!decide (0 = 0)) = true then Post ([] : List Int) 0 else rec2 (w64 (v2 - (partI v2 x2.Mille))))
def c_cor_l2e (v1 : List Int) (rec1 : (List Int) → Prop) (x1 : api_Spent) (v2 : Int) : Prop :=
  (apOK 8 v1.length 1) ∧ rec1 (v1 ++ ([w64 (x1.Amount - v2)] : List Int))
def c_cor_l1b (p0 : List api_Finding) (Post : List Int → Int → Prop) (rec1 : (List Int) → Prop) (x1 : api_Spent) (v1 : List Int) : Prop :=
  (0 ≤ (x1).Scheme ∧ (x1).Scheme ≤ 15 ∧ p0.length ≤ 20) ∧ ((p0.filter (fun f => conB f x1)).length ≤ 20) ∧ ∀ z1 : List api_Finding, Sorted (p0.filter (fun f => conB f x1)) z1 → forL (c_cor_l2b Post) (c_cor_l2e v1 rec1 x1) z1 x1.Amount
def c_cor_l1e (Post : List Int → Int → Prop) (v1 : List Int) : Prop :=
  Post v1 0
def c_cor_W (p0 : List api_Finding) (p1 : List api_Spent) (Post : List Int → Int → Prop) : Prop :=
  (if (!decide ((chkC p0 p1) = 0)) = true then Post ([] : List Int) (chkC p0 p1) else forL (c_cor_l1b p0 Post) (c_cor_l1e Post) p1 ([] : List Int))
set_option maxRecDepth 100000 in
set_option maxHeartbeats 4000000 in
theorem c_cor_w (p0 : List api_Finding) (p1 : List api_Spent) (Post : List Int → Int → Prop) (H : c_cor_W p0 p1 Post) : ACalls Try.prog 20 false false (([(.sl 5 (p0.map api_Finding.av)), (.sl 3 (p1.map api_Spent.av))] : List D).map SV.d) (fun r => ∃ y0 : (List Int), ∃ y1 : Int, r = .tup [(.sl 1 (y0.map avI)), (iD y1)] ∧ Post y0 y1) := by
  refine ACalls.of Try.func20 rfl rfl rfl rfl rfl fun w0 S0 T => ?_
  unfold c_cor_W at H
  refine AC.seq ?_
  refine AC.region ?_
  refine AO.pure (PureOp.assignD (SLe.eq rfl)) rfl rfl ?_
  refine AO.pure (PureOp.assignD (SLe.eq rfl)) rfl rfl ?_
  refine AO.nil ?_
  refine thenQ_normal ?_
  refine AC.seq ?_
  refine AC.seq ?_
  refine AC.region ?_
  refine AO.pure (PureOp.moveD (SLe.eq rfl)) rfl rfl ?_
  refine AO.pure (PureOp.moveD (SLe.eq rfl)) rfl rfl ?_
  refine AO.pure (PureOp.callS (.cons (SLe.eq rfl) (.cons (SLe.eq rfl) .nil)) (bc_chk p0 p1) (by kernel_rfl)) rfl rfl ?_
  refine AO.pure (PureOp.assignD (SLe.eq rfl)) rfl rfl ?_
  refine AO.nil ?_
  refine thenQ_normal ?_
  refine AC.seq ?_
  refine AC.region ?_
  refine AO.pure (PureOp.moveD (SLe.eq rfl)) rfl rfl ?_
  refine AO.pure (PureOp.neq (SLe.eq rfl) (SLe.eq rfl)) rfl rfl ?_
  refine AO.nil ?_
  refine thenQ_normal ?_
  refine AC.cond (SLe.eq rfl) (fun hb => ?_) (fun hb => ?_)
  · skip
    replace H := ite_t H hb
    refine AC.seq ?_
    refine AC.region ?_
    refine AO.pure (PureOp.moveD (SLe.eq rfl)) rfl rfl ?_
    refine AO.pure (PureOp.assignD (SLe.eq rfl)) rfl rfl ?_
    refine AO.pure (PureOp.assignD (SLe.eq rfl)) rfl rfl ?_
    refine AO.nil ?_
    refine thenQ_normal ?_
    refine AC.ret ?_
    refine thenQ_ret ?_
    refine ⟨rfl, _, ?_, ResOf.two (GetR.nil (sz := 1) (SLe.eq rfl)) (GetR.any (r := (iD (chkC p0 p1))) (SLe.eq rfl))⟩
    exact ⟨([] : List Int), (chkC p0 p1), rfl, H⟩
  · skip
    replace H := ite_f H hb
    refine AC.skip ?_
    refine thenQ_normal ?_
    refine AC.seq ?_
    refine AC.region ?_
    refine AO.pure (PureOp.assignD (SLe.eq rfl)) rfl rfl ?_
    refine AO.nil ?_
    refine thenQ_normal ?_
    refine AC.seq ?_
    refine AC.seq ?_
    refine AC.region ?_
    refine AO.pure (PureOp.moveD (SLe.eq rfl)) rfl rfl ?_
    refine AO.pure (PureOp.lenL (e := 36) (s' := 3) (sz := 3) (l := p1) (av := api_Spent.av) (SLe.eq rfl) (by kernel_rfl)) rfl rfl ?_
    refine AO.pure (PureOp.moveD (SLe.eq rfl)) rfl rfl ?_
    refine AO.nil ?_
    refine thenQ_normal ?_
    refine AC.block ?_
    refine AC.loop (ι := Nat × (List Int)) (fun q => ⟨[(0, .d (.sl 5 (p0.map api_Finding.av))), (7, .os 0), (22, .d (.sl 3 (p1.map api_Spent.av))), (23, .d (iD ((p1.length : Nat) : Int))), (24, .d (iD ((q.1 : Nat) : Int)))], [], [(0, ⟨3, 1, q.2.map avI⟩)], 1, false, 64⟩) (fun q => q.1 ≤ p1.length ∧ forL (c_cor_l1b p0 Post) (c_cor_l1e Post) (p1.drop q.1) q.2) (fun q => p1.length - q.1) (0, ([] : List Int)) ?_ ⟨Nat.zero_le _, H⟩ ?_
    · skip
      refine Le.trans (Le.ownNil 7 3 1 rfl rfl) ?_
      exact Le.mk [(0, 0)] ⟨⟨SLe.eq rfl, rfl⟩, rfl, ⟨SLe.eq rfl, rfl⟩, ⟨SLe.eq rfl, rfl⟩, (by first | exact ⟨SLe.eq rfl, rfl⟩ | exact ⟨SLe.int rfl (by omega), rfl⟩), trivial⟩ trivial ⟨⟨_, rfl, rfl⟩, trivial⟩ rfl rfl rfl rfl rfl
    · rintro ⟨i1, v1⟩ ⟨hi1, H⟩
      dsimp only at hi1 H
      change AC _ _ _ _ _ ⟨[(0, .d (.sl 5 (p0.map api_Finding.av))), (7, .os 0), (22, .d (.sl 3 (p1.map api_Spent.av))), (23, .d (iD ((p1.length : Nat) : Int))), (24, .d (iD ((i1 : Nat) : Int)))], [], [(0, ⟨3, 1, v1.map avI⟩)], 1, false, 64⟩ _
      obtain ⟨rec1, hrec1⟩ : ∃ r, r = forL (c_cor_l1b p0 Post) (c_cor_l1e Post) (p1.drop (i1 + 1)) := ⟨_, rfl⟩
      refine AC.seq ?_
      refine AC.region ?_
      refine AO.pure (PureOp.lss (SLe.eq rfl) (SLe.eq rfl)) rfl rfl ?_
      refine AO.nil ?_
      refine thenQ_normal ?_
      refine AC.seq ?_
      refine AC.cond (SLe.eq rfl) (fun hb => ?_) (fun hb => ?_)
      · skip
        obtain ⟨x1, hx1, hd1, hlt1⟩ := drop_at (l := p1) (i := i1) hb
        rw [hd1] at H
        replace H := forL_step H
        rw [← hrec1] at H
        unfold c_cor_l1b at H
        refine AC.len (av := api_Spent.av) (l := p1) (t := 22) (SLe.eq rfl) (fun hL1 => ?_)
        refine AC.skip ?_
        refine thenQ_normal ?_
        refine AC.seq ?_
        refine AC.block ?_
        refine AC.seq ?_
        refine AC.region ?_
        refine AO.pure (PureOp.idxE (e := 36) (sz := 3) (av := api_Spent.av) (l := p1) (n := i1) (z := x1) (SLe.eq rfl) (SLe.eq rfl) rfl hx1 (by kernel_rfl)) rfl rfl ?_
        refine AO.pure (PureOp.loadN (sz := 3) (ks := (api_Spent.av x1)) (SLe.eq rfl) rfl rfl (by kernel_rfl)) rfl rfl ?_
        refine AO.alloc (z := .agg #[.int .i64 0, .int .i64 0, .int .i64 0]) (by kernel_rfl) rfl rfl rfl ?_
        refine AO.store (SLe.eq rfl) (SLe.eq rfl) rfl rfl rfl rfl rfl (by kernel_rfl) rfl rfl ?_
        refine AO.nil ?_
        refine thenQ_normal ?_
        refine AC.seq ?_
        refine AC.region ?_
        refine AO.pure (PureOp.moveD (SLe.eq rfl)) rfl rfl ?_
        refine AO.pure (PureOp.loadBN (sz := 3) (ds := (api_Spent.av x1)) (SLe.eq rfl) rfl rfl rfl rfl (by kernel_rfl)) rfl rfl ?_
        obtain ⟨g1, H⟩ := H
        refine AO.ocall (e := 32) (sz := 5) (av := api_Finding.av) (.cons (SLe.eq rfl) (.cons (SLe.eq rfl) .nil)) (bc_conc p0 x1 g1) rfl (by kernel_rfl) rfl ?_
        rintro _ rfl
        refine AO.pure (PureOp.assignO (SLe.eq rfl)) rfl rfl ?_
        refine AO.nil ?_
        refine thenQ_normal ?_
        refine AC.seq ?_
        refine AC.region ?_
        refine AO.pure (PureOp.moveO (SLe.eq rfl)) rfl rfl ?_
        obtain ⟨g2, H⟩ := H
        refine AO.sortK sorts (fun _ => rfl) (fun _ => rfl) vs_one sorted_nil Sorted_nil (p0.filter (fun f => conB f x1)) (SLe.eq rfl) (SLe.eq rfl) rfl rfl g2 (by kernel_rfl) rfl ?_
        intro z1 h1
        replace H := H z1 h1
        refine AO.nil ?_
        refine thenQ_normal ?_
        refine AC.seq ?_
        refine AC.region ?_
        refine AO.pure (PureOp.fldB (k := 2) (SLe.eq rfl) (by kernel_rfl)) rfl rfl ?_
        refine AO.pure (PureOp.loadB1 (s := .d (iD x1.Amount)) (SLe.eq rfl) rfl rfl (by kernel_rfl)) rfl rfl ?_
        refine AO.pure (PureOp.assignD (SLe.eq rfl)) rfl rfl ?_
        refine AO.nil ?_
        refine thenQ_normal ?_
        refine AC.seq ?_
        refine AC.seq ?_
        refine AC.region ?_
        refine AO.pure (PureOp.moveO (SLe.eq rfl)) rfl rfl ?_
        refine AO.pure (PureOp.lenOL (e := 32) (s' := 5) (sz := 5) (l := z1) (av := api_Finding.av) (SLe.eq rfl) rfl rfl (by kernel_rfl)) rfl rfl ?_
        refine AO.pure (PureOp.moveD (SLe.eq rfl)) rfl rfl ?_
        refine AO.nil ?_
        refine thenQ_normal ?_
        refine AC.block ?_
        refine AC.loop (ι := Nat × Int) (fun q => ⟨[(0, .d (.sl 5 (p0.map api_Finding.av))), (7, .os 0), (9, .bx 1 0), (11, .d (iD q.2)), (22, .d (.sl 3 (p1.map api_Spent.av))), (23, .d (iD ((p1.length : Nat) : Int))), (24, .d (iD ((i1 : Nat) : Int))), (35, .os 2), (36, .d (iD ((z1.length : Nat) : Int))), (37, .d (iD ((q.1 : Nat) : Int)))], [(1, [.d (iD x1.Year), .d (iD x1.Scheme), .d (iD x1.Amount)])], [(0, ⟨3, 1, v1.map avI⟩), (2, ⟨32, 5, z1.map api_Finding.av⟩)], 3, false, 64⟩) (fun q => q.1 ≤ z1.length ∧ forL (c_cor_l2b Post) (c_cor_l2e v1 rec1 x1) (z1.drop q.1) q.2) (fun q => z1.length - q.1) (0, x1.Amount) ?_ ⟨Nat.zero_le _, H⟩ ?_
        · skip
          exact Le.mk [(0, 0), (2, 2)] ⟨⟨SLe.eq rfl, rfl⟩, rfl, ⟨SLe.eq rfl, rfl⟩, (by first | exact ⟨SLe.eq rfl, rfl⟩ | exact ⟨SLe.int rfl (by omega), rfl⟩), ⟨SLe.eq rfl, rfl⟩, ⟨SLe.eq rfl, rfl⟩, ⟨SLe.eq rfl, rfl⟩, rfl, ⟨SLe.eq rfl, rfl⟩, (by first | exact ⟨SLe.eq rfl, rfl⟩ | exact ⟨SLe.int rfl (by omega), rfl⟩), trivial⟩ ⟨⟨_, rfl, ⟨⟨SLe.eq rfl, rfl⟩, ⟨SLe.eq rfl, rfl⟩, ⟨SLe.eq rfl, rfl⟩, trivial⟩⟩, trivial⟩ ⟨⟨_, rfl, rfl⟩, ⟨_, rfl, rfl⟩, trivial⟩ rfl rfl rfl rfl rfl
        · rintro ⟨i2, v2⟩ ⟨hi2, H⟩
          dsimp only at hi2 H
          change AC _ _ _ _ _ ⟨[(0, .d (.sl 5 (p0.map api_Finding.av))), (7, .os 0), (9, .bx 1 0), (11, .d (iD v2)), (22, .d (.sl 3 (p1.map api_Spent.av))), (23, .d (iD ((p1.length : Nat) : Int))), (24, .d (iD ((i1 : Nat) : Int))), (35, .os 2), (36, .d (iD ((z1.length : Nat) : Int))), (37, .d (iD ((i2 : Nat) : Int)))], [(1, [.d (iD x1.Year), .d (iD x1.Scheme), .d (iD x1.Amount)])], [(0, ⟨3, 1, v1.map avI⟩), (2, ⟨32, 5, z1.map api_Finding.av⟩)], 3, false, 64⟩ _
          obtain ⟨rec2, hrec2⟩ : ∃ r, r = forL (c_cor_l2b Post) (c_cor_l2e v1 rec1 x1) (z1.drop (i2 + 1)) := ⟨_, rfl⟩
          refine AC.seq ?_
          refine AC.region ?_
          refine AO.pure (PureOp.lss (SLe.eq rfl) (SLe.eq rfl)) rfl rfl ?_
          refine AO.nil ?_
          refine thenQ_normal ?_
          refine AC.seq ?_
          refine AC.cond (SLe.eq rfl) (fun hb => ?_) (fun hb => ?_)
          · skip
            obtain ⟨x2, hx2, hd2, hlt2⟩ := drop_at (l := z1) (i := i2) hb
            rw [hd2] at H
            replace H := forL_step H
            rw [← hrec2] at H
            unfold c_cor_l2b at H
            refine AC.lenO (av := api_Finding.av) (l := z1) (id := 2) rfl rfl (fun hL2 => ?_)
            refine AC.skip ?_
            refine thenQ_normal ?_
            refine AC.seq ?_
            refine AC.block ?_
            refine AC.seq ?_
            refine AC.region ?_
            refine AO.pure (PureOp.idxOE (e := 32) (sz := 5) (l := z1) (n := i2) (SLe.eq rfl) rfl (SLe.eq rfl) rfl hlt2 rfl (by kernel_rfl)) rfl rfl ?_
            refine AO.pure (PureOp.loadONL (n := i2) (j := 0) (z := x2) (s2 := 5) (ks := (api_Finding.av x2)) (SLe.eq rfl) rfl hx2 rfl rfl (by kernel_rfl)) rfl rfl ?_
            refine AO.alloc (z := .agg #[.int .i64 0, .int .i64 0, .int .i64 0, .int .i64 0, .int .i64 0]) (by kernel_rfl) rfl rfl rfl ?_
            refine AO.store (SLe.eq rfl) (SLe.eq rfl) rfl rfl rfl rfl rfl (by kernel_rfl) rfl rfl ?_
            refine AO.nil ?_
            refine thenQ_normal ?_
            refine AC.seq ?_
            refine AC.region ?_
            refine AO.pure (PureOp.moveD (SLe.eq rfl)) rfl rfl ?_
            refine AO.pure (PureOp.fldB (k := 4) (SLe.eq rfl) (by kernel_rfl)) rfl rfl ?_
            refine AO.pure (PureOp.loadB1 (s := .d (iD x2.Mille)) (SLe.eq rfl) rfl rfl (by kernel_rfl)) rfl rfl ?_
            obtain ⟨g3, H⟩ := H
            refine AO.pure (PureOp.callS (.cons (SLe.eq rfl) (.cons (SLe.eq rfl) (.cons (SLe.eq rfl) .nil))) (bp_part v2 x2.Mille g3) (by kernel_rfl)) rfl rfl ?_
            refine AO.pure (PureOp.moveD (SLe.eq rfl)) rfl rfl ?_
            refine AO.pure (PureOp.extract (c := (iD (partI v2 x2.Mille))) (SLe.eq rfl) rfl) rfl rfl ?_
            refine AO.pure (PureOp.extract (c := (iD 0)) (SLe.eq rfl) rfl) rfl rfl ?_
            refine AO.pure (PureOp.assignD (SLe.eq rfl)) rfl rfl ?_
            refine AO.pure (PureOp.assignD (SLe.eq rfl)) rfl rfl ?_
            refine AO.nil ?_
            refine thenQ_normal ?_
            refine AC.seq ?_
            refine AC.seq ?_
            refine AC.region ?_
            refine AO.pure (PureOp.moveD (SLe.eq rfl)) rfl rfl ?_
            refine AO.pure (PureOp.neq (SLe.eq rfl) (SLe.eq rfl)) rfl rfl ?_
            refine AO.nil ?_
            refine thenQ_normal ?_
            refine AC.cond (SLe.eq rfl) (fun hb => ?_) (fun hb => ?_)
            · skip
              replace H := ite_t H hb
              refine AC.seq ?_
              refine AC.region ?_
              refine AO.pure (PureOp.moveD (SLe.eq rfl)) rfl rfl ?_
              refine AO.pure (PureOp.assignD (SLe.eq rfl)) rfl rfl ?_
              refine AO.pure (PureOp.assignD (SLe.eq rfl)) rfl rfl ?_
              refine AO.nil ?_
              refine thenQ_normal ?_
              refine AC.ret ?_
              refine thenQ_ret ?_
              refine blockQ_ret ?_
              refine thenQ_ret ?_
              refine thenQ_ret ?_
              refine blockQ_ret ?_
              refine thenQ_ret ?_
              refine blockQ_ret ?_
              refine thenQ_ret ?_
              refine thenQ_ret ?_
              refine blockQ_ret ?_
              refine thenQ_ret ?_
              refine ⟨rfl, _, ?_, ResOf.two (GetR.nil (sz := 1) (SLe.eq rfl)) (GetR.any (r := (iD 0)) (SLe.eq rfl))⟩
              exact ⟨([] : List Int), 0, rfl, H⟩
            · skip
              replace H := ite_f H hb
              refine AC.skip ?_
              refine thenQ_normal ?_
              refine AC.region ?_
              refine AO.pure (PureOp.moveD (SLe.eq rfl)) rfl rfl ?_
              refine AO.pure (PureOp.moveD (SLe.eq rfl)) rfl rfl ?_
              refine AO.pure (PureOp.subW (SLe.eq rfl) (SLe.eq rfl)) rfl rfl ?_
              refine AO.pure (PureOp.assignD (SLe.eq rfl)) rfl rfl ?_
              refine AO.nil ?_
              refine blockQ_normal ?_
              refine thenQ_normal ?_
              refine AC.region ?_
              refine AO.pure (PureOp.add (SLe.eq rfl) (SLe.eq rfl) (by omega) (by omega)) rfl rfl ?_
              refine AO.pure (PureOp.moveD (SLe.eq rfl)) rfl rfl ?_
              refine AO.nil ?_
              refine thenQ_normal ?_
              refine ⟨(i2 + 1, w64 (v2 - (partI v2 x2.Mille))), ⟨hlt2, by rw [hrec2] at H; exact H⟩, (by show z1.length - (i2 + 1) < z1.length - i2; omega), ?_⟩
              exact Le.mk [(0, 0), (2, 2)] ⟨⟨SLe.eq rfl, rfl⟩, rfl, ⟨SLe.eq rfl, rfl⟩, (by first | exact ⟨SLe.eq rfl, rfl⟩ | exact ⟨SLe.int rfl (by omega), rfl⟩), ⟨SLe.eq rfl, rfl⟩, ⟨SLe.eq rfl, rfl⟩, ⟨SLe.eq rfl, rfl⟩, rfl, ⟨SLe.eq rfl, rfl⟩, (by first | exact ⟨SLe.eq rfl, rfl⟩ | exact ⟨SLe.int rfl (by omega), rfl⟩), trivial⟩ ⟨⟨_, rfl, ⟨⟨SLe.eq rfl, rfl⟩, ⟨SLe.eq rfl, rfl⟩, ⟨SLe.eq rfl, rfl⟩, trivial⟩⟩, trivial⟩ ⟨⟨_, rfl, rfl⟩, ⟨_, rfl, rfl⟩, trivial⟩ rfl rfl rfl rfl rfl
          · skip
            obtain ⟨hd2, _⟩ := drop_end (l := z1) (i := i2) hi2 hb
            rw [hd2] at H
            replace H := forL_end H
            unfold c_cor_l2e at H
            refine AC.exit ?_
            refine thenQ_exit ?_
            refine thenQ_exit ?_
            refine blockQ_hit ?_
            refine thenQ_normal ?_
            refine AC.region ?_
            refine AO.pure (PureOp.moveO (SLe.eq rfl)) rfl rfl ?_
            refine AO.pure (PureOp.fldB (k := 2) (SLe.eq rfl) (by kernel_rfl)) rfl rfl ?_
            refine AO.pure (PureOp.loadB1 (s := .d (iD x1.Amount)) (SLe.eq rfl) rfl rfl (by kernel_rfl)) rfl rfl ?_
            refine AO.pure (PureOp.moveD (SLe.eq rfl)) rfl rfl ?_
            refine AO.pure (PureOp.subW (SLe.eq rfl) (SLe.eq rfl)) rfl rfl ?_
            refine AO.pure (PureOp.buildSlice (e := 3) (sz := 1) (z := .int .i64 0) (rows := [[(iD (w64 (x1.Amount - v2)))]]) (by kernel_rfl) (by kernel_rfl) rfl rfl rfl (.cons (SLe.eq rfl) rfl .nil) rfl rfl rfl rfl) rfl rfl ?_
            obtain ⟨g4, H⟩ := H
            refine AO.appendL (e := 3) (sz := 1) (bs := 8) (av := avI) v1 ([w64 (x1.Amount - v2)] : List Int) (SLe.eq rfl) rfl (SLe.eq rfl) (by kernel_rfl) g4 rfl ?_
            refine AO.pure (PureOp.assignO (SLe.eq rfl)) rfl rfl ?_
            refine AO.nil ?_
            refine blockQ_normal ?_
            refine thenQ_normal ?_
            refine AC.region ?_
            refine AO.pure (PureOp.add (SLe.eq rfl) (SLe.eq rfl) (by omega) (by omega)) rfl rfl ?_
            refine AO.pure (PureOp.moveD (SLe.eq rfl)) rfl rfl ?_
            refine AO.nil ?_
            refine thenQ_normal ?_
            refine ⟨(i1 + 1, (v1 ++ ([w64 (x1.Amount - v2)] : List Int))), ⟨hlt1, by rw [hrec1] at H; exact H⟩, (by show p1.length - (i1 + 1) < p1.length - i1; omega), ?_⟩
            exact Le.mk [(0, 3)] ⟨⟨SLe.eq rfl, rfl⟩, rfl, ⟨SLe.eq rfl, rfl⟩, ⟨SLe.eq rfl, rfl⟩, (by first | exact ⟨SLe.eq rfl, rfl⟩ | exact ⟨SLe.int rfl (by omega), rfl⟩), trivial⟩ trivial ⟨⟨_, rfl, rfl⟩, trivial⟩ rfl rfl rfl rfl rfl
      · skip
        obtain ⟨hd1, _⟩ := drop_end (l := p1) (i := i1) hi1 hb
        rw [hd1] at H
        replace H := forL_end H
        unfold c_cor_l1e at H
        refine AC.exit ?_
        refine thenQ_exit ?_
        refine thenQ_exit ?_
        refine blockQ_hit ?_
        refine thenQ_normal ?_
        refine AC.seq ?_
        refine AC.region ?_
        refine AO.pure (PureOp.moveO (SLe.eq rfl)) rfl rfl ?_
        refine AO.pure (PureOp.assignO (SLe.eq rfl)) rfl rfl ?_
        refine AO.pure (PureOp.assignD (SLe.eq rfl)) rfl rfl ?_
        refine AO.nil ?_
        refine thenQ_normal ?_
        refine AC.ret ?_
        refine ⟨rfl, _, ?_, ResOf.two (GetR.ownA (SLe.eq rfl) rfl rfl) (GetR.any (r := (iD 0)) (SLe.eq rfl))⟩
        exact ⟨v1, 0, rfl, H⟩
def r_cor_l2b (p0 : List api_Finding) (Post : List Int → Int → Prop) (v1 : List Int) (rec1 : (List Int) → Prop) (x1 : api_Spent) (rec2 : (Int × Int × (List Int)) → Prop) (v2 : Int × Int × (List Int)) : Prop :=
  (if decide (0 ≤ v2.2.1) = true then (inb p0 v2.2.1) ∧ (0 ≤ v2.1 ∧ v2.1 ≤ 68719476736 ∧ 0 ≤ ((ix p0 v2.2.1).Mille) ∧ ((ix p0 v2.2.1).Mille) ≤ 1000) ∧ (if (!decide (0 = 0)) = true then Post ([] : List Int) 0 else (apOK 8 v2.2.2.length 1) ∧ (0 ≤ (x1).Scheme ∧ (x1).Scheme ≤ 15 ∧ p0.length ≤ 20 ∧ (v2.2.2 ++ ([v2.2.1] : List Int)).length ≤ 20) ∧ rec2 (w64 (v2.1 - (partI v2.1 ((ix p0 v2.2.1).Mille))), (nextI p0 x1 (v2.2.2 ++ ([v2.2.1] : List Int))), (v2.2.2 ++ ([v2.2.1] : List Int)))) else (apOK 8 v1.length 1) ∧ rec1 (v1 ++ ([w64 (x1.Amount - v2.1)] : List Int)))
def r_cor_l1b (p0 : List api_Finding) (Post : List Int → Int → Prop) (rec1 : (List Int) → Prop) (x1 : api_Spent) (v1 : List Int) : Prop :=
  (0 ≤ (x1).Scheme ∧ (x1).Scheme ≤ 15 ∧ p0.length ≤ 20 ∧ ([] : List Int).length ≤ 20) ∧ (∃ m : Nat, forF (r_cor_l2b p0 Post v1 rec1 x1) m (x1.Amount, (nextI p0 x1 ([] : List Int)), ([] : List Int)))
def r_cor_l1e (Post : List Int → Int → Prop) (v1 : List Int) : Prop :=
  Post v1 0
def r_cor_W (p0 : List api_Finding) (p1 : List api_Spent) (Post : List Int → Int → Prop) : Prop :=
  (if (!decide ((chkC p0 p1) = 0)) = true then Post ([] : List Int) (chkC p0 p1) else forL (r_cor_l1b p0 Post) (r_cor_l1e Post) p1 ([] : List Int))
set_option maxRecDepth 100000 in
set_option maxHeartbeats 4000000 in
theorem r_cor_w (p0 : List api_Finding) (p1 : List api_Spent) (Post : List Int → Int → Prop) (H : r_cor_W p0 p1 Post) : ACalls Try.prog 21 false false (([(.sl 5 (p0.map api_Finding.av)), (.sl 3 (p1.map api_Spent.av))] : List D).map SV.d) (fun r => ∃ y0 : (List Int), ∃ y1 : Int, r = .tup [(.sl 1 (y0.map avI)), (iD y1)] ∧ Post y0 y1) := by
  refine ACalls.of Try.func21 rfl rfl rfl rfl rfl fun w0 S0 T => ?_
  unfold r_cor_W at H
  refine AC.seq ?_
  refine AC.region ?_
  refine AO.pure (PureOp.assignD (SLe.eq rfl)) rfl rfl ?_
  refine AO.pure (PureOp.assignD (SLe.eq rfl)) rfl rfl ?_
  refine AO.nil ?_
  refine thenQ_normal ?_
  refine AC.seq ?_
  refine AC.seq ?_
  refine AC.region ?_
  refine AO.pure (PureOp.moveD (SLe.eq rfl)) rfl rfl ?_
  refine AO.pure (PureOp.moveD (SLe.eq rfl)) rfl rfl ?_
  refine AO.pure (PureOp.callS (.cons (SLe.eq rfl) (.cons (SLe.eq rfl) .nil)) (br_chk p0 p1) (by kernel_rfl)) rfl rfl ?_
  refine AO.pure (PureOp.assignD (SLe.eq rfl)) rfl rfl ?_
  refine AO.nil ?_
  refine thenQ_normal ?_
  refine AC.seq ?_
  refine AC.region ?_
  refine AO.pure (PureOp.moveD (SLe.eq rfl)) rfl rfl ?_
  refine AO.pure (PureOp.neq (SLe.eq rfl) (SLe.eq rfl)) rfl rfl ?_
  refine AO.nil ?_
  refine thenQ_normal ?_
  refine AC.cond (SLe.eq rfl) (fun hb => ?_) (fun hb => ?_)
  · skip
    replace H := ite_t H hb
    refine AC.seq ?_
    refine AC.region ?_
    refine AO.pure (PureOp.moveD (SLe.eq rfl)) rfl rfl ?_
    refine AO.pure (PureOp.assignD (SLe.eq rfl)) rfl rfl ?_
    refine AO.pure (PureOp.assignD (SLe.eq rfl)) rfl rfl ?_
    refine AO.nil ?_
    refine thenQ_normal ?_
    refine AC.ret ?_
    refine thenQ_ret ?_
    refine ⟨rfl, _, ?_, ResOf.two (GetR.nil (sz := 1) (SLe.eq rfl)) (GetR.any (r := (iD (chkC p0 p1))) (SLe.eq rfl))⟩
    exact ⟨([] : List Int), (chkC p0 p1), rfl, H⟩
  · skip
    replace H := ite_f H hb
    refine AC.skip ?_
    refine thenQ_normal ?_
    refine AC.seq ?_
    refine AC.region ?_
    refine AO.pure (PureOp.assignD (SLe.eq rfl)) rfl rfl ?_
    refine AO.nil ?_
    refine thenQ_normal ?_
    refine AC.seq ?_
    refine AC.seq ?_
    refine AC.region ?_
    refine AO.pure (PureOp.assignD (SLe.eq rfl)) rfl rfl ?_
    refine AO.nil ?_
    refine thenQ_normal ?_
    refine AC.block ?_
    refine AC.loop (ι := Nat × (List Int)) (fun q => ⟨[(0, .d (.sl 5 (p0.map api_Finding.av))), (1, .d (.sl 3 (p1.map api_Spent.av))), (7, .os 0), (8, .d (iD ((q.1 : Nat) : Int)))], [], [(0, ⟨3, 1, q.2.map avI⟩)], 1, false, 78⟩) (fun q => q.1 ≤ p1.length ∧ forL (r_cor_l1b p0 Post) (r_cor_l1e Post) (p1.drop q.1) q.2) (fun q => p1.length - q.1) (0, ([] : List Int)) ?_ ⟨Nat.zero_le _, H⟩ ?_
    · skip
      refine Le.trans (Le.ownNil 7 3 1 rfl rfl) ?_
      exact Le.mk [(0, 0)] ⟨⟨SLe.eq rfl, rfl⟩, ⟨SLe.eq rfl, rfl⟩, rfl, (by first | exact ⟨SLe.eq rfl, rfl⟩ | exact ⟨SLe.int rfl (by omega), rfl⟩), trivial⟩ trivial ⟨⟨_, rfl, rfl⟩, trivial⟩ rfl rfl rfl rfl rfl
    · rintro ⟨i1, v1⟩ ⟨hi1, H⟩
      dsimp only at hi1 H
      change AC _ _ _ _ _ ⟨[(0, .d (.sl 5 (p0.map api_Finding.av))), (1, .d (.sl 3 (p1.map api_Spent.av))), (7, .os 0), (8, .d (iD ((i1 : Nat) : Int)))], [], [(0, ⟨3, 1, v1.map avI⟩)], 1, false, 78⟩ _
      obtain ⟨rec1, hrec1⟩ : ∃ r, r = forL (r_cor_l1b p0 Post) (r_cor_l1e Post) (p1.drop (i1 + 1)) := ⟨_, rfl⟩
      refine AC.seq ?_
      refine AC.seq ?_
      refine AC.region ?_
      refine AO.pure (PureOp.moveD (SLe.eq rfl)) rfl rfl ?_
      refine AO.pure (PureOp.moveD (SLe.eq rfl)) rfl rfl ?_
      refine AO.pure (PureOp.lenL (e := 36) (s' := 3) (sz := 3) (l := p1) (av := api_Spent.av) (SLe.eq rfl) (by kernel_rfl)) rfl rfl ?_
      refine AO.pure (PureOp.lss (SLe.eq rfl) (SLe.eq rfl)) rfl rfl ?_
      refine AO.nil ?_
      refine thenQ_normal ?_
      refine AC.cond (SLe.eq rfl) (fun hb => ?_) (fun hb => ?_)
      · skip
        obtain ⟨x1, hx1, hd1, hlt1⟩ := drop_at (l := p1) (i := i1) hb
        rw [hd1] at H
        replace H := forL_step H
        rw [← hrec1] at H
        unfold r_cor_l1b at H
        refine AC.len (av := api_Spent.av) (l := p1) (t := 1) (SLe.eq rfl) (fun hL1 => ?_)
        refine AC.skip ?_
        refine thenQ_normal ?_
        refine AC.seq ?_
        refine AC.block ?_
        refine AC.seq ?_
        refine AC.region ?_
        refine AO.pure (PureOp.moveD (SLe.eq rfl)) rfl rfl ?_
        refine AO.pure (PureOp.moveD (SLe.eq rfl)) rfl rfl ?_
        refine AO.pure (PureOp.idxE (e := 36) (sz := 3) (av := api_Spent.av) (l := p1) (n := i1) (z := x1) (SLe.eq rfl) (SLe.eq rfl) rfl hx1 (by kernel_rfl)) rfl rfl ?_
        refine AO.pure (PureOp.fld (k := 2) (SLe.eq rfl) (by kernel_rfl)) rfl rfl ?_
        refine AO.pure (PureOp.load1 (c := (iD x1.Amount)) (SLe.eq rfl) rfl (by kernel_rfl)) rfl rfl ?_
        refine AO.pure (PureOp.assignD (SLe.eq rfl)) rfl rfl ?_
        refine AO.nil ?_
        refine thenQ_normal ?_
        refine AC.seq ?_
        refine AC.region ?_
        refine AO.pure (PureOp.assignD (SLe.eq rfl)) rfl rfl ?_
        refine AO.nil ?_
        refine thenQ_normal ?_
        refine AC.seq ?_
        refine AC.seq ?_
        refine AC.region ?_
        refine AO.pure (PureOp.moveD (SLe.eq rfl)) rfl rfl ?_
        refine AO.pure (PureOp.moveD (SLe.eq rfl)) rfl rfl ?_
        refine AO.pure (PureOp.moveD (SLe.eq rfl)) rfl rfl ?_
        refine AO.pure (PureOp.idxE (e := 36) (sz := 3) (av := api_Spent.av) (l := p1) (n := i1) (z := x1) (SLe.eq rfl) (SLe.eq rfl) rfl hx1 (by kernel_rfl)) rfl rfl ?_
        refine AO.pure (PureOp.loadN (sz := 3) (ks := (api_Spent.av x1)) (SLe.eq rfl) rfl rfl (by kernel_rfl)) rfl rfl ?_
        refine AO.pure (PureOp.moveD (SLe.eq rfl)) rfl rfl ?_
        obtain ⟨g1, H⟩ := H
        refine AO.pure (PureOp.callS (.cons (SLe.eq rfl) (.cons (SLe.eq rfl) (.cons (SLe.nil rfl) .nil))) (br_next p0 x1 ([] : List Int) g1) (by kernel_rfl)) rfl rfl ?_
        refine AO.pure (PureOp.assignD (SLe.eq rfl)) rfl rfl ?_
        refine AO.nil ?_
        refine thenQ_normal ?_
        refine AC.block ?_
        obtain ⟨m2, H⟩ := H
        refine AC.loop (ι := Nat × Int × Int × (List Int)) (fun q => ⟨[(0, .d (.sl 5 (p0.map api_Finding.av))), (1, .d (.sl 3 (p1.map api_Spent.av))), (7, .os 0), (8, .d (iD ((i1 : Nat) : Int))), (9, .d (iD q.2.1)), (10, .os 1), (11, .d (iD q.2.2.1))], [], [(0, ⟨3, 1, v1.map avI⟩), (1, ⟨3, 1, q.2.2.2.map avI⟩)], 2, false, 78⟩) (fun q => forF (r_cor_l2b p0 Post v1 rec1 x1) q.1 q.2) (fun q => q.1) (m2, (x1.Amount, (nextI p0 x1 ([] : List Int)), ([] : List Int))) ?_ H ?_
        · skip
          refine Le.trans (Le.ownNil 10 3 1 rfl rfl) ?_
          exact Le.mk [(0, 0), (1, 1)] ⟨⟨SLe.eq rfl, rfl⟩, ⟨SLe.eq rfl, rfl⟩, rfl, ⟨SLe.eq rfl, rfl⟩, (by first | exact ⟨SLe.eq rfl, rfl⟩ | exact ⟨SLe.int rfl (by omega), rfl⟩), rfl, (by first | exact ⟨SLe.eq rfl, rfl⟩ | exact ⟨SLe.int rfl (by omega), rfl⟩), trivial⟩ trivial ⟨⟨_, rfl, rfl⟩, ⟨_, rfl, rfl⟩, trivial⟩ rfl rfl rfl rfl rfl
        · rintro ⟨m2, v2⟩ H
          have H2 := forF_step (show forF (r_cor_l2b p0 Post v1 rec1 x1) m2 v2 from H)
          clear H
          obtain ⟨m2, rfl, H⟩ := H2
          change AC _ _ _ _ _ ⟨[(0, .d (.sl 5 (p0.map api_Finding.av))), (1, .d (.sl 3 (p1.map api_Spent.av))), (7, .os 0), (8, .d (iD ((i1 : Nat) : Int))), (9, .d (iD v2.1)), (10, .os 1), (11, .d (iD v2.2.1))], [], [(0, ⟨3, 1, v1.map avI⟩), (1, ⟨3, 1, v2.2.2.map avI⟩)], 2, false, 78⟩ _
          obtain ⟨rec2, hrec2⟩ : ∃ r, r = forF (r_cor_l2b p0 Post v1 rec1 x1) m2 := ⟨_, rfl⟩
          rw [← hrec2] at H
          unfold r_cor_l2b at H
          refine AC.seq ?_
          refine AC.seq ?_
          refine AC.region ?_
          refine AO.pure (PureOp.moveD (SLe.eq rfl)) rfl rfl ?_
          refine AO.pure (PureOp.geq (SLe.eq rfl) (SLe.eq rfl)) rfl rfl ?_
          refine AO.nil ?_
          refine thenQ_normal ?_
          refine AC.cond (SLe.eq rfl) (fun hb => ?_) (fun hb => ?_)
          · skip
            replace H := ite_t H hb
            refine AC.skip ?_
            refine thenQ_normal ?_
            refine AC.seq ?_
            refine AC.block ?_
            refine AC.seq ?_
            refine AC.region ?_
            refine AO.pure (PureOp.moveD (SLe.eq rfl)) rfl rfl ?_
            refine AO.pure (PureOp.moveD (SLe.eq rfl)) rfl rfl ?_
            refine AO.pure (PureOp.moveD (SLe.eq rfl)) rfl rfl ?_
            obtain ⟨g2, H⟩ := H
            refine AO.pure (PureOp.idxI (e := 32) (sz := 5) (av := api_Finding.av) (l := p0) (SLe.eq rfl) (SLe.eq rfl) g2 (by kernel_rfl)) rfl rfl ?_
            refine AO.pure (PureOp.fld (k := 4) (SLe.eq rfl) (by kernel_rfl)) rfl rfl ?_
            refine AO.pure (PureOp.load1 (c := (iD ((ix p0 v2.2.1).Mille))) (SLe.eq rfl) rfl (by kernel_rfl)) rfl rfl ?_
            obtain ⟨g3, H⟩ := H
            refine AO.pure (PureOp.callS (.cons (SLe.eq rfl) (.cons (SLe.eq rfl) (.cons (SLe.eq rfl) .nil))) (br_part v2.1 ((ix p0 v2.2.1).Mille) g3) (by kernel_rfl)) rfl rfl ?_
            refine AO.pure (PureOp.moveD (SLe.eq rfl)) rfl rfl ?_
            refine AO.pure (PureOp.extract (c := (iD (partI v2.1 ((ix p0 v2.2.1).Mille)))) (SLe.eq rfl) rfl) rfl rfl ?_
            refine AO.pure (PureOp.extract (c := (iD 0)) (SLe.eq rfl) rfl) rfl rfl ?_
            refine AO.pure (PureOp.assignD (SLe.eq rfl)) rfl rfl ?_
            refine AO.pure (PureOp.assignD (SLe.eq rfl)) rfl rfl ?_
            refine AO.nil ?_
            refine thenQ_normal ?_
            refine AC.seq ?_
            refine AC.seq ?_
            refine AC.region ?_
            refine AO.pure (PureOp.moveD (SLe.eq rfl)) rfl rfl ?_
            refine AO.pure (PureOp.neq (SLe.eq rfl) (SLe.eq rfl)) rfl rfl ?_
            refine AO.nil ?_
            refine thenQ_normal ?_
            refine AC.cond (SLe.eq rfl) (fun hb => ?_) (fun hb => ?_)
            · skip
              replace H := ite_t H hb
              refine AC.seq ?_
              refine AC.region ?_
              refine AO.pure (PureOp.moveD (SLe.eq rfl)) rfl rfl ?_
              refine AO.pure (PureOp.assignD (SLe.eq rfl)) rfl rfl ?_
              refine AO.pure (PureOp.assignD (SLe.eq rfl)) rfl rfl ?_
              refine AO.nil ?_
              refine thenQ_normal ?_
              refine AC.ret ?_
              refine thenQ_ret ?_
              refine blockQ_ret ?_
              refine thenQ_ret ?_
              refine thenQ_ret ?_
              refine blockQ_ret ?_
              refine thenQ_ret ?_
              refine blockQ_ret ?_
              refine thenQ_ret ?_
              refine thenQ_ret ?_
              refine blockQ_ret ?_
              refine thenQ_ret ?_
              refine ⟨rfl, _, ?_, ResOf.two (GetR.nil (sz := 1) (SLe.eq rfl)) (GetR.any (r := (iD 0)) (SLe.eq rfl))⟩
              exact ⟨([] : List Int), 0, rfl, H⟩
            · skip
              replace H := ite_f H hb
              refine AC.skip ?_
              refine thenQ_normal ?_
              refine AC.seq ?_
              refine AC.region ?_
              refine AO.pure (PureOp.moveD (SLe.eq rfl)) rfl rfl ?_
              refine AO.pure (PureOp.moveD (SLe.eq rfl)) rfl rfl ?_
              refine AO.pure (PureOp.subW (SLe.eq rfl) (SLe.eq rfl)) rfl rfl ?_
              refine AO.pure (PureOp.assignD (SLe.eq rfl)) rfl rfl ?_
              refine AO.nil ?_
              refine thenQ_normal ?_
              refine AC.region ?_
              refine AO.pure (PureOp.moveO (SLe.eq rfl)) rfl rfl ?_
              refine AO.pure (PureOp.moveD (SLe.eq rfl)) rfl rfl ?_
              refine AO.pure (PureOp.buildSlice (e := 3) (sz := 1) (z := .int .i64 0) (rows := [[(iD v2.2.1)]]) (by kernel_rfl) (by kernel_rfl) rfl rfl rfl (.cons (SLe.eq rfl) rfl .nil) rfl rfl rfl rfl) rfl rfl ?_
              obtain ⟨g4, H⟩ := H
              refine AO.appendL (e := 3) (sz := 1) (bs := 8) (av := avI) v2.2.2 ([v2.2.1] : List Int) (SLe.eq rfl) rfl (SLe.eq rfl) (by kernel_rfl) g4 rfl ?_
              refine AO.pure (PureOp.assignO (SLe.eq rfl)) rfl rfl ?_
              refine AO.nil ?_
              refine blockQ_normal ?_
              refine thenQ_normal ?_
              refine AC.region ?_
              refine AO.pure (PureOp.moveD (SLe.eq rfl)) rfl rfl ?_
              refine AO.pure (PureOp.moveD (SLe.eq rfl)) rfl rfl ?_
              refine AO.pure (PureOp.moveD (SLe.eq rfl)) rfl rfl ?_
              refine AO.pure (PureOp.idxE (e := 36) (sz := 3) (av := api_Spent.av) (l := p1) (n := i1) (z := x1) (SLe.eq rfl) (SLe.eq rfl) rfl hx1 (by kernel_rfl)) rfl rfl ?_
              refine AO.pure (PureOp.loadN (sz := 3) (ks := (api_Spent.av x1)) (SLe.eq rfl) rfl rfl (by kernel_rfl)) rfl rfl ?_
              refine AO.pure (PureOp.moveO (SLe.eq rfl)) rfl rfl ?_
              obtain ⟨g5, H⟩ := H
              refine AO.pure (PureOp.callSF (.cons (SLe.eq rfl) (by first | exact .d _ | exact View.osr rfl rfl | exact .bx rfl rfl | exact .agg (by repeat (first | exact .nil | refine .cons (by first | exact .d _ | exact View.osr rfl rfl) ?_)) | exact .fn (by repeat (first | exact .nil | refine .cons (by first | exact .d _ | exact View.osr rfl rfl | exact .bx rfl rfl) ?_))) (.cons (SLe.eq rfl) (by first | exact .d _ | exact View.osr rfl rfl | exact .bx rfl rfl | exact .agg (by repeat (first | exact .nil | refine .cons (by first | exact .d _ | exact View.osr rfl rfl) ?_)) | exact .fn (by repeat (first | exact .nil | refine .cons (by first | exact .d _ | exact View.osr rfl rfl | exact .bx rfl rfl) ?_))) (.cons (SLe.eq rfl) (by first | exact .d _ | exact View.osr rfl rfl | exact .bx rfl rfl | exact .agg (by repeat (first | exact .nil | refine .cons (by first | exact .d _ | exact View.osr rfl rfl) ?_)) | exact .fn (by repeat (first | exact .nil | refine .cons (by first | exact .d _ | exact View.osr rfl rfl | exact .bx rfl rfl) ?_))) .nil))) (br_next p0 x1 (v2.2.2 ++ ([v2.2.1] : List Int)) g5) rfl (by kernel_rfl)) rfl rfl ?_
              refine AO.pure (PureOp.assignD (SLe.eq rfl)) rfl rfl ?_
              refine AO.nil ?_
              refine thenQ_normal ?_
              refine ⟨(m2, (w64 (v2.1 - (partI v2.1 ((ix p0 v2.2.1).Mille))), (nextI p0 x1 (v2.2.2 ++ ([v2.2.1] : List Int))), (v2.2.2 ++ ([v2.2.1] : List Int)))), (by rw [hrec2] at H; exact H), Nat.lt_succ_self _, ?_⟩
              exact Le.mk [(0, 0), (1, 2)] ⟨⟨SLe.eq rfl, rfl⟩, ⟨SLe.eq rfl, rfl⟩, rfl, ⟨SLe.eq rfl, rfl⟩, (by first | exact ⟨SLe.eq rfl, rfl⟩ | exact ⟨SLe.int rfl (by omega), rfl⟩), rfl, (by first | exact ⟨SLe.eq rfl, rfl⟩ | exact ⟨SLe.int rfl (by omega), rfl⟩), trivial⟩ trivial ⟨⟨_, rfl, rfl⟩, ⟨_, rfl, rfl⟩, trivial⟩ rfl rfl rfl rfl rfl
          · skip
            replace H := ite_f H hb
            refine AC.exit ?_
            refine thenQ_exit ?_
            refine thenQ_exit ?_
            refine blockQ_hit ?_
            refine thenQ_normal ?_
            refine AC.region ?_
            refine AO.pure (PureOp.moveO (SLe.eq rfl)) rfl rfl ?_
            refine AO.pure (PureOp.moveD (SLe.eq rfl)) rfl rfl ?_
            refine AO.pure (PureOp.moveD (SLe.eq rfl)) rfl rfl ?_
            refine AO.pure (PureOp.idxE (e := 36) (sz := 3) (av := api_Spent.av) (l := p1) (n := i1) (z := x1) (SLe.eq rfl) (SLe.eq rfl) rfl hx1 (by kernel_rfl)) rfl rfl ?_
            refine AO.pure (PureOp.fld (k := 2) (SLe.eq rfl) (by kernel_rfl)) rfl rfl ?_
            refine AO.pure (PureOp.load1 (c := (iD x1.Amount)) (SLe.eq rfl) rfl (by kernel_rfl)) rfl rfl ?_
            refine AO.pure (PureOp.moveD (SLe.eq rfl)) rfl rfl ?_
            refine AO.pure (PureOp.subW (SLe.eq rfl) (SLe.eq rfl)) rfl rfl ?_
            refine AO.pure (PureOp.buildSlice (e := 3) (sz := 1) (z := .int .i64 0) (rows := [[(iD (w64 (x1.Amount - v2.1)))]]) (by kernel_rfl) (by kernel_rfl) rfl rfl rfl (.cons (SLe.eq rfl) rfl .nil) rfl rfl rfl rfl) rfl rfl ?_
            obtain ⟨g6, H⟩ := H
            refine AO.appendL (e := 3) (sz := 1) (bs := 8) (av := avI) v1 ([w64 (x1.Amount - v2.1)] : List Int) (SLe.eq rfl) rfl (SLe.eq rfl) (by kernel_rfl) g6 rfl ?_
            refine AO.pure (PureOp.assignO (SLe.eq rfl)) rfl rfl ?_
            refine AO.nil ?_
            refine blockQ_normal ?_
            refine thenQ_normal ?_
            refine AC.region ?_
            refine AO.pure (PureOp.moveD (SLe.eq rfl)) rfl rfl ?_
            refine AO.pure (PureOp.add (SLe.eq rfl) (SLe.eq rfl) (by omega) (by omega)) rfl rfl ?_
            refine AO.pure (PureOp.assignD (SLe.eq rfl)) rfl rfl ?_
            refine AO.nil ?_
            refine thenQ_normal ?_
            refine ⟨(i1 + 1, (v1 ++ ([w64 (x1.Amount - v2.1)] : List Int))), ⟨hlt1, by rw [hrec1] at H; exact H⟩, (by show p1.length - (i1 + 1) < p1.length - i1; omega), ?_⟩
            exact Le.mk [(0, 2)] ⟨⟨SLe.eq rfl, rfl⟩, ⟨SLe.eq rfl, rfl⟩, rfl, (by first | exact ⟨SLe.eq rfl, rfl⟩ | exact ⟨SLe.int rfl (by omega), rfl⟩), trivial⟩ trivial ⟨⟨_, rfl, rfl⟩, trivial⟩ rfl rfl rfl rfl rfl
      · skip
        obtain ⟨hd1, _⟩ := drop_end (l := p1) (i := i1) hi1 hb
        rw [hd1] at H
        replace H := forL_end H
        unfold r_cor_l1e at H
        refine AC.exit ?_
        refine thenQ_exit ?_
        refine thenQ_exit ?_
        refine blockQ_hit ?_
        refine thenQ_normal ?_
        refine AC.seq ?_
        refine AC.region ?_
        refine AO.pure (PureOp.moveO (SLe.eq rfl)) rfl rfl ?_
        refine AO.pure (PureOp.assignO (SLe.eq rfl)) rfl rfl ?_
        refine AO.pure (PureOp.assignD (SLe.eq rfl)) rfl rfl ?_
        refine AO.nil ?_
        refine thenQ_normal ?_
        refine AC.ret ?_
        refine ⟨rfl, _, ?_, ResOf.two (GetR.ownA (SLe.eq rfl) rfl rfl) (GetR.any (r := (iD 0)) (SLe.eq rfl))⟩
        exact ⟨v1, 0, rfl, H⟩
def c_nam_l1b  (rec1 : (List Int) → Prop) (x1 : api_Finding) (v1 : List Int) : Prop :=
  (apOK 8 v1.length 1) ∧ rec1 (v1 ++ ([x1.Number] : List Int))
def c_nam_l1e (Post : List Int → Int → Prop) (v1 : List Int) : Prop :=
  Post v1 0
def c_nam_W (p0 : List api_Finding) (p1 : List api_Spent) (p2 : Int) (Post : List Int → Int → Prop) : Prop :=
  (if (!decide ((chkC p0 p1) = 0)) = true then Post ([] : List Int) (chkC p0 p1) else (if (decide (p2 < 0) || decide (((p1.length : Nat) : Int) ≤ p2)) = true then Post ([] : List Int) 2 else (inb p1 p2) ∧ (0 ≤ ((ix p1 p2)).Scheme ∧ ((ix p1 p2)).Scheme ≤ 15 ∧ p0.length ≤ 20) ∧ forL (c_nam_l1b) (c_nam_l1e Post) (p0.filter (fun f => conB f (ix p1 p2))) ([] : List Int)))
set_option maxRecDepth 100000 in
set_option maxHeartbeats 4000000 in
theorem c_nam_w (p0 : List api_Finding) (p1 : List api_Spent) (p2 : Int) (Post : List Int → Int → Prop) (H : c_nam_W p0 p1 p2 Post) : ACalls Try.prog 26 false false (([(.sl 5 (p0.map api_Finding.av)), (.sl 3 (p1.map api_Spent.av)), (iD p2)] : List D).map SV.d) (fun r => ∃ y0 : (List Int), ∃ y1 : Int, r = .tup [(.sl 1 (y0.map avI)), (iD y1)] ∧ Post y0 y1) := by
  refine ACalls.of Try.func26 rfl rfl rfl rfl rfl fun w0 S0 T => ?_
  unfold c_nam_W at H
  refine AC.seq ?_
  refine AC.region ?_
  refine AO.pure (PureOp.assignD (SLe.eq rfl)) rfl rfl ?_
  refine AO.pure (PureOp.assignD (SLe.eq rfl)) rfl rfl ?_
  refine AO.nil ?_
  refine thenQ_normal ?_
  refine AC.seq ?_
  refine AC.seq ?_
  refine AC.region ?_
  refine AO.pure (PureOp.moveD (SLe.eq rfl)) rfl rfl ?_
  refine AO.pure (PureOp.moveD (SLe.eq rfl)) rfl rfl ?_
  refine AO.pure (PureOp.callS (.cons (SLe.eq rfl) (.cons (SLe.eq rfl) .nil)) (bc_chk p0 p1) (by kernel_rfl)) rfl rfl ?_
  refine AO.pure (PureOp.assignD (SLe.eq rfl)) rfl rfl ?_
  refine AO.nil ?_
  refine thenQ_normal ?_
  refine AC.seq ?_
  refine AC.region ?_
  refine AO.pure (PureOp.moveD (SLe.eq rfl)) rfl rfl ?_
  refine AO.pure (PureOp.neq (SLe.eq rfl) (SLe.eq rfl)) rfl rfl ?_
  refine AO.nil ?_
  refine thenQ_normal ?_
  refine AC.cond (SLe.eq rfl) (fun hb => ?_) (fun hb => ?_)
  · skip
    replace H := ite_t H hb
    refine AC.seq ?_
    refine AC.region ?_
    refine AO.pure (PureOp.moveD (SLe.eq rfl)) rfl rfl ?_
    refine AO.pure (PureOp.assignD (SLe.eq rfl)) rfl rfl ?_
    refine AO.pure (PureOp.assignD (SLe.eq rfl)) rfl rfl ?_
    refine AO.nil ?_
    refine thenQ_normal ?_
    refine AC.ret ?_
    refine thenQ_ret ?_
    refine ⟨rfl, _, ?_, ResOf.two (GetR.nil (sz := 1) (SLe.eq rfl)) (GetR.any (r := (iD (chkC p0 p1))) (SLe.eq rfl))⟩
    exact ⟨([] : List Int), (chkC p0 p1), rfl, H⟩
  · skip
    replace H := ite_f H hb
    refine AC.skip ?_
    refine thenQ_normal ?_
    refine AC.seq ?_
    refine AC.seq ?_
    refine AC.region ?_
    refine AO.pure (PureOp.moveD (SLe.eq rfl)) rfl rfl ?_
    refine AO.pure (PureOp.lss (SLe.eq rfl) (SLe.eq rfl)) rfl rfl ?_
    refine AO.pure (PureOp.moveD (SLe.eq rfl)) rfl rfl ?_
    refine AO.guarded rfl rfl (fun hG => PureOp.moveD (SLe.eq rfl)) rfl rfl ?_
    refine AO.guarded rfl rfl (fun hG => PureOp.moveD (SLe.eq rfl)) rfl rfl ?_
    refine AO.guarded rfl rfl (fun hG => PureOp.lenL (e := 36) (s' := 3) (sz := 3) (l := p1) (av := api_Spent.av) (SLe.cnd rfl hG) (by kernel_rfl)) rfl rfl ?_
    refine AO.guarded rfl rfl (fun hG => PureOp.geq (SLe.cnd rfl hG) (SLe.cnd rfl hG)) rfl rfl ?_
    refine AO.pure (PureOp.pickOr (SLe.eq rfl) rfl rfl (fun h => beq_f h)) rfl rfl ?_
    refine AO.nil ?_
    refine thenQ_normal ?_
    refine AC.cond (SLe.eq rfl) (fun hb => ?_) (fun hb => ?_)
    · skip
      replace H := ite_t H hb
      refine AC.seq ?_
      refine AC.region ?_
      refine AO.pure (PureOp.assignD (SLe.eq rfl)) rfl rfl ?_
      refine AO.pure (PureOp.assignD (SLe.eq rfl)) rfl rfl ?_
      refine AO.nil ?_
      refine thenQ_normal ?_
      refine AC.ret ?_
      refine thenQ_ret ?_
      refine ⟨rfl, _, ?_, ResOf.two (GetR.nil (sz := 1) (SLe.eq rfl)) (GetR.any (r := (iD 2)) (SLe.eq rfl))⟩
      exact ⟨([] : List Int), 2, rfl, H⟩
    · skip
      replace H := ite_f H hb
      refine AC.skip ?_
      refine thenQ_normal ?_
      refine AC.seq ?_
      refine AC.region ?_
      refine AO.pure (PureOp.assignD (SLe.eq rfl)) rfl rfl ?_
      refine AO.nil ?_
      refine thenQ_normal ?_
      refine AC.seq ?_
      refine AC.seq ?_
      refine AC.region ?_
      refine AO.pure (PureOp.moveD (SLe.eq rfl)) rfl rfl ?_
      refine AO.pure (PureOp.moveD (SLe.eq rfl)) rfl rfl ?_
      refine AO.pure (PureOp.moveD (SLe.eq rfl)) rfl rfl ?_
      obtain ⟨g1, H⟩ := H
      refine AO.pure (PureOp.idxI (e := 36) (sz := 3) (av := api_Spent.av) (l := p1) (SLe.eq rfl) (SLe.eq rfl) g1 (by kernel_rfl)) rfl rfl ?_
      refine AO.pure (PureOp.loadN (sz := 3) (ks := (api_Spent.av (ix p1 p2))) (SLe.eq rfl) rfl rfl (by kernel_rfl)) rfl rfl ?_
      obtain ⟨g2, H⟩ := H
      refine AO.ocall (e := 32) (sz := 5) (av := api_Finding.av) (.cons (SLe.eq rfl) (.cons (SLe.eq rfl) .nil)) (bc_conc p0 (ix p1 p2) g2) rfl (by kernel_rfl) rfl ?_
      rintro _ rfl
      refine AO.pure (PureOp.lenOL (e := 32) (s' := 5) (sz := 5) (l := (p0.filter (fun f => conB f (ix p1 p2)))) (av := api_Finding.av) (SLe.eq rfl) rfl rfl (by kernel_rfl)) rfl rfl ?_
      refine AO.pure (PureOp.moveD (SLe.eq rfl)) rfl rfl ?_
      refine AO.nil ?_
      refine thenQ_normal ?_
      refine AC.block ?_
      refine AC.loop (ι := Nat × (List Int)) (fun q => ⟨[(9, .os 1), (31, .os 0), (32, .d (iD (((p0.filter (fun f => conB f (ix p1 p2))).length : Nat) : Int))), (33, .d (iD ((q.1 : Nat) : Int)))], [], [(1, ⟨3, 1, q.2.map avI⟩), (0, ⟨32, 5, (p0.filter (fun f => conB f (ix p1 p2))).map api_Finding.av⟩)], 2, false, 44⟩) (fun q => q.1 ≤ (p0.filter (fun f => conB f (ix p1 p2))).length ∧ forL (c_nam_l1b) (c_nam_l1e Post) ((p0.filter (fun f => conB f (ix p1 p2))).drop q.1) q.2) (fun q => (p0.filter (fun f => conB f (ix p1 p2))).length - q.1) (0, ([] : List Int)) ?_ ⟨Nat.zero_le _, H⟩ ?_
      · skip
        refine Le.trans (Le.ownNil 9 3 1 rfl rfl) ?_
        exact Le.mk [(1, 1), (0, 0)] ⟨rfl, rfl, ⟨SLe.eq rfl, rfl⟩, (by first | exact ⟨SLe.eq rfl, rfl⟩ | exact ⟨SLe.int rfl (by omega), rfl⟩), trivial⟩ trivial ⟨⟨_, rfl, rfl⟩, ⟨_, rfl, rfl⟩, trivial⟩ rfl rfl rfl rfl rfl
      · rintro ⟨i1, v1⟩ ⟨hi1, H⟩
        dsimp only at hi1 H
        change AC _ _ _ _ _ ⟨[(9, .os 1), (31, .os 0), (32, .d (iD (((p0.filter (fun f => conB f (ix p1 p2))).length : Nat) : Int))), (33, .d (iD ((i1 : Nat) : Int)))], [], [(1, ⟨3, 1, v1.map avI⟩), (0, ⟨32, 5, (p0.filter (fun f => conB f (ix p1 p2))).map api_Finding.av⟩)], 2, false, 44⟩ _
        obtain ⟨rec1, hrec1⟩ : ∃ r, r = forL (c_nam_l1b) (c_nam_l1e Post) ((p0.filter (fun f => conB f (ix p1 p2))).drop (i1 + 1)) := ⟨_, rfl⟩
        refine AC.seq ?_
        refine AC.region ?_
        refine AO.pure (PureOp.lss (SLe.eq rfl) (SLe.eq rfl)) rfl rfl ?_
        refine AO.nil ?_
        refine thenQ_normal ?_
        refine AC.seq ?_
        refine AC.cond (SLe.eq rfl) (fun hb => ?_) (fun hb => ?_)
        · skip
          obtain ⟨x1, hx1, hd1, hlt1⟩ := drop_at (l := (p0.filter (fun f => conB f (ix p1 p2)))) (i := i1) hb
          rw [hd1] at H
          replace H := forL_step H
          rw [← hrec1] at H
          unfold c_nam_l1b at H
          refine AC.lenO (av := api_Finding.av) (l := (p0.filter (fun f => conB f (ix p1 p2)))) (id := 0) rfl rfl (fun hL1 => ?_)
          refine AC.skip ?_
          refine thenQ_normal ?_
          refine AC.seq ?_
          refine AC.block ?_
          refine AC.seq ?_
          refine AC.region ?_
          refine AO.pure (PureOp.idxOE (e := 32) (sz := 5) (l := (p0.filter (fun f => conB f (ix p1 p2)))) (n := i1) (SLe.eq rfl) rfl (SLe.eq rfl) rfl hlt1 rfl (by kernel_rfl)) rfl rfl ?_
          refine AO.pure (PureOp.loadONL (n := i1) (j := 0) (z := x1) (s2 := 5) (ks := (api_Finding.av x1)) (SLe.eq rfl) rfl hx1 rfl rfl (by kernel_rfl)) rfl rfl ?_
          refine AO.alloc (z := .agg #[.int .i64 0, .int .i64 0, .int .i64 0, .int .i64 0, .int .i64 0]) (by kernel_rfl) rfl rfl rfl ?_
          refine AO.store (SLe.eq rfl) (SLe.eq rfl) rfl rfl rfl rfl rfl (by kernel_rfl) rfl rfl ?_
          refine AO.nil ?_
          refine thenQ_normal ?_
          refine AC.region ?_
          refine AO.pure (PureOp.moveO (SLe.eq rfl)) rfl rfl ?_
          refine AO.pure (PureOp.fldB (k := 0) (SLe.eq rfl) (by kernel_rfl)) rfl rfl ?_
          refine AO.pure (PureOp.loadB1 (s := .d (iD x1.Number)) (SLe.eq rfl) rfl rfl (by kernel_rfl)) rfl rfl ?_
          refine AO.pure (PureOp.buildSlice (e := 3) (sz := 1) (z := .int .i64 0) (rows := [[(iD x1.Number)]]) (by kernel_rfl) (by kernel_rfl) rfl rfl rfl (.cons (SLe.eq rfl) rfl .nil) rfl rfl rfl rfl) rfl rfl ?_
          obtain ⟨g3, H⟩ := H
          refine AO.appendL (e := 3) (sz := 1) (bs := 8) (av := avI) v1 ([x1.Number] : List Int) (SLe.eq rfl) rfl (SLe.eq rfl) (by kernel_rfl) g3 rfl ?_
          refine AO.pure (PureOp.assignO (SLe.eq rfl)) rfl rfl ?_
          refine AO.nil ?_
          refine blockQ_normal ?_
          refine thenQ_normal ?_
          refine AC.region ?_
          refine AO.pure (PureOp.add (SLe.eq rfl) (SLe.eq rfl) (by omega) (by omega)) rfl rfl ?_
          refine AO.pure (PureOp.moveD (SLe.eq rfl)) rfl rfl ?_
          refine AO.nil ?_
          refine thenQ_normal ?_
          refine ⟨(i1 + 1, (v1 ++ ([x1.Number] : List Int))), ⟨hlt1, by rw [hrec1] at H; exact H⟩, (by show (p0.filter (fun f => conB f (ix p1 p2))).length - (i1 + 1) < (p0.filter (fun f => conB f (ix p1 p2))).length - i1; omega), ?_⟩
          exact Le.mk [(1, 3), (0, 0)] ⟨rfl, rfl, ⟨SLe.eq rfl, rfl⟩, (by first | exact ⟨SLe.eq rfl, rfl⟩ | exact ⟨SLe.int rfl (by omega), rfl⟩), trivial⟩ trivial ⟨⟨_, rfl, rfl⟩, ⟨_, rfl, rfl⟩, trivial⟩ rfl rfl rfl rfl rfl
        · skip
          obtain ⟨hd1, _⟩ := drop_end (l := (p0.filter (fun f => conB f (ix p1 p2)))) (i := i1) hi1 hb
          rw [hd1] at H
          replace H := forL_end H
          unfold c_nam_l1e at H
          refine AC.exit ?_
          refine thenQ_exit ?_
          refine thenQ_exit ?_
          refine blockQ_hit ?_
          refine thenQ_normal ?_
          refine AC.seq ?_
          refine AC.region ?_
          refine AO.pure (PureOp.moveO (SLe.eq rfl)) rfl rfl ?_
          refine AO.pure (PureOp.assignO (SLe.eq rfl)) rfl rfl ?_
          refine AO.pure (PureOp.assignD (SLe.eq rfl)) rfl rfl ?_
          refine AO.nil ?_
          refine thenQ_normal ?_
          refine AC.ret ?_
          refine ⟨rfl, _, ?_, ResOf.two (GetR.ownA (SLe.eq rfl) rfl rfl) (GetR.any (r := (iD 0)) (SLe.eq rfl))⟩
          exact ⟨v1, 0, rfl, H⟩
def r_nam_l1b (p1 : List api_Spent) (p2 : Int) (rec1 : (List Int) → Prop) (x1 : api_Finding) (v1 : List Int) : Prop :=
  (inb p1 p2) ∧ (0 ≤ ((ix p1 p2)).Scheme ∧ ((ix p1 p2)).Scheme ≤ 15) ∧ (if (conB x1 (ix p1 p2)) = true then (apOK 8 v1.length 1) ∧ rec1 (v1 ++ ([x1.Number] : List Int)) else rec1 v1)
def r_nam_l1e (Post : List Int → Int → Prop) (v1 : List Int) : Prop :=
  Post v1 0
def r_nam_W (p0 : List api_Finding) (p1 : List api_Spent) (p2 : Int) (Post : List Int → Int → Prop) : Prop :=
  (if (!decide ((chkC p0 p1) = 0)) = true then Post ([] : List Int) (chkC p0 p1) else (if (decide (p2 < 0) || decide (((p1.length : Nat) : Int) ≤ p2)) = true then Post ([] : List Int) 2 else forL (r_nam_l1b p1 p2) (r_nam_l1e Post) p0 ([] : List Int)))
set_option maxRecDepth 100000 in
set_option maxHeartbeats 4000000 in
theorem r_nam_w (p0 : List api_Finding) (p1 : List api_Spent) (p2 : Int) (Post : List Int → Int → Prop) (H : r_nam_W p0 p1 p2 Post) : ACalls Try.prog 27 false false (([(.sl 5 (p0.map api_Finding.av)), (.sl 3 (p1.map api_Spent.av)), (iD p2)] : List D).map SV.d) (fun r => ∃ y0 : (List Int), ∃ y1 : Int, r = .tup [(.sl 1 (y0.map avI)), (iD y1)] ∧ Post y0 y1) := by
  refine ACalls.of Try.func27 rfl rfl rfl rfl rfl fun w0 S0 T => ?_
  unfold r_nam_W at H
  refine AC.seq ?_
  refine AC.region ?_
  refine AO.pure (PureOp.assignD (SLe.eq rfl)) rfl rfl ?_
  refine AO.pure (PureOp.assignD (SLe.eq rfl)) rfl rfl ?_
  refine AO.nil ?_
  refine thenQ_normal ?_
  refine AC.seq ?_
  refine AC.seq ?_
  refine AC.region ?_
  refine AO.pure (PureOp.moveD (SLe.eq rfl)) rfl rfl ?_
  refine AO.pure (PureOp.moveD (SLe.eq rfl)) rfl rfl ?_
  refine AO.pure (PureOp.callS (.cons (SLe.eq rfl) (.cons (SLe.eq rfl) .nil)) (br_chk p0 p1) (by kernel_rfl)) rfl rfl ?_
  refine AO.pure (PureOp.assignD (SLe.eq rfl)) rfl rfl ?_
  refine AO.nil ?_
  refine thenQ_normal ?_
  refine AC.seq ?_
  refine AC.region ?_
  refine AO.pure (PureOp.moveD (SLe.eq rfl)) rfl rfl ?_
  refine AO.pure (PureOp.neq (SLe.eq rfl) (SLe.eq rfl)) rfl rfl ?_
  refine AO.nil ?_
  refine thenQ_normal ?_
  refine AC.cond (SLe.eq rfl) (fun hb => ?_) (fun hb => ?_)
  · skip
    replace H := ite_t H hb
    refine AC.seq ?_
    refine AC.region ?_
    refine AO.pure (PureOp.moveD (SLe.eq rfl)) rfl rfl ?_
    refine AO.pure (PureOp.assignD (SLe.eq rfl)) rfl rfl ?_
    refine AO.pure (PureOp.assignD (SLe.eq rfl)) rfl rfl ?_
    refine AO.nil ?_
    refine thenQ_normal ?_
    refine AC.ret ?_
    refine thenQ_ret ?_
    refine ⟨rfl, _, ?_, ResOf.two (GetR.nil (sz := 1) (SLe.eq rfl)) (GetR.any (r := (iD (chkC p0 p1))) (SLe.eq rfl))⟩
    exact ⟨([] : List Int), (chkC p0 p1), rfl, H⟩
  · skip
    replace H := ite_f H hb
    refine AC.skip ?_
    refine thenQ_normal ?_
    refine AC.seq ?_
    refine AC.seq ?_
    refine AC.region ?_
    refine AO.pure (PureOp.moveD (SLe.eq rfl)) rfl rfl ?_
    refine AO.pure (PureOp.lss (SLe.eq rfl) (SLe.eq rfl)) rfl rfl ?_
    refine AO.pure (PureOp.moveD (SLe.eq rfl)) rfl rfl ?_
    refine AO.guarded rfl rfl (fun hG => PureOp.moveD (SLe.eq rfl)) rfl rfl ?_
    refine AO.guarded rfl rfl (fun hG => PureOp.moveD (SLe.eq rfl)) rfl rfl ?_
    refine AO.guarded rfl rfl (fun hG => PureOp.lenL (e := 36) (s' := 3) (sz := 3) (l := p1) (av := api_Spent.av) (SLe.cnd rfl hG) (by kernel_rfl)) rfl rfl ?_
    refine AO.guarded rfl rfl (fun hG => PureOp.geq (SLe.cnd rfl hG) (SLe.cnd rfl hG)) rfl rfl ?_
    refine AO.pure (PureOp.pickOr (SLe.eq rfl) rfl rfl (fun h => beq_f h)) rfl rfl ?_
    refine AO.nil ?_
    refine thenQ_normal ?_
    refine AC.cond (SLe.eq rfl) (fun hb => ?_) (fun hb => ?_)
    · skip
      replace H := ite_t H hb
      refine AC.seq ?_
      refine AC.region ?_
      refine AO.pure (PureOp.assignD (SLe.eq rfl)) rfl rfl ?_
      refine AO.pure (PureOp.assignD (SLe.eq rfl)) rfl rfl ?_
      refine AO.nil ?_
      refine thenQ_normal ?_
      refine AC.ret ?_
      refine thenQ_ret ?_
      refine ⟨rfl, _, ?_, ResOf.two (GetR.nil (sz := 1) (SLe.eq rfl)) (GetR.any (r := (iD 2)) (SLe.eq rfl))⟩
      exact ⟨([] : List Int), 2, rfl, H⟩
    · skip
      replace H := ite_f H hb
      refine AC.skip ?_
      refine thenQ_normal ?_
      refine AC.seq ?_
      refine AC.region ?_
      refine AO.pure (PureOp.assignD (SLe.eq rfl)) rfl rfl ?_
      refine AO.nil ?_
      refine thenQ_normal ?_
      refine AC.seq ?_
      refine AC.seq ?_
      refine AC.region ?_
      refine AO.pure (PureOp.assignD (SLe.eq rfl)) rfl rfl ?_
      refine AO.nil ?_
      refine thenQ_normal ?_
      refine AC.block ?_
      refine AC.loop (ι := Nat × (List Int)) (fun q => ⟨[(0, .d (.sl 5 (p0.map api_Finding.av))), (1, .d (.sl 3 (p1.map api_Spent.av))), (2, .d (iD p2)), (9, .os 0), (10, .d (iD ((q.1 : Nat) : Int)))], [], [(0, ⟨3, 1, q.2.map avI⟩)], 1, false, 49⟩) (fun q => q.1 ≤ p0.length ∧ forL (r_nam_l1b p1 p2) (r_nam_l1e Post) (p0.drop q.1) q.2) (fun q => p0.length - q.1) (0, ([] : List Int)) ?_ ⟨Nat.zero_le _, H⟩ ?_
      · skip
        refine Le.trans (Le.ownNil 9 3 1 rfl rfl) ?_
        exact Le.mk [(0, 0)] ⟨⟨SLe.eq rfl, rfl⟩, ⟨SLe.eq rfl, rfl⟩, ⟨SLe.eq rfl, rfl⟩, rfl, (by first | exact ⟨SLe.eq rfl, rfl⟩ | exact ⟨SLe.int rfl (by omega), rfl⟩), trivial⟩ trivial ⟨⟨_, rfl, rfl⟩, trivial⟩ rfl rfl rfl rfl rfl
      · rintro ⟨i1, v1⟩ ⟨hi1, H⟩
        dsimp only at hi1 H
        change AC _ _ _ _ _ ⟨[(0, .d (.sl 5 (p0.map api_Finding.av))), (1, .d (.sl 3 (p1.map api_Spent.av))), (2, .d (iD p2)), (9, .os 0), (10, .d (iD ((i1 : Nat) : Int)))], [], [(0, ⟨3, 1, v1.map avI⟩)], 1, false, 49⟩ _
        obtain ⟨rec1, hrec1⟩ : ∃ r, r = forL (r_nam_l1b p1 p2) (r_nam_l1e Post) (p0.drop (i1 + 1)) := ⟨_, rfl⟩
        refine AC.seq ?_
        refine AC.seq ?_
        refine AC.region ?_
        refine AO.pure (PureOp.moveD (SLe.eq rfl)) rfl rfl ?_
        refine AO.pure (PureOp.moveD (SLe.eq rfl)) rfl rfl ?_
        refine AO.pure (PureOp.lenL (e := 32) (s' := 5) (sz := 5) (l := p0) (av := api_Finding.av) (SLe.eq rfl) (by kernel_rfl)) rfl rfl ?_
        refine AO.pure (PureOp.lss (SLe.eq rfl) (SLe.eq rfl)) rfl rfl ?_
        refine AO.nil ?_
        refine thenQ_normal ?_
        refine AC.cond (SLe.eq rfl) (fun hb => ?_) (fun hb => ?_)
        · skip
          obtain ⟨x1, hx1, hd1, hlt1⟩ := drop_at (l := p0) (i := i1) hb
          rw [hd1] at H
          replace H := forL_step H
          rw [← hrec1] at H
          unfold r_nam_l1b at H
          refine AC.len (av := api_Finding.av) (l := p0) (t := 0) (SLe.eq rfl) (fun hL1 => ?_)
          refine AC.skip ?_
          refine thenQ_normal ?_
          refine AC.seq ?_
          refine AC.block ?_
          refine AC.seq ?_
          refine AC.drawN 9 [] (by kernel_rfl) (by kernel_rfl) (by kernel_rfl) .nil (by kernel_rfl) ?_
          refine PSeqN.pure (PureOp.moveD (SLe.eq rfl)) rfl rfl ?_
          refine PSeqN.pure (PureOp.moveD (SLe.eq rfl)) rfl rfl ?_
          refine PSeqN.pure (PureOp.idxE (e := 32) (sz := 5) (av := api_Finding.av) (l := p0) (n := i1) (z := x1) (SLe.eq rfl) (SLe.eq rfl) rfl hx1 (by kernel_rfl)) rfl rfl ?_
          refine PSeqN.pure (PureOp.loadN (sz := 5) (ks := (api_Finding.av x1)) (SLe.eq rfl) rfl rfl (by kernel_rfl)) rfl rfl ?_
          refine PSeqN.pure (PureOp.moveD (SLe.eq rfl)) rfl rfl ?_
          refine PSeqN.pure (PureOp.moveD (SLe.eq rfl)) rfl rfl ?_
          obtain ⟨g1, H⟩ := H
          refine PSeqN.pure (PureOp.idxI (e := 36) (sz := 3) (av := api_Spent.av) (l := p1) (SLe.eq rfl) (SLe.eq rfl) g1 (by kernel_rfl)) rfl rfl ?_
          refine PSeqN.pure (PureOp.loadN (sz := 3) (ks := (api_Spent.av (ix p1 p2))) (SLe.eq rfl) rfl rfl (by kernel_rfl)) rfl rfl ?_
          obtain ⟨g2, H⟩ := H
          refine PSeqN.pure (PureOp.callS (.cons (SLe.eq rfl) (.cons (SLe.eq rfl) .nil)) (br_conc x1 (ix p1 p2) g2) (by kernel_rfl)) rfl rfl ?_
          refine PSeqN.nil ?_
          refine AO.nil ?_
          refine thenQ_normal ?_
          refine AC.cond (SLe.eq rfl) (fun hb => ?_) (fun hb => ?_)
          · skip
            replace H := ite_t H hb
            refine AC.region ?_
            refine AO.pure (PureOp.moveO (SLe.eq rfl)) rfl rfl ?_
            refine AO.pure (PureOp.moveD (SLe.eq rfl)) rfl rfl ?_
            refine AO.pure (PureOp.moveD (SLe.eq rfl)) rfl rfl ?_
            refine AO.pure (PureOp.idxE (e := 32) (sz := 5) (av := api_Finding.av) (l := p0) (n := i1) (z := x1) (SLe.eq rfl) (SLe.eq rfl) rfl hx1 (by kernel_rfl)) rfl rfl ?_
            refine AO.pure (PureOp.fld (k := 0) (SLe.eq rfl) (by kernel_rfl)) rfl rfl ?_
            refine AO.pure (PureOp.load1 (c := (iD x1.Number)) (SLe.eq rfl) rfl (by kernel_rfl)) rfl rfl ?_
            refine AO.pure (PureOp.buildSlice (e := 3) (sz := 1) (z := .int .i64 0) (rows := [[(iD x1.Number)]]) (by kernel_rfl) (by kernel_rfl) rfl rfl rfl (.cons (SLe.eq rfl) rfl .nil) rfl rfl rfl rfl) rfl rfl ?_
            obtain ⟨g3, H⟩ := H
            refine AO.appendL (e := 3) (sz := 1) (bs := 8) (av := avI) v1 ([x1.Number] : List Int) (SLe.eq rfl) rfl (SLe.eq rfl) (by kernel_rfl) g3 rfl ?_
            refine AO.pure (PureOp.assignO (SLe.eq rfl)) rfl rfl ?_
            refine AO.nil ?_
            refine blockQ_normal ?_
            refine thenQ_normal ?_
            refine AC.region ?_
            refine AO.pure (PureOp.moveD (SLe.eq rfl)) rfl rfl ?_
            refine AO.pure (PureOp.add (SLe.eq rfl) (SLe.eq rfl) (by omega) (by omega)) rfl rfl ?_
            refine AO.pure (PureOp.assignD (SLe.eq rfl)) rfl rfl ?_
            refine AO.nil ?_
            refine thenQ_normal ?_
            refine ⟨(i1 + 1, (v1 ++ ([x1.Number] : List Int))), ⟨hlt1, by rw [hrec1] at H; exact H⟩, (by show p0.length - (i1 + 1) < p0.length - i1; omega), ?_⟩
            exact Le.mk [(0, 1)] ⟨⟨SLe.eq rfl, rfl⟩, ⟨SLe.eq rfl, rfl⟩, ⟨SLe.eq rfl, rfl⟩, rfl, (by first | exact ⟨SLe.eq rfl, rfl⟩ | exact ⟨SLe.int rfl (by omega), rfl⟩), trivial⟩ trivial ⟨⟨_, rfl, rfl⟩, trivial⟩ rfl rfl rfl rfl rfl
          · skip
            replace H := ite_f H hb
            refine AC.skip ?_
            refine blockQ_normal ?_
            refine thenQ_normal ?_
            refine AC.region ?_
            refine AO.pure (PureOp.moveD (SLe.eq rfl)) rfl rfl ?_
            refine AO.pure (PureOp.add (SLe.eq rfl) (SLe.eq rfl) (by omega) (by omega)) rfl rfl ?_
            refine AO.pure (PureOp.assignD (SLe.eq rfl)) rfl rfl ?_
            refine AO.nil ?_
            refine thenQ_normal ?_
            refine ⟨(i1 + 1, v1), ⟨hlt1, by rw [hrec1] at H; exact H⟩, (by show p0.length - (i1 + 1) < p0.length - i1; omega), ?_⟩
            exact Le.mk [(0, 0)] ⟨⟨SLe.eq rfl, rfl⟩, ⟨SLe.eq rfl, rfl⟩, ⟨SLe.eq rfl, rfl⟩, rfl, (by first | exact ⟨SLe.eq rfl, rfl⟩ | exact ⟨SLe.int rfl (by omega), rfl⟩), trivial⟩ trivial ⟨⟨_, rfl, rfl⟩, trivial⟩ rfl rfl rfl rfl rfl
        · skip
          obtain ⟨hd1, _⟩ := drop_end (l := p0) (i := i1) hi1 hb
          rw [hd1] at H
          replace H := forL_end H
          unfold r_nam_l1e at H
          refine AC.exit ?_
          refine thenQ_exit ?_
          refine thenQ_exit ?_
          refine blockQ_hit ?_
          refine thenQ_normal ?_
          refine AC.seq ?_
          refine AC.region ?_
          refine AO.pure (PureOp.moveO (SLe.eq rfl)) rfl rfl ?_
          refine AO.pure (PureOp.assignO (SLe.eq rfl)) rfl rfl ?_
          refine AO.pure (PureOp.assignD (SLe.eq rfl)) rfl rfl ?_
          refine AO.nil ?_
          refine thenQ_normal ?_
          refine AC.ret ?_
          refine ⟨rfl, _, ?_, ResOf.two (GetR.ownA (SLe.eq rfl) rfl rfl) (GetR.any (r := (iD 0)) (SLe.eq rfl))⟩
          exact ⟨v1, 0, rfl, H⟩
def c_ext_W (p0 : Int) (p1 : Int) (p2 : Int) (p3 : Int) (Post : Int → Int → Prop) : Prop :=
  (if (!decide ((err p0 p1 p2 p3) = 0)) = true then Post 0 (err p0 p1 p2 p3) else Post (rat p0 (upV p0 p1 p2 p3)) 0)
set_option maxRecDepth 100000 in
set_option maxHeartbeats 4000000 in
theorem c_ext_w (p0 : Int) (p1 : Int) (p2 : Int) (p3 : Int) (Post : Int → Int → Prop) (H : c_ext_W p0 p1 p2 p3 Post) : ACalls Try.prog 28 false false (([(iD p0), (iD p1), (iD p2), (iD p3)] : List D).map SV.d) (fun r => ∃ y0 : Int, ∃ y1 : Int, r = .tup [(iD y0), (iD y1)] ∧ Post y0 y1) := by
  refine ACalls.of Try.func28 rfl rfl rfl rfl rfl fun w0 S0 T => ?_
  unfold c_ext_W at H
  refine AC.seq ?_
  refine AC.region ?_
  refine AO.pure (PureOp.assignD (SLe.eq rfl)) rfl rfl ?_
  refine AO.pure (PureOp.assignD (SLe.eq rfl)) rfl rfl ?_
  refine AO.nil ?_
  refine thenQ_normal ?_
  refine AC.seq ?_
  refine AC.region ?_
  refine AO.pure (PureOp.moveD (SLe.eq rfl)) rfl rfl ?_
  refine AO.pure (PureOp.moveD (SLe.eq rfl)) rfl rfl ?_
  refine AO.pure (PureOp.moveD (SLe.eq rfl)) rfl rfl ?_
  refine AO.pure (PureOp.moveD (SLe.eq rfl)) rfl rfl ?_
  refine AO.pure (PureOp.callS (.cons (SLe.eq rfl) (.cons (SLe.eq rfl) (.cons (SLe.eq rfl) (.cons (SLe.eq rfl) .nil)))) (bp_upper p0 p1 p2 p3) (by kernel_rfl)) rfl rfl ?_
  refine AO.pure (PureOp.moveD (SLe.eq rfl)) rfl rfl ?_
  refine AO.pure (PureOp.extract (c := (iD (upV p0 p1 p2 p3))) (SLe.eq rfl) rfl) rfl rfl ?_
  refine AO.pure (PureOp.extract (c := (iD (err p0 p1 p2 p3))) (SLe.eq rfl) rfl) rfl rfl ?_
  refine AO.pure (PureOp.assignD (SLe.eq rfl)) rfl rfl ?_
  refine AO.pure (PureOp.assignD (SLe.eq rfl)) rfl rfl ?_
  refine AO.nil ?_
  refine thenQ_normal ?_
  refine AC.seq ?_
  refine AC.seq ?_
  refine AC.region ?_
  refine AO.pure (PureOp.moveD (SLe.eq rfl)) rfl rfl ?_
  refine AO.pure (PureOp.neq (SLe.eq rfl) (SLe.eq rfl)) rfl rfl ?_
  refine AO.nil ?_
  refine thenQ_normal ?_
  refine AC.cond (SLe.eq rfl) (fun hb => ?_) (fun hb => ?_)
  · skip
    replace H := ite_t H hb
    refine AC.seq ?_
    refine AC.region ?_
    refine AO.pure (PureOp.moveD (SLe.eq rfl)) rfl rfl ?_
    refine AO.pure (PureOp.assignD (SLe.eq rfl)) rfl rfl ?_
    refine AO.pure (PureOp.assignD (SLe.eq rfl)) rfl rfl ?_
    refine AO.nil ?_
    refine thenQ_normal ?_
    refine AC.ret ?_
    refine thenQ_ret ?_
    refine ⟨rfl, _, ?_, ResOf.two (GetR.any (r := (iD 0)) (SLe.eq rfl)) (GetR.any (r := (iD (err p0 p1 p2 p3))) (SLe.eq rfl))⟩
    exact ⟨0, (err p0 p1 p2 p3), rfl, H⟩
  · skip
    replace H := ite_f H hb
    refine AC.skip ?_
    refine thenQ_normal ?_
    refine AC.seq ?_
    refine AC.region ?_
    refine AO.pure (PureOp.moveD (SLe.eq rfl)) rfl rfl ?_
    refine AO.pure (PureOp.moveD (SLe.eq rfl)) rfl rfl ?_
    refine AO.pure (PureOp.callS (.cons (SLe.eq rfl) (.cons (SLe.eq rfl) .nil)) (bp_rate p0 (upV p0 p1 p2 p3)) (by kernel_rfl)) rfl rfl ?_
    refine AO.pure (PureOp.assignD (SLe.eq rfl)) rfl rfl ?_
    refine AO.pure (PureOp.assignD (SLe.eq rfl)) rfl rfl ?_
    refine AO.nil ?_
    refine thenQ_normal ?_
    refine AC.ret ?_
    refine ⟨rfl, _, ?_, ResOf.two (GetR.any (r := (iD (rat p0 (upV p0 p1 p2 p3)))) (SLe.eq rfl)) (GetR.any (r := (iD 0)) (SLe.eq rfl))⟩
    exact ⟨(rat p0 (upV p0 p1 p2 p3)), 0, rfl, H⟩
def r_ext_W (p0 : Int) (p1 : Int) (p2 : Int) (p3 : Int) (Post : Int → Int → Prop) : Prop :=
  (if (!decide ((err p0 p1 p2 p3) = 0)) = true then Post 0 (err p0 p1 p2 p3) else Post (rat p0 (upV p0 p1 p2 p3)) 0)
set_option maxRecDepth 100000 in
set_option maxHeartbeats 4000000 in
theorem r_ext_w (p0 : Int) (p1 : Int) (p2 : Int) (p3 : Int) (Post : Int → Int → Prop) (H : r_ext_W p0 p1 p2 p3 Post) : ACalls Try.prog 29 false false (([(iD p0), (iD p1), (iD p2), (iD p3)] : List D).map SV.d) (fun r => ∃ y0 : Int, ∃ y1 : Int, r = .tup [(iD y0), (iD y1)] ∧ Post y0 y1) := by
  refine ACalls.of Try.func29 rfl rfl rfl rfl rfl fun w0 S0 T => ?_
  unfold r_ext_W at H
  refine AC.seq ?_
  refine AC.region ?_
  refine AO.pure (PureOp.assignD (SLe.eq rfl)) rfl rfl ?_
  refine AO.pure (PureOp.assignD (SLe.eq rfl)) rfl rfl ?_
  refine AO.nil ?_
  refine thenQ_normal ?_
  refine AC.seq ?_
  refine AC.region ?_
  refine AO.pure (PureOp.moveD (SLe.eq rfl)) rfl rfl ?_
  refine AO.pure (PureOp.moveD (SLe.eq rfl)) rfl rfl ?_
  refine AO.pure (PureOp.moveD (SLe.eq rfl)) rfl rfl ?_
  refine AO.pure (PureOp.moveD (SLe.eq rfl)) rfl rfl ?_
  refine AO.pure (PureOp.callS (.cons (SLe.eq rfl) (.cons (SLe.eq rfl) (.cons (SLe.eq rfl) (.cons (SLe.eq rfl) .nil)))) (br_upper p0 p1 p2 p3) (by kernel_rfl)) rfl rfl ?_
  refine AO.pure (PureOp.moveD (SLe.eq rfl)) rfl rfl ?_
  refine AO.pure (PureOp.extract (c := (iD (upV p0 p1 p2 p3))) (SLe.eq rfl) rfl) rfl rfl ?_
  refine AO.pure (PureOp.extract (c := (iD (err p0 p1 p2 p3))) (SLe.eq rfl) rfl) rfl rfl ?_
  refine AO.pure (PureOp.assignD (SLe.eq rfl)) rfl rfl ?_
  refine AO.pure (PureOp.assignD (SLe.eq rfl)) rfl rfl ?_
  refine AO.nil ?_
  refine thenQ_normal ?_
  refine AC.seq ?_
  refine AC.seq ?_
  refine AC.region ?_
  refine AO.pure (PureOp.moveD (SLe.eq rfl)) rfl rfl ?_
  refine AO.pure (PureOp.neq (SLe.eq rfl) (SLe.eq rfl)) rfl rfl ?_
  refine AO.nil ?_
  refine thenQ_normal ?_
  refine AC.cond (SLe.eq rfl) (fun hb => ?_) (fun hb => ?_)
  · skip
    replace H := ite_t H hb
    refine AC.seq ?_
    refine AC.region ?_
    refine AO.pure (PureOp.moveD (SLe.eq rfl)) rfl rfl ?_
    refine AO.pure (PureOp.assignD (SLe.eq rfl)) rfl rfl ?_
    refine AO.pure (PureOp.assignD (SLe.eq rfl)) rfl rfl ?_
    refine AO.nil ?_
    refine thenQ_normal ?_
    refine AC.ret ?_
    refine thenQ_ret ?_
    refine ⟨rfl, _, ?_, ResOf.two (GetR.any (r := (iD 0)) (SLe.eq rfl)) (GetR.any (r := (iD (err p0 p1 p2 p3))) (SLe.eq rfl))⟩
    exact ⟨0, (err p0 p1 p2 p3), rfl, H⟩
  · skip
    replace H := ite_f H hb
    refine AC.skip ?_
    refine thenQ_normal ?_
    refine AC.seq ?_
    refine AC.region ?_
    refine AO.pure (PureOp.moveD (SLe.eq rfl)) rfl rfl ?_
    refine AO.pure (PureOp.moveD (SLe.eq rfl)) rfl rfl ?_
    refine AO.pure (PureOp.callS (.cons (SLe.eq rfl) (.cons (SLe.eq rfl) .nil)) (br_rate p0 (upV p0 p1 p2 p3)) (by kernel_rfl)) rfl rfl ?_
    refine AO.pure (PureOp.assignD (SLe.eq rfl)) rfl rfl ?_
    refine AO.pure (PureOp.assignD (SLe.eq rfl)) rfl rfl ?_
    refine AO.nil ?_
    refine thenQ_normal ?_
    refine AC.ret ?_
    refine ⟨rfl, _, ?_, ResOf.two (GetR.any (r := (iD (rat p0 (upV p0 p1 p2 p3)))) (SLe.eq rfl)) (GetR.any (r := (iD 0)) (SLe.eq rfl))⟩
    exact ⟨(rat p0 (upV p0 p1 p2 p3)), 0, rfl, H⟩
def r_flat_W (p0 : Int) (Post : Int → Prop) : Prop :=
  (if (decide (p0 < 0) || decide (5 < p0)) = true then Post 0 else (inb ([0, 20, 50, 100, 250, 1000] : List Int) p0) ∧ Post (ix ([0, 20, 50, 100, 250, 1000] : List Int) p0))
set_option maxRecDepth 100000 in
set_option maxHeartbeats 4000000 in
theorem r_flat_w (p0 : Int) (Post : Int → Prop) (H : r_flat_W p0 Post) : ACalls Try.prog 31 false false (([(iD p0)] : List D).map SV.d) (fun r => ∃ y0 : Int, r = (iD y0) ∧ Post y0) := by
  refine ACalls.of Try.func31 rfl rfl rfl rfl rfl fun w0 S0 T => ?_
  unfold r_flat_W at H
  refine AC.seq ?_
  refine AC.region ?_
  refine AO.pure (PureOp.assignD (SLe.eq rfl)) rfl rfl ?_
  refine AO.nil ?_
  refine thenQ_normal ?_
  refine AC.seq ?_
  refine AC.seq ?_
  refine AC.region ?_
  refine AO.pure (PureOp.moveD (SLe.eq rfl)) rfl rfl ?_
  refine AO.pure (PureOp.lss (SLe.eq rfl) (SLe.eq rfl)) rfl rfl ?_
  refine AO.pure (PureOp.moveD (SLe.eq rfl)) rfl rfl ?_
  refine AO.guarded rfl rfl (fun hG => PureOp.moveD (SLe.eq rfl)) rfl rfl ?_
  refine AO.guarded rfl rfl (fun hG => PureOp.gtr (SLe.cnd rfl hG) (SLe.eq rfl)) rfl rfl ?_
  refine AO.pure (PureOp.pickOr (SLe.eq rfl) rfl rfl (fun h => beq_f h)) rfl rfl ?_
  refine AO.nil ?_
  refine thenQ_normal ?_
  refine AC.cond (SLe.eq rfl) (fun hb => ?_) (fun hb => ?_)
  · skip
    replace H := ite_t H hb
    refine AC.seq ?_
    refine AC.region ?_
    refine AO.pure (PureOp.assignD (SLe.eq rfl)) rfl rfl ?_
    refine AO.nil ?_
    refine thenQ_normal ?_
    refine AC.ret ?_
    refine thenQ_ret ?_
    refine ⟨rfl, _, ?_, ResOf.one (GetR.any (r := (iD 0)) (SLe.eq rfl))⟩
    exact ⟨0, rfl, H⟩
  · skip
    replace H := ite_f H hb
    refine AC.skip ?_
    refine thenQ_normal ?_
    refine AC.seq ?_
    refine AC.region ?_
    refine AO.pure (PureOp.buildSlice (e := 3) (sz := 1) (z := .int .i64 0) (rows := [[(iD 0)], [(iD 20)], [(iD 50)], [(iD 100)], [(iD 250)], [(iD 1000)]]) (by kernel_rfl) (by kernel_rfl) rfl rfl rfl (.cons (SLe.eq rfl) rfl (.cons (SLe.eq rfl) rfl (.cons (SLe.eq rfl) rfl (.cons (SLe.eq rfl) rfl (.cons (SLe.eq rfl) rfl (.cons (SLe.eq rfl) rfl .nil)))))) rfl rfl rfl rfl) rfl rfl ?_
    refine AO.pure (PureOp.moveD (SLe.eq rfl)) rfl rfl ?_
    obtain ⟨g1, H⟩ := H
    refine AO.pure (PureOp.idxI (e := 3) (sz := 1) (av := avI) (l := ([0, 20, 50, 100, 250, 1000] : List Int)) (SLe.eq rfl) (SLe.eq rfl) g1 (by kernel_rfl)) rfl rfl ?_
    refine AO.pure (PureOp.load1 (c := (iD (ix ([0, 20, 50, 100, 250, 1000] : List Int) p0))) (SLe.eq rfl) rfl (by kernel_rfl)) rfl rfl ?_
    refine AO.pure (PureOp.assignD (SLe.eq rfl)) rfl rfl ?_
    refine AO.nil ?_
    refine thenQ_normal ?_
    refine AC.ret ?_
    refine ⟨rfl, _, ?_, ResOf.one (GetR.any (r := (iD (ix ([0, 20, 50, 100, 250, 1000] : List Int) p0))) (SLe.eq rfl))⟩
    exact ⟨(ix ([0, 20, 50, 100, 250, 1000] : List Int) p0), rfl, H⟩
def s_fin_l1b (Post : List api_Finding → Prop) (rec1 : (Int × Int × (List api_Finding)) → Prop) (v1 : Int × Int × (List api_Finding)) : Prop :=
  (if decide (0 < v1.2.1) = true then ∀ z2 : Int, (1 ≤ z2) → (z2 ≤ 3 ∨ z2 = 1) → ∀ z3 : Int, (0 ≤ z3) → (z3 < 6 ∨ z3 = 0) → ∀ z4 : Int, (1 ≤ z4) → (z4 ≤ 15 ∨ z4 = 1) → ∀ z5 : Int, (0 ≤ z5) → (z5 < 4 ∨ z5 = 0) → ∀ z6 : Int, (1 ≤ z6) → (z6 ≤ 1000 ∨ z6 = 1) → (apOK 40 v1.2.2.length 1) ∧ rec1 (w64 (v1.1 + z2), w64 (v1.2.1 - 1), (v1.2.2 ++ ([(⟨w64 (v1.1 + z2), z4, z3, w64 (z3 + z5), z6⟩ : api_Finding)] : List api_Finding))) else Post v1.2.2)
def s_fin_W  (Post : List api_Finding → Prop) : Prop :=
  ∀ z1 : Int, (0 ≤ z1) → (z1 < 5 ∨ z1 = 0) → (∃ m : Nat, forF (s_fin_l1b Post) m (0, z1, ([] : List api_Finding)))
set_option maxRecDepth 100000 in
set_option maxHeartbeats 4000000 in
theorem s_fin_w  (Post : List api_Finding → Prop) (H : s_fin_W  Post) : ACalls Try.prog 17 true false ([.tp]) (fun r => ∃ y0 : (List api_Finding), r = (.sl 5 (y0.map api_Finding.av)) ∧ Post y0) := by
  refine ACalls.of Try.func17 rfl rfl rfl rfl rfl fun w0 S0 T => ?_
  unfold s_fin_W at H
  refine AC.seq ?_
  refine AC.region ?_
  refine AO.pure (PureOp.assignD (SLe.eq rfl)) rfl rfl ?_
  refine AO.nil ?_
  refine thenQ_normal ?_
  refine AC.seq ?_
  refine AC.region ?_
  refine AO.pure (PureOp.assignD (SLe.eq rfl)) rfl rfl ?_
  refine AO.nil ?_
  refine thenQ_normal ?_
  refine AC.seq ?_
  refine AC.region ?_
  refine AO.pure (PureOp.assignD (SLe.eq rfl)) rfl rfl ?_
  refine AO.nil ?_
  refine thenQ_normal ?_
  refine AC.seq ?_
  refine AC.seq ?_
  refine AC.region ?_
  refine AO.pure (PureOp.moveT (SLe.eq rfl)) rfl rfl ?_
  refine AO.tcallS (.tp (SLe.eq rfl) (.cons (SLe.eq rfl) .nil)) ((next_c 5 (by decide)).any) rfl (by kernel_rfl) rfl ?_
  rintro _ ⟨z1, rfl, h1, h2⟩
  replace H := H z1 h1 h2
  refine AO.pure (PureOp.assignD (SLe.eq rfl)) rfl rfl ?_
  refine AO.nil ?_
  refine thenQ_normal ?_
  refine AC.block ?_
  obtain ⟨m1, H⟩ := H
  refine AC.loop (ι := Nat × Int × Int × (List api_Finding)) (fun q => ⟨[(0, .tp), (3, .os 0), (4, .d (iD q.2.1)), (5, .d (iD q.2.2.1))], [], [(0, ⟨32, 5, q.2.2.2.map api_Finding.av⟩)], 1, true, 34⟩) (fun q => forF (s_fin_l1b Post) q.1 q.2) (fun q => q.1) (m1, (0, z1, ([] : List api_Finding))) ?_ H ?_
  · skip
    refine Le.trans (Le.ownNil 3 32 5 rfl rfl) ?_
    exact Le.mk [(0, 0)] ⟨⟨SLe.eq rfl, rfl⟩, rfl, (by first | exact ⟨SLe.eq rfl, rfl⟩ | exact ⟨SLe.int rfl (by omega), rfl⟩), (by first | exact ⟨SLe.eq rfl, rfl⟩ | exact ⟨SLe.int rfl (by omega), rfl⟩), trivial⟩ trivial ⟨⟨_, rfl, rfl⟩, trivial⟩ rfl rfl rfl rfl rfl
  · rintro ⟨m1, v1⟩ H
    have H2 := forF_step (show forF (s_fin_l1b Post) m1 v1 from H)
    clear H
    obtain ⟨m1, rfl, H⟩ := H2
    change AC _ _ _ _ _ ⟨[(0, .tp), (3, .os 0), (4, .d (iD v1.1)), (5, .d (iD v1.2.1))], [], [(0, ⟨32, 5, v1.2.2.map api_Finding.av⟩)], 1, true, 34⟩ _
    obtain ⟨rec1, hrec1⟩ : ∃ r, r = forF (s_fin_l1b Post) m1 := ⟨_, rfl⟩
    rw [← hrec1] at H
    unfold s_fin_l1b at H
    refine AC.seq ?_
    refine AC.seq ?_
    refine AC.region ?_
    refine AO.pure (PureOp.moveD (SLe.eq rfl)) rfl rfl ?_
    refine AO.pure (PureOp.gtr (SLe.eq rfl) (SLe.eq rfl)) rfl rfl ?_
    refine AO.nil ?_
    refine thenQ_normal ?_
    refine AC.cond (SLe.eq rfl) (fun hb => ?_) (fun hb => ?_)
    · skip
      replace H := ite_t H hb
      refine AC.skip ?_
      refine thenQ_normal ?_
      refine AC.seq ?_
      refine AC.block ?_
      refine AC.seq ?_
      refine AC.region ?_
      refine AO.pure (PureOp.moveD (SLe.eq rfl)) rfl rfl ?_
      refine AO.pure (PureOp.moveT (SLe.eq rfl)) rfl rfl ?_
      refine AO.tcallS (.tp (SLe.eq rfl) (.cons (SLe.eq rfl) (.cons (SLe.eq rfl) .nil))) ((range_c 1 3 (by decide) (by decide) (by decide) (by decide)).any) rfl (by kernel_rfl) rfl ?_
      rintro _ ⟨z2, rfl, h3, h4⟩
      replace H := H z2 h3 h4
      refine AO.pure (PureOp.addW (SLe.eq rfl) (SLe.eq rfl)) rfl rfl ?_
      refine AO.pure (PureOp.assignD (SLe.eq rfl)) rfl rfl ?_
      refine AO.nil ?_
      refine thenQ_normal ?_
      refine AC.seq ?_
      refine AC.region ?_
      refine AO.pure (PureOp.moveT (SLe.eq rfl)) rfl rfl ?_
      refine AO.tcallS (.tp (SLe.eq rfl) (.cons (SLe.eq rfl) .nil)) ((next_c 6 (by decide)).any) rfl (by kernel_rfl) rfl ?_
      rintro _ ⟨z3, rfl, h5, h6⟩
      replace H := H z3 h5 h6
      refine AO.pure (PureOp.assignD (SLe.eq rfl)) rfl rfl ?_
      refine AO.nil ?_
      refine thenQ_normal ?_
      refine AC.region ?_
      refine AO.pure (PureOp.moveO (SLe.eq rfl)) rfl rfl ?_
      refine AO.pure (PureOp.moveD (SLe.eq rfl)) rfl rfl ?_
      refine AO.pure (PureOp.moveT (SLe.eq rfl)) rfl rfl ?_
      refine AO.tcallS (.tp (SLe.eq rfl) (.cons (SLe.eq rfl) (.cons (SLe.eq rfl) .nil))) ((range_c 1 15 (by decide) (by decide) (by decide) (by decide)).any) rfl (by kernel_rfl) rfl ?_
      rintro _ ⟨z4, rfl, h7, h8⟩
      replace H := H z4 h7 h8
      refine AO.pure (PureOp.moveD (SLe.eq rfl)) rfl rfl ?_
      refine AO.pure (PureOp.moveD (SLe.eq rfl)) rfl rfl ?_
      refine AO.pure (PureOp.moveT (SLe.eq rfl)) rfl rfl ?_
      refine AO.tcallS (.tp (SLe.eq rfl) (.cons (SLe.eq rfl) .nil)) ((next_c 4 (by decide)).any) rfl (by kernel_rfl) rfl ?_
      rintro _ ⟨z5, rfl, h9, h10⟩
      replace H := H z5 h9 h10
      refine AO.pure (PureOp.addW (SLe.eq rfl) (SLe.eq rfl)) rfl rfl ?_
      refine AO.pure (PureOp.moveT (SLe.eq rfl)) rfl rfl ?_
      refine AO.tcallS (.tp (SLe.eq rfl) (.cons (SLe.eq rfl) (.cons (SLe.eq rfl) .nil))) ((range_c 1 1000 (by decide) (by decide) (by decide) (by decide)).any) rfl (by kernel_rfl) rfl ?_
      rintro _ ⟨z6, rfl, h11, h12⟩
      replace H := H z6 h11 h12
      refine AO.pure (PureOp.build (ds := [(iD (w64 (v1.1 + z2))), (iD z4), (iD z3), (iD (w64 (z3 + z5))), (iD z6)]) (z := .agg #[.int .i64 0, .int .i64 0, .int .i64 0, .int .i64 0, .int .i64 0]) (pl := [(0, 1), (1, 1), (2, 1), (3, 1), (4, 1)]) (by kernel_rfl) rfl (by kernel_rfl) (.cons (SLe.eq rfl) rfl (.cons (SLe.eq rfl) rfl (.cons (SLe.eq rfl) rfl (.cons (SLe.eq rfl) rfl (.cons (SLe.eq rfl) rfl .nil))))) rfl rfl) rfl rfl ?_
      refine AO.pure (PureOp.buildSlice (e := 32) (sz := 5) (z := .agg #[.int .i64 0, .int .i64 0, .int .i64 0, .int .i64 0, .int .i64 0]) (rows := [[(iD (w64 (v1.1 + z2))), (iD z4), (iD z3), (iD (w64 (z3 + z5))), (iD z6)]]) (by kernel_rfl) (by kernel_rfl) rfl rfl rfl (.cons (SLe.eq rfl) rfl .nil) rfl rfl rfl rfl) rfl rfl ?_
      obtain ⟨g1, H⟩ := H
      refine AO.appendL (e := 32) (sz := 5) (bs := 40) (av := api_Finding.av) v1.2.2 ([(⟨w64 (v1.1 + z2), z4, z3, w64 (z3 + z5), z6⟩ : api_Finding)] : List api_Finding) (SLe.eq rfl) rfl (SLe.eq rfl) (by kernel_rfl) g1 rfl ?_
      refine AO.pure (PureOp.assignO (SLe.eq rfl)) rfl rfl ?_
      refine AO.nil ?_
      refine blockQ_normal ?_
      refine thenQ_normal ?_
      refine AC.region ?_
      refine AO.pure (PureOp.moveD (SLe.eq rfl)) rfl rfl ?_
      refine AO.pure (PureOp.subW (SLe.eq rfl) (SLe.eq rfl)) rfl rfl ?_
      refine AO.pure (PureOp.assignD (SLe.eq rfl)) rfl rfl ?_
      refine AO.nil ?_
      refine thenQ_normal ?_
      refine ⟨(m1, (w64 (v1.1 + z2), w64 (v1.2.1 - 1), (v1.2.2 ++ ([(⟨w64 (v1.1 + z2), z4, z3, w64 (z3 + z5), z6⟩ : api_Finding)] : List api_Finding)))), (by rw [hrec1] at H; exact H), Nat.lt_succ_self _, ?_⟩
      exact Le.mk [(0, 1)] ⟨⟨SLe.eq rfl, rfl⟩, rfl, (by first | exact ⟨SLe.eq rfl, rfl⟩ | exact ⟨SLe.int rfl (by omega), rfl⟩), (by first | exact ⟨SLe.eq rfl, rfl⟩ | exact ⟨SLe.int rfl (by omega), rfl⟩), trivial⟩ trivial ⟨⟨_, rfl, rfl⟩, trivial⟩ rfl rfl rfl rfl rfl
    · skip
      replace H := ite_f H hb
      refine AC.exit ?_
      refine thenQ_exit ?_
      refine thenQ_exit ?_
      refine blockQ_hit ?_
      refine thenQ_normal ?_
      refine AC.seq ?_
      refine AC.region ?_
      refine AO.pure (PureOp.moveO (SLe.eq rfl)) rfl rfl ?_
      refine AO.pure (PureOp.assignO (SLe.eq rfl)) rfl rfl ?_
      refine AO.nil ?_
      refine thenQ_normal ?_
      refine AC.ret ?_
      refine ⟨rfl, _, ?_, ResOf.one (GetR.ownA (SLe.eq rfl) rfl rfl)⟩
      exact ⟨v1.2.2, rfl, H⟩
def s_spe_l2b (v1 : Int × (List api_Spent)) (rec1 : (Int × (List api_Spent)) → Prop) (rec2 : (Int × (List api_Spent)) → Prop) (v2 : Int × (List api_Spent)) : Prop :=
  (if decide (v2.1 < 4) = true then ∀ z1 : Bool, (if z1 = true then ∀ z2 : Int, (0 ≤ z2) → (z2 < 2000 ∨ z2 = 0) → ∀ z3 : Int, (0 ≤ z3) → (z3 < 50 ∨ z3 = 0) → (apOK 24 v2.2.length 1) ∧ rec2 (w64 (v2.1 + 1), (v2.2 ++ ([(⟨v1.1, v2.1, w64 (z2 * z3)⟩ : api_Spent)] : List api_Spent))) else rec2 (w64 (v2.1 + 1), v2.2)) else rec1 (w64 (v1.1 + 1), v2.2))
def s_spe_l1b (Post : List api_Spent → Prop) (rec1 : (Int × (List api_Spent)) → Prop) (v1 : Int × (List api_Spent)) : Prop :=
  (if decide (v1.1 < 6) = true then (∃ m : Nat, forF (s_spe_l2b v1 rec1) m (0, v1.2)) else Post v1.2)
def s_spe_W  (Post : List api_Spent → Prop) : Prop :=
  (∃ m : Nat, forF (s_spe_l1b Post) m (0, ([] : List api_Spent)))
set_option maxRecDepth 100000 in
set_option maxHeartbeats 4000000 in
theorem s_spe_w  (Post : List api_Spent → Prop) (H : s_spe_W  Post) : ACalls Try.prog 18 true false ([.tp]) (fun r => ∃ y0 : (List api_Spent), r = (.sl 3 (y0.map api_Spent.av)) ∧ Post y0) := by
  refine ACalls.of Try.func18 rfl rfl rfl rfl rfl fun w0 S0 T => ?_
  unfold s_spe_W at H
  refine AC.seq ?_
  refine AC.region ?_
  refine AO.pure (PureOp.assignD (SLe.eq rfl)) rfl rfl ?_
  refine AO.nil ?_
  refine thenQ_normal ?_
  refine AC.seq ?_
  refine AC.region ?_
  refine AO.pure (PureOp.assignD (SLe.eq rfl)) rfl rfl ?_
  refine AO.nil ?_
  refine thenQ_normal ?_
  refine AC.seq ?_
  refine AC.seq ?_
  refine AC.region ?_
  refine AO.pure (PureOp.assignD (SLe.eq rfl)) rfl rfl ?_
  refine AO.nil ?_
  refine thenQ_normal ?_
  refine AC.block ?_
  obtain ⟨m1, H⟩ := H
  refine AC.loop (ι := Nat × Int × (List api_Spent)) (fun q => ⟨[(0, .tp), (3, .os 0), (4, .d (iD q.2.1))], [], [(0, ⟨36, 3, q.2.2.map api_Spent.av⟩)], 1, true, 28⟩) (fun q => forF (s_spe_l1b Post) q.1 q.2) (fun q => q.1) (m1, (0, ([] : List api_Spent))) ?_ H ?_
  · skip
    refine Le.trans (Le.ownNil 3 36 3 rfl rfl) ?_
    exact Le.mk [(0, 0)] ⟨⟨SLe.eq rfl, rfl⟩, rfl, (by first | exact ⟨SLe.eq rfl, rfl⟩ | exact ⟨SLe.int rfl (by omega), rfl⟩), trivial⟩ trivial ⟨⟨_, rfl, rfl⟩, trivial⟩ rfl rfl rfl rfl rfl
  · rintro ⟨m1, v1⟩ H
    have H2 := forF_step (show forF (s_spe_l1b Post) m1 v1 from H)
    clear H
    obtain ⟨m1, rfl, H⟩ := H2
    change AC _ _ _ _ _ ⟨[(0, .tp), (3, .os 0), (4, .d (iD v1.1))], [], [(0, ⟨36, 3, v1.2.map api_Spent.av⟩)], 1, true, 28⟩ _
    obtain ⟨rec1, hrec1⟩ : ∃ r, r = forF (s_spe_l1b Post) m1 := ⟨_, rfl⟩
    rw [← hrec1] at H
    unfold s_spe_l1b at H
    refine AC.seq ?_
    refine AC.seq ?_
    refine AC.region ?_
    refine AO.pure (PureOp.moveD (SLe.eq rfl)) rfl rfl ?_
    refine AO.pure (PureOp.lss (SLe.eq rfl) (SLe.eq rfl)) rfl rfl ?_
    refine AO.nil ?_
    refine thenQ_normal ?_
    refine AC.cond (SLe.eq rfl) (fun hb => ?_) (fun hb => ?_)
    · skip
      replace H := ite_t H hb
      refine AC.skip ?_
      refine thenQ_normal ?_
      refine AC.seq ?_
      refine AC.block ?_
      refine AC.seq ?_
      refine AC.region ?_
      refine AO.pure (PureOp.assignD (SLe.eq rfl)) rfl rfl ?_
      refine AO.nil ?_
      refine thenQ_normal ?_
      refine AC.block ?_
      obtain ⟨m2, H⟩ := H
      refine AC.loop (ι := Nat × Int × (List api_Spent)) (fun q => ⟨[(0, .tp), (3, .os 0), (4, .d (iD v1.1)), (5, .d (iD q.2.1))], [], [(0, ⟨36, 3, q.2.2.map api_Spent.av⟩)], 1, true, 28⟩) (fun q => forF (s_spe_l2b v1 rec1) q.1 q.2) (fun q => q.1) (m2, (0, v1.2)) ?_ H ?_
      · skip
        exact Le.mk [(0, 0)] ⟨⟨SLe.eq rfl, rfl⟩, rfl, ⟨SLe.eq rfl, rfl⟩, (by first | exact ⟨SLe.eq rfl, rfl⟩ | exact ⟨SLe.int rfl (by omega), rfl⟩), trivial⟩ trivial ⟨⟨_, rfl, rfl⟩, trivial⟩ rfl rfl rfl rfl rfl
      · rintro ⟨m2, v2⟩ H
        have H2 := forF_step (show forF (s_spe_l2b v1 rec1) m2 v2 from H)
        clear H
        obtain ⟨m2, rfl, H⟩ := H2
        change AC _ _ _ _ _ ⟨[(0, .tp), (3, .os 0), (4, .d (iD v1.1)), (5, .d (iD v2.1))], [], [(0, ⟨36, 3, v2.2.map api_Spent.av⟩)], 1, true, 28⟩ _
        obtain ⟨rec2, hrec2⟩ : ∃ r, r = forF (s_spe_l2b v1 rec1) m2 := ⟨_, rfl⟩
        rw [← hrec2] at H
        unfold s_spe_l2b at H
        refine AC.seq ?_
        refine AC.seq ?_
        refine AC.region ?_
        refine AO.pure (PureOp.moveD (SLe.eq rfl)) rfl rfl ?_
        refine AO.pure (PureOp.lss (SLe.eq rfl) (SLe.eq rfl)) rfl rfl ?_
        refine AO.nil ?_
        refine thenQ_normal ?_
        refine AC.cond (SLe.eq rfl) (fun hb => ?_) (fun hb => ?_)
        · skip
          replace H := ite_t H hb
          refine AC.skip ?_
          refine thenQ_normal ?_
          refine AC.seq ?_
          refine AC.block ?_
          refine AC.seq ?_
          refine AC.region ?_
          refine AO.pure (PureOp.moveT (SLe.eq rfl)) rfl rfl ?_
          refine AO.tcallS (.tp (SLe.eq rfl) (.cons (SLe.eq rfl) .nil)) ((one_c 3 (by decide) (by decide)).any) rfl (by kernel_rfl) rfl ?_
          rintro _ ⟨z1, rfl⟩
          replace H := H z1
          refine AO.nil ?_
          refine thenQ_normal ?_
          refine AC.cond (SLe.eq rfl) (fun hb => ?_) (fun hb => ?_)
          · skip
            replace H := ite_t H hb
            refine AC.region ?_
            refine AO.pure (PureOp.moveO (SLe.eq rfl)) rfl rfl ?_
            refine AO.pure (PureOp.moveD (SLe.eq rfl)) rfl rfl ?_
            refine AO.pure (PureOp.moveD (SLe.eq rfl)) rfl rfl ?_
            refine AO.pure (PureOp.moveT (SLe.eq rfl)) rfl rfl ?_
            refine AO.tcallS (.tp (SLe.eq rfl) (.cons (SLe.eq rfl) .nil)) ((next_c 2000 (by decide)).any) rfl (by kernel_rfl) rfl ?_
            rintro _ ⟨z2, rfl, h1, h2⟩
            replace H := H z2 h1 h2
            refine AO.pure (PureOp.moveT (SLe.eq rfl)) rfl rfl ?_
            refine AO.tcallS (.tp (SLe.eq rfl) (.cons (SLe.eq rfl) .nil)) ((next_c 50 (by decide)).any) rfl (by kernel_rfl) rfl ?_
            rintro _ ⟨z3, rfl, h3, h4⟩
            replace H := H z3 h3 h4
            refine AO.pure (PureOp.mulW (SLe.eq rfl) (SLe.eq rfl)) rfl rfl ?_
            refine AO.pure (PureOp.build (ds := [(iD v1.1), (iD v2.1), (iD (w64 (z2 * z3)))]) (z := .agg #[.int .i64 0, .int .i64 0, .int .i64 0]) (pl := [(0, 1), (1, 1), (2, 1)]) (by kernel_rfl) rfl (by kernel_rfl) (.cons (SLe.eq rfl) rfl (.cons (SLe.eq rfl) rfl (.cons (SLe.eq rfl) rfl .nil))) rfl rfl) rfl rfl ?_
            refine AO.pure (PureOp.buildSlice (e := 36) (sz := 3) (z := .agg #[.int .i64 0, .int .i64 0, .int .i64 0]) (rows := [[(iD v1.1), (iD v2.1), (iD (w64 (z2 * z3)))]]) (by kernel_rfl) (by kernel_rfl) rfl rfl rfl (.cons (SLe.eq rfl) rfl .nil) rfl rfl rfl rfl) rfl rfl ?_
            obtain ⟨g1, H⟩ := H
            refine AO.appendL (e := 36) (sz := 3) (bs := 24) (av := api_Spent.av) v2.2 ([(⟨v1.1, v2.1, w64 (z2 * z3)⟩ : api_Spent)] : List api_Spent) (SLe.eq rfl) rfl (SLe.eq rfl) (by kernel_rfl) g1 rfl ?_
            refine AO.pure (PureOp.assignO (SLe.eq rfl)) rfl rfl ?_
            refine AO.nil ?_
            refine blockQ_normal ?_
            refine thenQ_normal ?_
            refine AC.region ?_
            refine AO.pure (PureOp.moveD (SLe.eq rfl)) rfl rfl ?_
            refine AO.pure (PureOp.addW (SLe.eq rfl) (SLe.eq rfl)) rfl rfl ?_
            refine AO.pure (PureOp.assignD (SLe.eq rfl)) rfl rfl ?_
            refine AO.nil ?_
            refine thenQ_normal ?_
            refine ⟨(m2, (w64 (v2.1 + 1), (v2.2 ++ ([(⟨v1.1, v2.1, w64 (z2 * z3)⟩ : api_Spent)] : List api_Spent)))), (by rw [hrec2] at H; exact H), Nat.lt_succ_self _, ?_⟩
            exact Le.mk [(0, 1)] ⟨⟨SLe.eq rfl, rfl⟩, rfl, ⟨SLe.eq rfl, rfl⟩, (by first | exact ⟨SLe.eq rfl, rfl⟩ | exact ⟨SLe.int rfl (by omega), rfl⟩), trivial⟩ trivial ⟨⟨_, rfl, rfl⟩, trivial⟩ rfl rfl rfl rfl rfl
          · skip
            replace H := ite_f H hb
            refine AC.skip ?_
            refine blockQ_normal ?_
            refine thenQ_normal ?_
            refine AC.region ?_
            refine AO.pure (PureOp.moveD (SLe.eq rfl)) rfl rfl ?_
            refine AO.pure (PureOp.addW (SLe.eq rfl) (SLe.eq rfl)) rfl rfl ?_
            refine AO.pure (PureOp.assignD (SLe.eq rfl)) rfl rfl ?_
            refine AO.nil ?_
            refine thenQ_normal ?_
            refine ⟨(m2, (w64 (v2.1 + 1), v2.2)), (by rw [hrec2] at H; exact H), Nat.lt_succ_self _, ?_⟩
            exact Le.mk [(0, 0)] ⟨⟨SLe.eq rfl, rfl⟩, rfl, ⟨SLe.eq rfl, rfl⟩, (by first | exact ⟨SLe.eq rfl, rfl⟩ | exact ⟨SLe.int rfl (by omega), rfl⟩), trivial⟩ trivial ⟨⟨_, rfl, rfl⟩, trivial⟩ rfl rfl rfl rfl rfl
        · skip
          replace H := ite_f H hb
          refine AC.exit ?_
          refine thenQ_exit ?_
          refine thenQ_exit ?_
          refine blockQ_hit ?_
          refine blockQ_normal ?_
          refine thenQ_normal ?_
          refine AC.region ?_
          refine AO.pure (PureOp.moveD (SLe.eq rfl)) rfl rfl ?_
          refine AO.pure (PureOp.addW (SLe.eq rfl) (SLe.eq rfl)) rfl rfl ?_
          refine AO.pure (PureOp.assignD (SLe.eq rfl)) rfl rfl ?_
          refine AO.nil ?_
          refine thenQ_normal ?_
          refine ⟨(m1, (w64 (v1.1 + 1), v2.2)), (by rw [hrec1] at H; exact H), Nat.lt_succ_self _, ?_⟩
          exact Le.mk [(0, 0)] ⟨⟨SLe.eq rfl, rfl⟩, rfl, (by first | exact ⟨SLe.eq rfl, rfl⟩ | exact ⟨SLe.int rfl (by omega), rfl⟩), trivial⟩ trivial ⟨⟨_, rfl, rfl⟩, trivial⟩ rfl rfl rfl rfl rfl
    · skip
      replace H := ite_f H hb
      refine AC.exit ?_
      refine thenQ_exit ?_
      refine thenQ_exit ?_
      refine blockQ_hit ?_
      refine thenQ_normal ?_
      refine AC.seq ?_
      refine AC.region ?_
      refine AO.pure (PureOp.moveO (SLe.eq rfl)) rfl rfl ?_
      refine AO.pure (PureOp.assignO (SLe.eq rfl)) rfl rfl ?_
      refine AO.nil ?_
      refine thenQ_normal ?_
      refine AC.ret ?_
      refine ⟨rfl, _, ?_, ResOf.one (GetR.ownA (SLe.eq rfl) rfl rfl)⟩
      exact ⟨v1.2, rfl, H⟩
end Clr
end Eng
end Go.Proofs.Ytmmekdkllccmdaa
