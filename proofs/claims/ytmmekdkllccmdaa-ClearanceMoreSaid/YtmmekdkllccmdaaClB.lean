/-
  Chapter 41: Check.
-/
import Derived.Test.YtmmekdkllccmdaaClA
namespace Go.Proofs.Ytmmekdkllccmdaa
open Go.RowKit
set_option linter.unusedVariables false
namespace Eng
namespace Clr
def c_after_W (p0 : api_Spent) (p1 : api_Spent) (Post : Int → Prop) : Prop :=
  (([(Vis.cmpZ p0.Year p1.Year), (Vis.cmpZ p0.Scheme p1.Scheme)] : List Int).length ≤ 4611686018427387904) ∧ Post (Vis.orL ([(Vis.cmpZ p0.Year p1.Year), (Vis.cmpZ p0.Scheme p1.Scheme)] : List Int))
set_option maxRecDepth 100000 in
set_option maxHeartbeats 4000000 in
theorem c_after_w (p0 : api_Spent) (p1 : api_Spent) (Post : Int → Prop) (H : c_after_W p0 p1 Post) : ACalls Try.prog 78 false false (([(.agg (api_Spent.av p0)), (.agg (api_Spent.av p1))] : List D).map SV.d) (fun r => ∃ y0 : Int, r = (iD y0) ∧ Post y0) := by
  refine ACalls.of Try.func78 rfl rfl rfl rfl rfl fun w0 S0 T => ?_
  unfold c_after_W at H
  refine AC.seq ?_
  refine AC.region ?_
  refine AO.box (SLe.eq rfl) rfl rfl rfl rfl rfl ?_
  refine AO.box (SLe.eq rfl) rfl rfl rfl rfl rfl ?_
  refine AO.pure (PureOp.assignD (SLe.eq rfl)) rfl rfl ?_
  refine AO.nil ?_
  refine thenQ_normal ?_
  refine AC.seq ?_
  refine AC.drawN 13 [] (by kernel_rfl) (by kernel_rfl) (by kernel_rfl) .nil (by kernel_rfl) ?_
  refine PSeqN.pure (PureOp.fldB (k := 0) (SLe.eq rfl) (by kernel_rfl)) rfl rfl ?_
  refine PSeqN.pure (PureOp.loadB1 (s := .d (iD p0.Year)) (SLe.eq rfl) rfl rfl (by kernel_rfl)) rfl rfl ?_
  refine PSeqN.pure (PureOp.fldB (k := 0) (SLe.eq rfl) (by kernel_rfl)) rfl rfl ?_
  refine PSeqN.pure (PureOp.loadB1 (s := .d (iD p1.Year)) (SLe.eq rfl) rfl rfl (by kernel_rfl)) rfl rfl ?_
  refine PSeqN.pure (PureOp.callS (.cons (SLe.eq rfl) (.cons (SLe.eq rfl) .nil)) ((Vis.compare_c p0.Year p1.Year).any) (by kernel_rfl)) rfl rfl ?_
  refine PSeqN.pure (PureOp.fldB (k := 1) (SLe.eq rfl) (by kernel_rfl)) rfl rfl ?_
  refine PSeqN.pure (PureOp.loadB1 (s := .d (iD p0.Scheme)) (SLe.eq rfl) rfl rfl (by kernel_rfl)) rfl rfl ?_
  refine PSeqN.pure (PureOp.fldB (k := 1) (SLe.eq rfl) (by kernel_rfl)) rfl rfl ?_
  refine PSeqN.pure (PureOp.loadB1 (s := .d (iD p1.Scheme)) (SLe.eq rfl) rfl rfl (by kernel_rfl)) rfl rfl ?_
  refine PSeqN.pure (PureOp.callS (.cons (SLe.eq rfl) (.cons (SLe.eq rfl) .nil)) ((Vis.compare_c p0.Scheme p1.Scheme).any) (by kernel_rfl)) rfl rfl ?_
  refine PSeqN.pure (PureOp.buildSlice (e := 3) (sz := 1) (z := .int .i64 0) (rows := [[(iD (Vis.cmpZ p0.Year p1.Year))], [(iD (Vis.cmpZ p0.Scheme p1.Scheme))]]) (by kernel_rfl) (by kernel_rfl) rfl rfl rfl (.cons (SLe.eq rfl) rfl (.cons (SLe.eq rfl) rfl .nil)) rfl rfl rfl rfl) rfl rfl ?_
  obtain ⟨g1, H⟩ := H
  refine PSeqN.pure (PureOp.callS (.cons (SLe.eq rfl) .nil) ((Vis.or_c ([(Vis.cmpZ p0.Year p1.Year), (Vis.cmpZ p0.Scheme p1.Scheme)] : List Int) g1).any) (by kernel_rfl)) rfl rfl ?_
  refine PSeqN.pure (PureOp.assignD (SLe.eq rfl)) rfl rfl ?_
  refine PSeqN.nil ?_
  refine AO.nil ?_
  refine thenQ_normal ?_
  refine AC.ret ?_
  refine ⟨rfl, _, ?_, ResOf.one (GetR.any (r := (iD (Vis.orL ([(Vis.cmpZ p0.Year p1.Year), (Vis.cmpZ p0.Scheme p1.Scheme)] : List Int)))) (SLe.eq rfl))⟩
  exact ⟨(Vis.orL ([(Vis.cmpZ p0.Year p1.Year), (Vis.cmpZ p0.Scheme p1.Scheme)] : List Int)), rfl, H⟩
/-- How amounts are ordered. -/
def aft (a b : api_Spent) : Int := Vis.orL [(Vis.cmpZ a.Year b.Year), (Vis.cmpZ a.Scheme b.Scheme)]
theorem c_after_any (a b : api_Spent) : FC Try.prog 78 [.agg a.av, .agg b.av] (iD (aft a b)) :=
  FC.of1 (enc := fun y : Int => iD y) (c_after_w a b _ ⟨by simp, rfl⟩)
theorem aft_le (a b : api_Spent) : aft a b ≤ 0 ↔ a.Year < b.Year ∨ (a.Year = b.Year ∧ a.Scheme ≤ b.Scheme) := by
  unfold aft Vis.orL Vis.orL Vis.orL Vis.cmpZ
  simp only [decide_eq_true_eq]
  by_cases h1 : a.Year < b.Year
  · simp [h1]
  · by_cases h2 : b.Year < a.Year
    · simp [h1, h2] <;> omega
    · by_cases h3 : a.Scheme < b.Scheme
      · simp [h1, h2, h3] <;> omega
      · by_cases h4 : b.Scheme < a.Scheme
        · simp [h1, h2, h3, h4] <;> omega
        · simp [h1, h2, h3, h4] <;> omega
def c_chk_l1b (p0 : List api_Finding) (Post : Int → Prop) (rec1 : Unit → Prop) (i1 : Nat) (x1 : api_Finding) (v1 : Unit) : Prop :=
  ((((!(c_right_E x1)) == false) && ((decide (0 < ((i1 : Nat) : Int))) == true)) = true → inb p0 (w64 (((i1 : Nat) : Int) - 1))) ∧ (if ((!(c_right_E x1)) || (decide (0 < ((i1 : Nat) : Int)) && decide (x1.Number ≤ (ix p0 (w64 (((i1 : Nat) : Int) - 1))).Number))) = true then Post 66 else rec1 ())
def c_chk_l2b (p1 : List api_Spent) (Post : Int → Prop) (rec2 : Unit → Prop) (i2 : Nat) (x2 : api_Spent) (v2 : Unit) : Prop :=
  ((((!(c_fact_E x2)) == false) && ((decide (0 < ((i2 : Nat) : Int))) == true)) = true → inb p1 (w64 (((i2 : Nat) : Int) - 1))) ∧ (if ((!(c_fact_E x2)) || (decide (0 < ((i2 : Nat) : Int)) && decide ((aft x2 (ix p1 (w64 (((i2 : Nat) : Int) - 1)))) ≤ 0))) = true then Post 68 else rec2 ())
def c_chk_l2e (Post : Int → Prop) (v2 : Unit) : Prop :=
  Post 0
def c_chk_l1e (p1 : List api_Spent) (Post : Int → Prop) (v1 : Unit) : Prop :=
  (if decide (64 < ((p1.length : Nat) : Int)) = true then Post 1 else forLI (c_chk_l2b p1 Post) (c_chk_l2e Post) 0 p1 ())
def c_chk_W (p0 : List api_Finding) (p1 : List api_Spent) (Post : Int → Prop) : Prop :=
  (if decide (20 < ((p0.length : Nat) : Int)) = true then Post 1 else forLI (c_chk_l1b p0 Post) (c_chk_l1e p1 Post) 0 p0 ())
set_option maxRecDepth 100000 in
set_option maxHeartbeats 4000000 in
theorem c_chk_w (p0 : List api_Finding) (p1 : List api_Spent) (Post : Int → Prop) (H : c_chk_W p0 p1 Post) : ACalls Try.prog 22 false false (([(.sl 5 (p0.map api_Finding.av)), (.sl 3 (p1.map api_Spent.av))] : List D).map SV.d) (fun r => ∃ y0 : Int, r = (iD y0) ∧ Post y0) := by
  refine ACalls.of Try.func22 rfl rfl rfl rfl rfl fun w0 S0 T => ?_
  unfold c_chk_W at H
  refine AC.seq ?_
  refine AC.region ?_
  refine AO.pure (PureOp.assignD (SLe.eq rfl)) rfl rfl ?_
  refine AO.nil ?_
  refine thenQ_normal ?_
  refine AC.seq ?_
  refine AC.seq ?_
  refine AC.region ?_
  refine AO.pure (PureOp.moveD (SLe.eq rfl)) rfl rfl ?_
  refine AO.pure (PureOp.lenL (e := 32) (s' := 5) (sz := 5) (l := p0) (av := api_Finding.av) (SLe.eq rfl) (by kernel_rfl)) rfl rfl ?_
  refine AO.pure (PureOp.gtr (SLe.eq rfl) (SLe.eq rfl)) rfl rfl ?_
  refine AO.nil ?_
  refine thenQ_normal ?_
  refine AC.cond (SLe.eq rfl) (fun hb => ?_) (fun hb => ?_)
  · skip
    replace H := ite_t H hb
    refine AC.seq ?_
    refine AC.region ?_
    refine AO.pure (PureOp.assignD (SLe.eq rfl)) rfl rfl ?_
    refine AO.nil ?_
    refine thenQ_normal ?_
    refine AC.ret ?_
    refine thenQ_ret ?_
    refine ⟨rfl, _, ?_, ResOf.one (GetR.any (r := (iD 1)) (SLe.eq rfl))⟩
    exact ⟨1, rfl, H⟩
  · skip
    replace H := ite_f H hb
    refine AC.skip ?_
    refine thenQ_normal ?_
    refine AC.seq ?_
    refine AC.seq ?_
    refine AC.region ?_
    refine AO.pure (PureOp.moveD (SLe.eq rfl)) rfl rfl ?_
    refine AO.pure (PureOp.lenL (e := 32) (s' := 5) (sz := 5) (l := p0) (av := api_Finding.av) (SLe.eq rfl) (by kernel_rfl)) rfl rfl ?_
    refine AO.pure (PureOp.moveD (SLe.eq rfl)) rfl rfl ?_
    refine AO.nil ?_
    refine thenQ_normal ?_
    refine AC.block ?_
    refine AC.loop (ι := Nat × Unit) (fun q => ⟨[(0, .d (.sl 5 (p0.map api_Finding.av))), (1, .d (.sl 3 (p1.map api_Spent.av))), (12, .d (.sl 5 (p0.map api_Finding.av))), (13, .d (iD ((p0.length : Nat) : Int))), (14, .d (iD ((q.1 : Nat) : Int)))], [], [], 0, false, 66⟩) (fun q => q.1 ≤ p0.length ∧ forLI (c_chk_l1b p0 Post) (c_chk_l1e p1 Post) q.1 (p0.drop q.1) q.2) (fun q => p0.length - q.1) (0, ()) ?_ ⟨Nat.zero_le _, H⟩ ?_
    · skip
      exact Le.mk [] ⟨⟨SLe.eq rfl, rfl⟩, ⟨SLe.eq rfl, rfl⟩, ⟨SLe.eq rfl, rfl⟩, ⟨SLe.eq rfl, rfl⟩, (by first | exact ⟨SLe.eq rfl, rfl⟩ | exact ⟨SLe.int rfl (by omega), rfl⟩), trivial⟩ trivial trivial rfl rfl rfl rfl rfl
    · rintro ⟨i1, v1⟩ ⟨hi1, H⟩
      dsimp only at hi1 H
      change AC _ _ _ _ _ ⟨[(0, .d (.sl 5 (p0.map api_Finding.av))), (1, .d (.sl 3 (p1.map api_Spent.av))), (12, .d (.sl 5 (p0.map api_Finding.av))), (13, .d (iD ((p0.length : Nat) : Int))), (14, .d (iD ((i1 : Nat) : Int)))], [], [], 0, false, 66⟩ _
      obtain ⟨rec1, hrec1⟩ : ∃ r, r = forLI (c_chk_l1b p0 Post) (c_chk_l1e p1 Post) (i1 + 1) (p0.drop (i1 + 1)) := ⟨_, rfl⟩
      refine AC.seq ?_
      refine AC.region ?_
      refine AO.pure (PureOp.lss (SLe.eq rfl) (SLe.eq rfl)) rfl rfl ?_
      refine AO.nil ?_
      refine thenQ_normal ?_
      refine AC.seq ?_
      refine AC.cond (SLe.eq rfl) (fun hb => ?_) (fun hb => ?_)
      · skip
        obtain ⟨x1, hx1, hd1, hlt1⟩ := drop_at (l := p0) (i := i1) hb
        rw [hd1] at H
        replace H := forLI_step H
        rw [← hrec1] at H
        unfold c_chk_l1b at H
        refine AC.len (av := api_Finding.av) (l := p0) (t := 0) (SLe.eq rfl) (fun hL1 => ?_)
        refine AC.skip ?_
        refine thenQ_normal ?_
        refine AC.seq ?_
        refine AC.block ?_
        refine AC.seq ?_
        refine AC.region ?_
        refine AO.pure (PureOp.moveD (SLe.eq rfl)) rfl rfl ?_
        refine AO.pure (PureOp.idxE (e := 32) (sz := 5) (l := p0) (n := i1) (z := x1) (SLe.eq rfl) (SLe.eq rfl) rfl hx1 (by kernel_rfl)) rfl rfl ?_
        refine AO.pure (PureOp.loadN (sz := 5) (ks := (api_Finding.av x1)) (SLe.eq rfl) rfl rfl (by kernel_rfl)) rfl rfl ?_
        refine AO.alloc (z := .agg #[.int .i64 0, .int .i64 0, .int .i64 0, .int .i64 0, .int .i64 0]) (by kernel_rfl) rfl rfl rfl ?_
        refine AO.pure (PureOp.assignD (SLe.eq rfl)) rfl rfl ?_
        refine AO.store (SLe.eq rfl) (SLe.eq rfl) rfl rfl rfl rfl rfl (by kernel_rfl) rfl rfl ?_
        refine AO.nil ?_
        refine thenQ_normal ?_
        refine AC.seq ?_
        refine AC.drawN 18 [] (by kernel_rfl) (by kernel_rfl) (by kernel_rfl) .nil (by kernel_rfl) ?_
        refine PSeqN.pure (PureOp.loadBN (sz := 5) (ds := (api_Finding.av x1)) (SLe.eq rfl) rfl rfl rfl rfl (by kernel_rfl)) rfl rfl ?_
        refine PSeqN.pure (PureOp.callS (.cons (SLe.eq rfl) .nil) (c_right_any x1) (by kernel_rfl)) rfl rfl ?_
        refine PSeqN.pure (PureOp.not (SLe.eq rfl)) rfl rfl ?_
        refine PSeqN.pure (PureOp.moveD (SLe.eq rfl)) rfl rfl ?_
        refine PSeqN.guarded rfl rfl (fun hG => PureOp.moveD (SLe.eq rfl)) rfl rfl ?_
        refine PSeqN.guarded rfl rfl (fun hG => PureOp.gtr (SLe.cnd rfl hG) (SLe.eq rfl)) rfl rfl ?_
        refine PSeqN.guarded rfl rfl (fun hG => PureOp.moveD (SLe.cnd rfl hG)) rfl rfl ?_
        refine PSeqN.guarded rfl rfl (fun hG => PureOp.fldB (k := 0) (SLe.eq rfl) (by kernel_rfl)) rfl rfl ?_
        refine PSeqN.guarded rfl rfl (fun hG => PureOp.loadB1 (s := .d (iD x1.Number)) (SLe.cnd rfl hG) rfl rfl (by kernel_rfl)) rfl rfl ?_
        refine PSeqN.guarded rfl rfl (fun hG => PureOp.moveD (SLe.eq rfl)) rfl rfl ?_
        refine PSeqN.guarded rfl rfl (fun hG => PureOp.moveD (SLe.eq rfl)) rfl rfl ?_
        refine PSeqN.guarded rfl rfl (fun hG => PureOp.subW (SLe.cnd rfl hG) (SLe.eq rfl)) rfl rfl ?_
        obtain ⟨g1, H⟩ := H
        refine PSeqN.guarded rfl rfl (fun hG => PureOp.idxI (e := 32) (sz := 5) (l := p0) (SLe.cnd rfl hG) (SLe.cnd rfl hG) (g1 hG) (by kernel_rfl)) rfl rfl ?_
        refine PSeqN.guarded rfl rfl (fun hG => PureOp.fld (k := 0) (SLe.cnd rfl hG) (by kernel_rfl)) rfl rfl ?_
        refine PSeqN.guarded rfl rfl (fun hG => PureOp.load1 (c := (iD ((ix p0 (w64 (((i1 : Nat) : Int) - 1))).Number))) (SLe.cnd rfl hG) rfl (by kernel_rfl)) rfl rfl ?_
        refine PSeqN.guarded rfl rfl (fun hG => PureOp.leq (SLe.cnd rfl hG) (SLe.cnd rfl hG)) rfl rfl ?_
        refine PSeqN.guarded rfl rfl (fun hG => PureOp.pickAnd (SLe.cnd rfl hG) rfl rfl (fun h => and_i hG (beq_t h))) rfl rfl ?_
        refine PSeqN.pure (PureOp.pickOr (SLe.eq rfl) rfl rfl (fun h => beq_f h)) rfl rfl ?_
        refine PSeqN.nil ?_
        refine AO.nil ?_
        refine thenQ_normal ?_
        refine AC.cond (SLe.eq rfl) (fun hb => ?_) (fun hb => ?_)
        · skip
          replace H := ite_t H hb
          refine AC.seq ?_
          refine AC.region ?_
          refine AO.pure (PureOp.assignD (SLe.eq rfl)) rfl rfl ?_
          refine AO.nil ?_
          refine thenQ_normal ?_
          refine AC.ret ?_
          refine blockQ_ret ?_
          refine thenQ_ret ?_
          refine thenQ_ret ?_
          refine blockQ_ret ?_
          refine thenQ_ret ?_
          refine ⟨rfl, _, ?_, ResOf.one (GetR.any (r := (iD 66)) (SLe.eq rfl))⟩
          exact ⟨66, rfl, H⟩
        · skip
          replace H := ite_f H hb
          refine AC.skip ?_
          refine blockQ_normal ?_
          refine thenQ_normal ?_
          refine AC.region ?_
          refine AO.pure (PureOp.add (SLe.eq rfl) (SLe.eq rfl) (by omega) (by omega)) rfl rfl ?_
          refine AO.pure (PureOp.moveD (SLe.eq rfl)) rfl rfl ?_
          refine AO.nil ?_
          refine thenQ_normal ?_
          refine ⟨(i1 + 1, ()), ⟨hlt1, by rw [hrec1] at H; exact H⟩, (by show p0.length - (i1 + 1) < p0.length - i1; omega), ?_⟩
          exact Le.mk [] ⟨⟨SLe.eq rfl, rfl⟩, ⟨SLe.eq rfl, rfl⟩, ⟨SLe.eq rfl, rfl⟩, ⟨SLe.eq rfl, rfl⟩, (by first | exact ⟨SLe.eq rfl, rfl⟩ | exact ⟨SLe.int rfl (by omega), rfl⟩), trivial⟩ trivial trivial rfl rfl rfl rfl rfl
      · skip
        obtain ⟨hd1, _⟩ := drop_end (l := p0) (i := i1) hi1 hb
        rw [hd1] at H
        replace H := forLI_end H
        unfold c_chk_l1e at H
        refine AC.exit ?_
        refine thenQ_exit ?_
        refine thenQ_exit ?_
        refine blockQ_hit ?_
        refine thenQ_normal ?_
        refine AC.seq ?_
        refine AC.seq ?_
        refine AC.region ?_
        refine AO.pure (PureOp.moveD (SLe.eq rfl)) rfl rfl ?_
        refine AO.pure (PureOp.lenL (e := 36) (s' := 3) (sz := 3) (l := p1) (av := api_Spent.av) (SLe.eq rfl) (by kernel_rfl)) rfl rfl ?_
        refine AO.pure (PureOp.gtr (SLe.eq rfl) (SLe.eq rfl)) rfl rfl ?_
        refine AO.nil ?_
        refine thenQ_normal ?_
        refine AC.cond (SLe.eq rfl) (fun hb => ?_) (fun hb => ?_)
        · skip
          replace H := ite_t H hb
          refine AC.seq ?_
          refine AC.region ?_
          refine AO.pure (PureOp.assignD (SLe.eq rfl)) rfl rfl ?_
          refine AO.nil ?_
          refine thenQ_normal ?_
          refine AC.ret ?_
          refine thenQ_ret ?_
          refine ⟨rfl, _, ?_, ResOf.one (GetR.any (r := (iD 1)) (SLe.eq rfl))⟩
          exact ⟨1, rfl, H⟩
        · skip
          replace H := ite_f H hb
          refine AC.skip ?_
          refine thenQ_normal ?_
          refine AC.seq ?_
          refine AC.seq ?_
          refine AC.region ?_
          refine AO.pure (PureOp.moveD (SLe.eq rfl)) rfl rfl ?_
          refine AO.pure (PureOp.lenL (e := 36) (s' := 3) (sz := 3) (l := p1) (av := api_Spent.av) (SLe.eq rfl) (by kernel_rfl)) rfl rfl ?_
          refine AO.pure (PureOp.moveD (SLe.eq rfl)) rfl rfl ?_
          refine AO.nil ?_
          refine thenQ_normal ?_
          refine AC.block ?_
          refine AC.loop (ι := Nat × Unit) (fun q => ⟨[(1, .d (.sl 3 (p1.map api_Spent.av))), (41, .d (.sl 3 (p1.map api_Spent.av))), (42, .d (iD ((p1.length : Nat) : Int))), (43, .d (iD ((q.1 : Nat) : Int)))], [], [], 0, false, 66⟩) (fun q => q.1 ≤ p1.length ∧ forLI (c_chk_l2b p1 Post) (c_chk_l2e Post) q.1 (p1.drop q.1) q.2) (fun q => p1.length - q.1) (0, ()) ?_ ⟨Nat.zero_le _, H⟩ ?_
          · skip
            exact Le.mk [] ⟨⟨SLe.eq rfl, rfl⟩, ⟨SLe.eq rfl, rfl⟩, ⟨SLe.eq rfl, rfl⟩, (by first | exact ⟨SLe.eq rfl, rfl⟩ | exact ⟨SLe.int rfl (by omega), rfl⟩), trivial⟩ trivial trivial rfl rfl rfl rfl rfl
          · rintro ⟨i2, v2⟩ ⟨hi2, H⟩
            dsimp only at hi2 H
            change AC _ _ _ _ _ ⟨[(1, .d (.sl 3 (p1.map api_Spent.av))), (41, .d (.sl 3 (p1.map api_Spent.av))), (42, .d (iD ((p1.length : Nat) : Int))), (43, .d (iD ((i2 : Nat) : Int)))], [], [], 0, false, 66⟩ _
            obtain ⟨rec2, hrec2⟩ : ∃ r, r = forLI (c_chk_l2b p1 Post) (c_chk_l2e Post) (i2 + 1) (p1.drop (i2 + 1)) := ⟨_, rfl⟩
            refine AC.seq ?_
            refine AC.region ?_
            refine AO.pure (PureOp.lss (SLe.eq rfl) (SLe.eq rfl)) rfl rfl ?_
            refine AO.nil ?_
            refine thenQ_normal ?_
            refine AC.seq ?_
            refine AC.cond (SLe.eq rfl) (fun hb => ?_) (fun hb => ?_)
            · skip
              obtain ⟨x2, hx2, hd2, hlt2⟩ := drop_at (l := p1) (i := i2) hb
              rw [hd2] at H
              replace H := forLI_step H
              rw [← hrec2] at H
              unfold c_chk_l2b at H
              refine AC.len (av := api_Spent.av) (l := p1) (t := 1) (SLe.eq rfl) (fun hL2 => ?_)
              refine AC.skip ?_
              refine thenQ_normal ?_
              refine AC.seq ?_
              refine AC.block ?_
              refine AC.seq ?_
              refine AC.region ?_
              refine AO.pure (PureOp.moveD (SLe.eq rfl)) rfl rfl ?_
              refine AO.pure (PureOp.idxE (e := 36) (sz := 3) (l := p1) (n := i2) (z := x2) (SLe.eq rfl) (SLe.eq rfl) rfl hx2 (by kernel_rfl)) rfl rfl ?_
              refine AO.pure (PureOp.loadN (sz := 3) (ks := (api_Spent.av x2)) (SLe.eq rfl) rfl rfl (by kernel_rfl)) rfl rfl ?_
              refine AO.alloc (z := .agg #[.int .i64 0, .int .i64 0, .int .i64 0]) (by kernel_rfl) rfl rfl rfl ?_
              refine AO.pure (PureOp.assignD (SLe.eq rfl)) rfl rfl ?_
              refine AO.store (SLe.eq rfl) (SLe.eq rfl) rfl rfl rfl rfl rfl (by kernel_rfl) rfl rfl ?_
              refine AO.nil ?_
              refine thenQ_normal ?_
              refine AC.seq ?_
              refine AC.drawN 17 [] (by kernel_rfl) (by kernel_rfl) (by kernel_rfl) .nil (by kernel_rfl) ?_
              refine PSeqN.pure (PureOp.loadBN (sz := 3) (ds := (api_Spent.av x2)) (SLe.eq rfl) rfl rfl rfl rfl (by kernel_rfl)) rfl rfl ?_
              refine PSeqN.pure (PureOp.callS (.cons (SLe.eq rfl) .nil) (c_fact_any x2) (by kernel_rfl)) rfl rfl ?_
              refine PSeqN.pure (PureOp.not (SLe.eq rfl)) rfl rfl ?_
              refine PSeqN.pure (PureOp.moveD (SLe.eq rfl)) rfl rfl ?_
              refine PSeqN.guarded rfl rfl (fun hG => PureOp.moveD (SLe.eq rfl)) rfl rfl ?_
              refine PSeqN.guarded rfl rfl (fun hG => PureOp.gtr (SLe.cnd rfl hG) (SLe.eq rfl)) rfl rfl ?_
              refine PSeqN.guarded rfl rfl (fun hG => PureOp.moveD (SLe.cnd rfl hG)) rfl rfl ?_
              refine PSeqN.guarded rfl rfl (fun hG => PureOp.loadBN (sz := 3) (ds := (api_Spent.av x2)) (SLe.eq rfl) rfl rfl rfl rfl (by kernel_rfl)) rfl rfl ?_
              refine PSeqN.guarded rfl rfl (fun hG => PureOp.moveD (SLe.eq rfl)) rfl rfl ?_
              refine PSeqN.guarded rfl rfl (fun hG => PureOp.moveD (SLe.eq rfl)) rfl rfl ?_
              refine PSeqN.guarded rfl rfl (fun hG => PureOp.subW (SLe.cnd rfl hG) (SLe.eq rfl)) rfl rfl ?_
              obtain ⟨g2, H⟩ := H
              refine PSeqN.guarded rfl rfl (fun hG => PureOp.idxI (e := 36) (sz := 3) (l := p1) (SLe.cnd rfl hG) (SLe.cnd rfl hG) (g2 hG) (by kernel_rfl)) rfl rfl ?_
              refine PSeqN.guarded rfl rfl (fun hG => PureOp.loadN (sz := 3) (ks := (api_Spent.av (ix p1 (w64 (((i2 : Nat) : Int) - 1))))) (SLe.cnd rfl hG) rfl rfl (by kernel_rfl)) rfl rfl ?_
              refine PSeqN.guarded rfl rfl (fun hG => PureOp.callS (.cons (SLe.cnd rfl hG) (.cons (SLe.cnd rfl hG) .nil)) (c_after_any x2 (ix p1 (w64 (((i2 : Nat) : Int) - 1)))) (by kernel_rfl)) rfl rfl ?_
              refine PSeqN.guarded rfl rfl (fun hG => PureOp.leq (SLe.cnd rfl hG) (SLe.eq rfl)) rfl rfl ?_
              refine PSeqN.guarded rfl rfl (fun hG => PureOp.pickAnd (SLe.cnd rfl hG) rfl rfl (fun h => and_i hG (beq_t h))) rfl rfl ?_
              refine PSeqN.pure (PureOp.pickOr (SLe.eq rfl) rfl rfl (fun h => beq_f h)) rfl rfl ?_
              refine PSeqN.nil ?_
              refine AO.nil ?_
              refine thenQ_normal ?_
              refine AC.cond (SLe.eq rfl) (fun hb => ?_) (fun hb => ?_)
              · skip
                replace H := ite_t H hb
                refine AC.seq ?_
                refine AC.region ?_
                refine AO.pure (PureOp.assignD (SLe.eq rfl)) rfl rfl ?_
                refine AO.nil ?_
                refine thenQ_normal ?_
                refine AC.ret ?_
                refine blockQ_ret ?_
                refine thenQ_ret ?_
                refine thenQ_ret ?_
                refine blockQ_ret ?_
                refine thenQ_ret ?_
                refine ⟨rfl, _, ?_, ResOf.one (GetR.any (r := (iD 68)) (SLe.eq rfl))⟩
                exact ⟨68, rfl, H⟩
              · skip
                replace H := ite_f H hb
                refine AC.skip ?_
                refine blockQ_normal ?_
                refine thenQ_normal ?_
                refine AC.region ?_
                refine AO.pure (PureOp.add (SLe.eq rfl) (SLe.eq rfl) (by omega) (by omega)) rfl rfl ?_
                refine AO.pure (PureOp.moveD (SLe.eq rfl)) rfl rfl ?_
                refine AO.nil ?_
                refine thenQ_normal ?_
                refine ⟨(i2 + 1, ()), ⟨hlt2, by rw [hrec2] at H; exact H⟩, (by show p1.length - (i2 + 1) < p1.length - i2; omega), ?_⟩
                exact Le.mk [] ⟨⟨SLe.eq rfl, rfl⟩, ⟨SLe.eq rfl, rfl⟩, ⟨SLe.eq rfl, rfl⟩, (by first | exact ⟨SLe.eq rfl, rfl⟩ | exact ⟨SLe.int rfl (by omega), rfl⟩), trivial⟩ trivial trivial rfl rfl rfl rfl rfl
            · skip
              obtain ⟨hd2, _⟩ := drop_end (l := p1) (i := i2) hi2 hb
              rw [hd2] at H
              replace H := forLI_end H
              unfold c_chk_l2e at H
              refine AC.exit ?_
              refine thenQ_exit ?_
              refine thenQ_exit ?_
              refine blockQ_hit ?_
              refine thenQ_normal ?_
              refine AC.seq ?_
              refine AC.region ?_
              refine AO.pure (PureOp.assignD (SLe.eq rfl)) rfl rfl ?_
              refine AO.nil ?_
              refine thenQ_normal ?_
              refine AC.ret ?_
              refine ⟨rfl, _, ?_, ResOf.one (GetR.any (r := (iD 0)) (SLe.eq rfl))⟩
              exact ⟨0, rfl, H⟩
def r_chk_l1b (p0 : List api_Finding) (Post : Int → Prop) (rec1 : Unit → Prop) (i1 : Nat) (x1 : api_Finding) (v1 : Unit) : Prop :=
  ∀ b1 : Bool, b1 = (((((decide (x1.Number < 1) || decide (1125899906842624 < x1.Number)) || decide (x1.Schemes < 1)) || decide (65536 ≤ x1.Schemes)) || decide (x1.From < 0)) || decide (x1.Until < x1.From)) → ((((((b1 || decide (100 < x1.Until)) || decide (x1.Mille < 1)) || decide (1000 < x1.Mille)) == false) && ((decide (0 < ((i1 : Nat) : Int))) == true)) = true → inb p0 (w64 (((i1 : Nat) : Int) - 1))) ∧ ∀ b2 : Bool, b2 = ((((b1 || decide (100 < x1.Until)) || decide (x1.Mille < 1)) || decide (1000 < x1.Mille)) || (decide (0 < ((i1 : Nat) : Int)) && decide (x1.Number ≤ (ix p0 (w64 (((i1 : Nat) : Int) - 1))).Number))) → (if b2 = true then Post 66 else rec1 ())
def r_chk_l2b (p1 : List api_Spent) (Post : Int → Prop) (rec2 : Unit → Prop) (i2 : Nat) (x2 : api_Spent) (v2 : Unit) : Prop :=
  (if ((((decide (x2.Year < 0) || decide (100 < x2.Year)) || decide (x2.Scheme < 0)) || decide (15 < x2.Scheme)) || (!(r32_Money_E x2.Amount))) = true then Post 68 else (((decide (0 < ((i2 : Nat) : Int))) == true) = true → inb p1 (w64 (((i2 : Nat) : Int) - 1))) ∧ ((((decide (0 < ((i2 : Nat) : Int))) == true) && ((decide (x2.Year < (ix p1 (w64 (((i2 : Nat) : Int) - 1))).Year)) == false)) = true → inb p1 (w64 (((i2 : Nat) : Int) - 1))) ∧ (((((decide (0 < ((i2 : Nat) : Int))) == true) && ((decide (x2.Year < (ix p1 (w64 (((i2 : Nat) : Int) - 1))).Year)) == false)) && ((decide (x2.Year = (ix p1 (w64 (((i2 : Nat) : Int) - 1))).Year)) == true)) = true → inb p1 (w64 (((i2 : Nat) : Int) - 1))) ∧ ∀ b3 : Bool, b3 = (decide (x2.Year < (ix p1 (w64 (((i2 : Nat) : Int) - 1))).Year) || (decide (x2.Year = (ix p1 (w64 (((i2 : Nat) : Int) - 1))).Year) && decide (x2.Scheme ≤ (ix p1 (w64 (((i2 : Nat) : Int) - 1))).Scheme))) → (if (decide (0 < ((i2 : Nat) : Int)) && b3) = true then Post 68 else rec2 ()))
def r_chk_l2e (Post : Int → Prop) (v2 : Unit) : Prop :=
  Post 0
def r_chk_l1e (p1 : List api_Spent) (Post : Int → Prop) (v1 : Unit) : Prop :=
  (if decide (64 < ((p1.length : Nat) : Int)) = true then Post 1 else forLI (r_chk_l2b p1 Post) (r_chk_l2e Post) 0 p1 ())
def r_chk_W (p0 : List api_Finding) (p1 : List api_Spent) (Post : Int → Prop) : Prop :=
  (if decide (20 < ((p0.length : Nat) : Int)) = true then Post 1 else forLI (r_chk_l1b p0 Post) (r_chk_l1e p1 Post) 0 p0 ())
set_option maxRecDepth 100000 in
set_option maxHeartbeats 4000000 in
theorem r_chk_w (p0 : List api_Finding) (p1 : List api_Spent) (Post : Int → Prop) (H : r_chk_W p0 p1 Post) : ACalls Try.prog 23 false false (([(.sl 5 (p0.map api_Finding.av)), (.sl 3 (p1.map api_Spent.av))] : List D).map SV.d) (fun r => ∃ y0 : Int, r = (iD y0) ∧ Post y0) := by
  refine ACalls.of Try.func23 rfl rfl rfl rfl rfl fun w0 S0 T => ?_
  unfold r_chk_W at H
  refine AC.seq ?_
  refine AC.region ?_
  refine AO.pure (PureOp.assignD (SLe.eq rfl)) rfl rfl ?_
  refine AO.nil ?_
  refine thenQ_normal ?_
  refine AC.seq ?_
  refine AC.seq ?_
  refine AC.region ?_
  refine AO.pure (PureOp.moveD (SLe.eq rfl)) rfl rfl ?_
  refine AO.pure (PureOp.lenL (e := 32) (s' := 5) (sz := 5) (l := p0) (av := api_Finding.av) (SLe.eq rfl) (by kernel_rfl)) rfl rfl ?_
  refine AO.pure (PureOp.gtr (SLe.eq rfl) (SLe.eq rfl)) rfl rfl ?_
  refine AO.nil ?_
  refine thenQ_normal ?_
  refine AC.cond (SLe.eq rfl) (fun hb => ?_) (fun hb => ?_)
  · skip
    replace H := ite_t H hb
    refine AC.seq ?_
    refine AC.region ?_
    refine AO.pure (PureOp.assignD (SLe.eq rfl)) rfl rfl ?_
    refine AO.nil ?_
    refine thenQ_normal ?_
    refine AC.ret ?_
    refine thenQ_ret ?_
    refine ⟨rfl, _, ?_, ResOf.one (GetR.any (r := (iD 1)) (SLe.eq rfl))⟩
    exact ⟨1, rfl, H⟩
  · skip
    replace H := ite_f H hb
    refine AC.skip ?_
    refine thenQ_normal ?_
    refine AC.seq ?_
    refine AC.seq ?_
    refine AC.region ?_
    refine AO.pure (PureOp.assignD (SLe.eq rfl)) rfl rfl ?_
    refine AO.nil ?_
    refine thenQ_normal ?_
    refine AC.block ?_
    refine AC.loop (ι := Nat × Unit) (fun q => ⟨[(0, .d (.sl 5 (p0.map api_Finding.av))), (1, .d (.sl 3 (p1.map api_Spent.av))), (5, .d (iD ((q.1 : Nat) : Int)))], [], [], 0, false, 154⟩) (fun q => q.1 ≤ p0.length ∧ forLI (r_chk_l1b p0 Post) (r_chk_l1e p1 Post) q.1 (p0.drop q.1) q.2) (fun q => p0.length - q.1) (0, ()) ?_ ⟨Nat.zero_le _, H⟩ ?_
    · skip
      exact Le.mk [] ⟨⟨SLe.eq rfl, rfl⟩, ⟨SLe.eq rfl, rfl⟩, (by first | exact ⟨SLe.eq rfl, rfl⟩ | exact ⟨SLe.int rfl (by omega), rfl⟩), trivial⟩ trivial trivial rfl rfl rfl rfl rfl
    · rintro ⟨i1, v1⟩ ⟨hi1, H⟩
      dsimp only at hi1 H
      change AC _ _ _ _ _ ⟨[(0, .d (.sl 5 (p0.map api_Finding.av))), (1, .d (.sl 3 (p1.map api_Spent.av))), (5, .d (iD ((i1 : Nat) : Int)))], [], [], 0, false, 154⟩ _
      obtain ⟨rec1, hrec1⟩ : ∃ r, r = forLI (r_chk_l1b p0 Post) (r_chk_l1e p1 Post) (i1 + 1) (p0.drop (i1 + 1)) := ⟨_, rfl⟩
      refine AC.seq ?_
      refine AC.seq ?_
      refine AC.region ?_
      refine AO.pure (PureOp.moveD (SLe.eq rfl)) rfl rfl ?_
      refine AO.pure (PureOp.moveD (SLe.eq rfl)) rfl rfl ?_
      refine AO.pure (PureOp.lenL (e := 32) (s' := 5) (sz := 5) (l := p0) (av := api_Finding.av) (SLe.eq rfl) (by kernel_rfl)) rfl rfl ?_
      refine AO.pure (PureOp.lss (SLe.eq rfl) (SLe.eq rfl)) rfl rfl ?_
      refine AO.nil ?_
      refine thenQ_normal ?_
      refine AC.cond (SLe.eq rfl) (fun hb => ?_) (fun hb => ?_)
      · skip
        obtain ⟨x1, hx1, hd1, hlt1⟩ := drop_at (l := p0) (i := i1) hb
        rw [hd1] at H
        replace H := forLI_step H
        rw [← hrec1] at H
        unfold r_chk_l1b at H
        refine AC.len (av := api_Finding.av) (l := p0) (t := 0) (SLe.eq rfl) (fun hL1 => ?_)
        refine AC.skip ?_
        refine thenQ_normal ?_
        refine AC.seq ?_
        refine AC.block ?_
        refine AC.seq ?_
        refine AC.region ?_
        refine AO.pure (PureOp.moveD (SLe.eq rfl)) rfl rfl ?_
        refine AO.pure (PureOp.moveD (SLe.eq rfl)) rfl rfl ?_
        refine AO.pure (PureOp.idxE (e := 32) (sz := 5) (l := p0) (n := i1) (z := x1) (SLe.eq rfl) (SLe.eq rfl) rfl hx1 (by kernel_rfl)) rfl rfl ?_
        refine AO.pure (PureOp.loadN (sz := 5) (ks := (api_Finding.av x1)) (SLe.eq rfl) rfl rfl (by kernel_rfl)) rfl rfl ?_
        refine AO.alloc (z := .agg #[.int .i64 0, .int .i64 0, .int .i64 0, .int .i64 0, .int .i64 0]) (by kernel_rfl) rfl rfl rfl ?_
        refine AO.store (SLe.eq rfl) (SLe.eq rfl) rfl rfl rfl rfl rfl (by kernel_rfl) rfl rfl ?_
        refine AO.nil ?_
        refine thenQ_normal ?_
        refine AC.seq ?_
        refine AC.drawN 60 [] (by kernel_rfl) (by kernel_rfl) (by kernel_rfl) .nil (by kernel_rfl) ?_
        refine PSeqN.pure (PureOp.fldB (k := 0) (SLe.eq rfl) (by kernel_rfl)) rfl rfl ?_
        refine PSeqN.pure (PureOp.loadB1 (s := .d (iD x1.Number)) (SLe.eq rfl) rfl rfl (by kernel_rfl)) rfl rfl ?_
        refine PSeqN.pure (PureOp.lss (SLe.eq rfl) (SLe.eq rfl)) rfl rfl ?_
        refine PSeqN.pure (PureOp.moveD (SLe.eq rfl)) rfl rfl ?_
        refine PSeqN.guarded rfl rfl (fun hG => PureOp.fldB (k := 0) (SLe.eq rfl) (by kernel_rfl)) rfl rfl ?_
        refine PSeqN.guarded rfl rfl (fun hG => PureOp.loadB1 (s := .d (iD x1.Number)) (SLe.cnd rfl hG) rfl rfl (by kernel_rfl)) rfl rfl ?_
        refine PSeqN.guarded rfl rfl (fun hG => PureOp.gtr (SLe.cnd rfl hG) (SLe.eq rfl)) rfl rfl ?_
        refine PSeqN.pure (PureOp.pickOr (SLe.eq rfl) rfl rfl (fun h => beq_f h)) rfl rfl ?_
        refine PSeqN.pure (PureOp.moveD (SLe.eq rfl)) rfl rfl ?_
        refine PSeqN.guarded rfl rfl (fun hG => PureOp.fldB (k := 1) (SLe.eq rfl) (by kernel_rfl)) rfl rfl ?_
        refine PSeqN.guarded rfl rfl (fun hG => PureOp.loadB1 (s := .d (iD x1.Schemes)) (SLe.cnd rfl hG) rfl rfl (by kernel_rfl)) rfl rfl ?_
        refine PSeqN.guarded rfl rfl (fun hG => PureOp.lss (SLe.cnd rfl hG) (SLe.eq rfl)) rfl rfl ?_
        refine PSeqN.pure (PureOp.pickOr (SLe.eq rfl) rfl rfl (fun h => beq_f h)) rfl rfl ?_
        refine PSeqN.pure (PureOp.moveD (SLe.eq rfl)) rfl rfl ?_
        refine PSeqN.guarded rfl rfl (fun hG => PureOp.fldB (k := 1) (SLe.eq rfl) (by kernel_rfl)) rfl rfl ?_
        refine PSeqN.guarded rfl rfl (fun hG => PureOp.loadB1 (s := .d (iD x1.Schemes)) (SLe.cnd rfl hG) rfl rfl (by kernel_rfl)) rfl rfl ?_
        refine PSeqN.guarded rfl rfl (fun hG => PureOp.geq (SLe.cnd rfl hG) (SLe.eq rfl)) rfl rfl ?_
        refine PSeqN.pure (PureOp.pickOr (SLe.eq rfl) rfl rfl (fun h => beq_f h)) rfl rfl ?_
        refine PSeqN.pure (PureOp.moveD (SLe.eq rfl)) rfl rfl ?_
        refine PSeqN.guarded rfl rfl (fun hG => PureOp.fldB (k := 2) (SLe.eq rfl) (by kernel_rfl)) rfl rfl ?_
        refine PSeqN.guarded rfl rfl (fun hG => PureOp.loadB1 (s := .d (iD x1.From)) (SLe.cnd rfl hG) rfl rfl (by kernel_rfl)) rfl rfl ?_
        refine PSeqN.guarded rfl rfl (fun hG => PureOp.lss (SLe.cnd rfl hG) (SLe.eq rfl)) rfl rfl ?_
        refine PSeqN.pure (PureOp.pickOr (SLe.eq rfl) rfl rfl (fun h => beq_f h)) rfl rfl ?_
        refine PSeqN.pure (PureOp.moveD (SLe.eq rfl)) rfl rfl ?_
        refine PSeqN.guarded rfl rfl (fun hG => PureOp.fldB (k := 2) (SLe.eq rfl) (by kernel_rfl)) rfl rfl ?_
        refine PSeqN.guarded rfl rfl (fun hG => PureOp.loadB1 (s := .d (iD x1.From)) (SLe.cnd rfl hG) rfl rfl (by kernel_rfl)) rfl rfl ?_
        refine PSeqN.guarded rfl rfl (fun hG => PureOp.fldB (k := 3) (SLe.eq rfl) (by kernel_rfl)) rfl rfl ?_
        refine PSeqN.guarded rfl rfl (fun hG => PureOp.loadB1 (s := .d (iD x1.Until)) (SLe.cnd rfl hG) rfl rfl (by kernel_rfl)) rfl rfl ?_
        refine PSeqN.guarded rfl rfl (fun hG => PureOp.gtr (SLe.cnd rfl hG) (SLe.cnd rfl hG)) rfl rfl ?_
        obtain ⟨b1, hb1⟩ : ∃ b : Bool, b = (((((decide (x1.Number < 1) || decide (1125899906842624 < x1.Number)) || decide (x1.Schemes < 1)) || decide (65536 ≤ x1.Schemes)) || decide (x1.From < 0)) || decide (x1.Until < x1.From)) := ⟨_, rfl⟩
        replace H := H b1 hb1
        refine PSeqN.pure (r := .d (bD b1)) (by rw [hb1]; exact PureOp.pickOr (SLe.eq rfl) rfl rfl (fun h => beq_f h)) rfl rfl ?_
        refine PSeqN.pure (PureOp.moveD (SLe.eq rfl)) rfl rfl ?_
        refine PSeqN.guarded rfl rfl (fun hG => PureOp.fldB (k := 3) (SLe.eq rfl) (by kernel_rfl)) rfl rfl ?_
        refine PSeqN.guarded rfl rfl (fun hG => PureOp.loadB1 (s := .d (iD x1.Until)) (SLe.cnd rfl hG) rfl rfl (by kernel_rfl)) rfl rfl ?_
        refine PSeqN.guarded rfl rfl (fun hG => PureOp.gtr (SLe.cnd rfl hG) (SLe.eq rfl)) rfl rfl ?_
        refine PSeqN.pure (PureOp.pickOr (SLe.eq rfl) rfl rfl (fun h => beq_f h)) rfl rfl ?_
        refine PSeqN.pure (PureOp.moveD (SLe.eq rfl)) rfl rfl ?_
        refine PSeqN.guarded rfl rfl (fun hG => PureOp.fldB (k := 4) (SLe.eq rfl) (by kernel_rfl)) rfl rfl ?_
        refine PSeqN.guarded rfl rfl (fun hG => PureOp.loadB1 (s := .d (iD x1.Mille)) (SLe.cnd rfl hG) rfl rfl (by kernel_rfl)) rfl rfl ?_
        refine PSeqN.guarded rfl rfl (fun hG => PureOp.lss (SLe.cnd rfl hG) (SLe.eq rfl)) rfl rfl ?_
        refine PSeqN.pure (PureOp.pickOr (SLe.eq rfl) rfl rfl (fun h => beq_f h)) rfl rfl ?_
        refine PSeqN.pure (PureOp.moveD (SLe.eq rfl)) rfl rfl ?_
        refine PSeqN.guarded rfl rfl (fun hG => PureOp.fldB (k := 4) (SLe.eq rfl) (by kernel_rfl)) rfl rfl ?_
        refine PSeqN.guarded rfl rfl (fun hG => PureOp.loadB1 (s := .d (iD x1.Mille)) (SLe.cnd rfl hG) rfl rfl (by kernel_rfl)) rfl rfl ?_
        refine PSeqN.guarded rfl rfl (fun hG => PureOp.gtr (SLe.cnd rfl hG) (SLe.eq rfl)) rfl rfl ?_
        refine PSeqN.pure (PureOp.pickOr (SLe.eq rfl) rfl rfl (fun h => beq_f h)) rfl rfl ?_
        refine PSeqN.pure (PureOp.moveD (SLe.eq rfl)) rfl rfl ?_
        refine PSeqN.guarded rfl rfl (fun hG => PureOp.moveD (SLe.eq rfl)) rfl rfl ?_
        refine PSeqN.guarded rfl rfl (fun hG => PureOp.gtr (SLe.cnd rfl hG) (SLe.eq rfl)) rfl rfl ?_
        refine PSeqN.guarded rfl rfl (fun hG => PureOp.moveD (SLe.cnd rfl hG)) rfl rfl ?_
        refine PSeqN.guarded rfl rfl (fun hG => PureOp.fldB (k := 0) (SLe.eq rfl) (by kernel_rfl)) rfl rfl ?_
        refine PSeqN.guarded rfl rfl (fun hG => PureOp.loadB1 (s := .d (iD x1.Number)) (SLe.cnd rfl hG) rfl rfl (by kernel_rfl)) rfl rfl ?_
        refine PSeqN.guarded rfl rfl (fun hG => PureOp.moveD (SLe.eq rfl)) rfl rfl ?_
        refine PSeqN.guarded rfl rfl (fun hG => PureOp.moveD (SLe.eq rfl)) rfl rfl ?_
        refine PSeqN.guarded rfl rfl (fun hG => PureOp.subW (SLe.cnd rfl hG) (SLe.eq rfl)) rfl rfl ?_
        obtain ⟨g1, H⟩ := H
        refine PSeqN.guarded rfl rfl (fun hG => PureOp.idxI (e := 32) (sz := 5) (l := p0) (SLe.cnd rfl hG) (SLe.cnd rfl hG) (g1 hG) (by kernel_rfl)) rfl rfl ?_
        refine PSeqN.guarded rfl rfl (fun hG => PureOp.fld (k := 0) (SLe.cnd rfl hG) (by kernel_rfl)) rfl rfl ?_
        refine PSeqN.guarded rfl rfl (fun hG => PureOp.load1 (c := (iD ((ix p0 (w64 (((i1 : Nat) : Int) - 1))).Number))) (SLe.cnd rfl hG) rfl (by kernel_rfl)) rfl rfl ?_
        refine PSeqN.guarded rfl rfl (fun hG => PureOp.leq (SLe.cnd rfl hG) (SLe.cnd rfl hG)) rfl rfl ?_
        refine PSeqN.guarded rfl rfl (fun hG => PureOp.pickAnd (SLe.cnd rfl hG) rfl rfl (fun h => and_i hG (beq_t h))) rfl rfl ?_
        obtain ⟨b2, hb2⟩ : ∃ b : Bool, b = ((((b1 || decide (100 < x1.Until)) || decide (x1.Mille < 1)) || decide (1000 < x1.Mille)) || (decide (0 < ((i1 : Nat) : Int)) && decide (x1.Number ≤ (ix p0 (w64 (((i1 : Nat) : Int) - 1))).Number))) := ⟨_, rfl⟩
        replace H := H b2 hb2
        refine PSeqN.pure (r := .d (bD b2)) (by rw [hb2]; exact PureOp.pickOr (SLe.eq rfl) rfl rfl (fun h => beq_f h)) rfl rfl ?_
        refine PSeqN.nil ?_
        refine AO.nil ?_
        refine thenQ_normal ?_
        refine AC.cond (SLe.eq rfl) (fun hb => ?_) (fun hb => ?_)
        · skip
          replace H := ite_t H hb
          refine AC.seq ?_
          refine AC.region ?_
          refine AO.pure (PureOp.assignD (SLe.eq rfl)) rfl rfl ?_
          refine AO.nil ?_
          refine thenQ_normal ?_
          refine AC.ret ?_
          refine blockQ_ret ?_
          refine thenQ_ret ?_
          refine thenQ_ret ?_
          refine blockQ_ret ?_
          refine thenQ_ret ?_
          refine ⟨rfl, _, ?_, ResOf.one (GetR.any (r := (iD 66)) (SLe.eq rfl))⟩
          exact ⟨66, rfl, H⟩
        · skip
          replace H := ite_f H hb
          refine AC.skip ?_
          refine blockQ_normal ?_
          refine thenQ_normal ?_
          refine AC.region ?_
          refine AO.pure (PureOp.moveD (SLe.eq rfl)) rfl rfl ?_
          refine AO.pure (PureOp.add (SLe.eq rfl) (SLe.eq rfl) (by omega) (by omega)) rfl rfl ?_
          refine AO.pure (PureOp.assignD (SLe.eq rfl)) rfl rfl ?_
          refine AO.nil ?_
          refine thenQ_normal ?_
          refine ⟨(i1 + 1, ()), ⟨hlt1, by rw [hrec1] at H; exact H⟩, (by show p0.length - (i1 + 1) < p0.length - i1; omega), ?_⟩
          exact Le.mk [] ⟨⟨SLe.eq rfl, rfl⟩, ⟨SLe.eq rfl, rfl⟩, (by first | exact ⟨SLe.eq rfl, rfl⟩ | exact ⟨SLe.int rfl (by omega), rfl⟩), trivial⟩ trivial trivial rfl rfl rfl rfl rfl
      · skip
        obtain ⟨hd1, _⟩ := drop_end (l := p0) (i := i1) hi1 hb
        rw [hd1] at H
        replace H := forLI_end H
        unfold r_chk_l1e at H
        refine AC.exit ?_
        refine thenQ_exit ?_
        refine thenQ_exit ?_
        refine blockQ_hit ?_
        refine thenQ_normal ?_
        refine AC.seq ?_
        refine AC.seq ?_
        refine AC.region ?_
        refine AO.pure (PureOp.moveD (SLe.eq rfl)) rfl rfl ?_
        refine AO.pure (PureOp.lenL (e := 36) (s' := 3) (sz := 3) (l := p1) (av := api_Spent.av) (SLe.eq rfl) (by kernel_rfl)) rfl rfl ?_
        refine AO.pure (PureOp.gtr (SLe.eq rfl) (SLe.eq rfl)) rfl rfl ?_
        refine AO.nil ?_
        refine thenQ_normal ?_
        refine AC.cond (SLe.eq rfl) (fun hb => ?_) (fun hb => ?_)
        · skip
          replace H := ite_t H hb
          refine AC.seq ?_
          refine AC.region ?_
          refine AO.pure (PureOp.assignD (SLe.eq rfl)) rfl rfl ?_
          refine AO.nil ?_
          refine thenQ_normal ?_
          refine AC.ret ?_
          refine thenQ_ret ?_
          refine ⟨rfl, _, ?_, ResOf.one (GetR.any (r := (iD 1)) (SLe.eq rfl))⟩
          exact ⟨1, rfl, H⟩
        · skip
          replace H := ite_f H hb
          refine AC.skip ?_
          refine thenQ_normal ?_
          refine AC.seq ?_
          refine AC.seq ?_
          refine AC.region ?_
          refine AO.pure (PureOp.assignD (SLe.eq rfl)) rfl rfl ?_
          refine AO.nil ?_
          refine thenQ_normal ?_
          refine AC.block ?_
          refine AC.loop (ι := Nat × Unit) (fun q => ⟨[(1, .d (.sl 3 (p1.map api_Spent.av))), (7, .d (iD ((q.1 : Nat) : Int)))], [], [], 0, false, 154⟩) (fun q => q.1 ≤ p1.length ∧ forLI (r_chk_l2b p1 Post) (r_chk_l2e Post) q.1 (p1.drop q.1) q.2) (fun q => p1.length - q.1) (0, ()) ?_ ⟨Nat.zero_le _, H⟩ ?_
          · skip
            exact Le.mk [] ⟨⟨SLe.eq rfl, rfl⟩, (by first | exact ⟨SLe.eq rfl, rfl⟩ | exact ⟨SLe.int rfl (by omega), rfl⟩), trivial⟩ trivial trivial rfl rfl rfl rfl rfl
          · rintro ⟨i2, v2⟩ ⟨hi2, H⟩
            dsimp only at hi2 H
            change AC _ _ _ _ _ ⟨[(1, .d (.sl 3 (p1.map api_Spent.av))), (7, .d (iD ((i2 : Nat) : Int)))], [], [], 0, false, 154⟩ _
            obtain ⟨rec2, hrec2⟩ : ∃ r, r = forLI (r_chk_l2b p1 Post) (r_chk_l2e Post) (i2 + 1) (p1.drop (i2 + 1)) := ⟨_, rfl⟩
            refine AC.seq ?_
            refine AC.seq ?_
            refine AC.region ?_
            refine AO.pure (PureOp.moveD (SLe.eq rfl)) rfl rfl ?_
            refine AO.pure (PureOp.moveD (SLe.eq rfl)) rfl rfl ?_
            refine AO.pure (PureOp.lenL (e := 36) (s' := 3) (sz := 3) (l := p1) (av := api_Spent.av) (SLe.eq rfl) (by kernel_rfl)) rfl rfl ?_
            refine AO.pure (PureOp.lss (SLe.eq rfl) (SLe.eq rfl)) rfl rfl ?_
            refine AO.nil ?_
            refine thenQ_normal ?_
            refine AC.cond (SLe.eq rfl) (fun hb => ?_) (fun hb => ?_)
            · skip
              obtain ⟨x2, hx2, hd2, hlt2⟩ := drop_at (l := p1) (i := i2) hb
              rw [hd2] at H
              replace H := forLI_step H
              rw [← hrec2] at H
              unfold r_chk_l2b at H
              refine AC.len (av := api_Spent.av) (l := p1) (t := 1) (SLe.eq rfl) (fun hL2 => ?_)
              refine AC.skip ?_
              refine thenQ_normal ?_
              refine AC.seq ?_
              refine AC.block ?_
              refine AC.seq ?_
              refine AC.region ?_
              refine AO.pure (PureOp.moveD (SLe.eq rfl)) rfl rfl ?_
              refine AO.pure (PureOp.moveD (SLe.eq rfl)) rfl rfl ?_
              refine AO.pure (PureOp.idxE (e := 36) (sz := 3) (l := p1) (n := i2) (z := x2) (SLe.eq rfl) (SLe.eq rfl) rfl hx2 (by kernel_rfl)) rfl rfl ?_
              refine AO.pure (PureOp.loadN (sz := 3) (ks := (api_Spent.av x2)) (SLe.eq rfl) rfl rfl (by kernel_rfl)) rfl rfl ?_
              refine AO.alloc (z := .agg #[.int .i64 0, .int .i64 0, .int .i64 0]) (by kernel_rfl) rfl rfl rfl ?_
              refine AO.store (SLe.eq rfl) (SLe.eq rfl) rfl rfl rfl rfl rfl (by kernel_rfl) rfl rfl ?_
              refine AO.nil ?_
              refine thenQ_normal ?_
              refine AC.seq ?_
              refine AC.seq ?_
              refine AC.region ?_
              refine AO.pure (PureOp.fldB (k := 0) (SLe.eq rfl) (by kernel_rfl)) rfl rfl ?_
              refine AO.pure (PureOp.loadB1 (s := .d (iD x2.Year)) (SLe.eq rfl) rfl rfl (by kernel_rfl)) rfl rfl ?_
              refine AO.pure (PureOp.lss (SLe.eq rfl) (SLe.eq rfl)) rfl rfl ?_
              refine AO.pure (PureOp.moveD (SLe.eq rfl)) rfl rfl ?_
              refine AO.guarded rfl rfl (fun hG => PureOp.fldB (k := 0) (SLe.eq rfl) (by kernel_rfl)) rfl rfl ?_
              refine AO.guarded rfl rfl (fun hG => PureOp.loadB1 (s := .d (iD x2.Year)) (SLe.cnd rfl hG) rfl rfl (by kernel_rfl)) rfl rfl ?_
              refine AO.guarded rfl rfl (fun hG => PureOp.gtr (SLe.cnd rfl hG) (SLe.eq rfl)) rfl rfl ?_
              refine AO.pure (PureOp.pickOr (SLe.eq rfl) rfl rfl (fun h => beq_f h)) rfl rfl ?_
              refine AO.pure (PureOp.moveD (SLe.eq rfl)) rfl rfl ?_
              refine AO.guarded rfl rfl (fun hG => PureOp.fldB (k := 1) (SLe.eq rfl) (by kernel_rfl)) rfl rfl ?_
              refine AO.guarded rfl rfl (fun hG => PureOp.loadB1 (s := .d (iD x2.Scheme)) (SLe.cnd rfl hG) rfl rfl (by kernel_rfl)) rfl rfl ?_
              refine AO.guarded rfl rfl (fun hG => PureOp.lss (SLe.cnd rfl hG) (SLe.eq rfl)) rfl rfl ?_
              refine AO.pure (PureOp.pickOr (SLe.eq rfl) rfl rfl (fun h => beq_f h)) rfl rfl ?_
              refine AO.pure (PureOp.moveD (SLe.eq rfl)) rfl rfl ?_
              refine AO.guarded rfl rfl (fun hG => PureOp.fldB (k := 1) (SLe.eq rfl) (by kernel_rfl)) rfl rfl ?_
              refine AO.guarded rfl rfl (fun hG => PureOp.loadB1 (s := .d (iD x2.Scheme)) (SLe.cnd rfl hG) rfl rfl (by kernel_rfl)) rfl rfl ?_
              refine AO.guarded rfl rfl (fun hG => PureOp.gtr (SLe.cnd rfl hG) (SLe.eq rfl)) rfl rfl ?_
              refine AO.pure (PureOp.pickOr (SLe.eq rfl) rfl rfl (fun h => beq_f h)) rfl rfl ?_
              refine AO.pure (PureOp.moveD (SLe.eq rfl)) rfl rfl ?_
              refine AO.guarded rfl rfl (fun hG => PureOp.fldB (k := 2) (SLe.eq rfl) (by kernel_rfl)) rfl rfl ?_
              refine AO.guarded rfl rfl (fun hG => PureOp.loadB1 (s := .d (iD x2.Amount)) (SLe.cnd rfl hG) rfl rfl (by kernel_rfl)) rfl rfl ?_
              refine AO.guarded rfl rfl (fun hG => PureOp.callS (.cons (SLe.cnd rfl hG) .nil) (r32_Money_any x2.Amount) (by kernel_rfl)) rfl rfl ?_
              refine AO.guarded rfl rfl (fun hG => PureOp.not (SLe.cnd rfl hG)) rfl rfl ?_
              refine AO.pure (PureOp.pickOr (SLe.eq rfl) rfl rfl (fun h => beq_f h)) rfl rfl ?_
              refine AO.nil ?_
              refine thenQ_normal ?_
              refine AC.cond (SLe.eq rfl) (fun hb => ?_) (fun hb => ?_)
              · skip
                replace H := ite_t H hb
                refine AC.seq ?_
                refine AC.region ?_
                refine AO.pure (PureOp.assignD (SLe.eq rfl)) rfl rfl ?_
                refine AO.nil ?_
                refine thenQ_normal ?_
                refine AC.ret ?_
                refine thenQ_ret ?_
                refine blockQ_ret ?_
                refine thenQ_ret ?_
                refine thenQ_ret ?_
                refine blockQ_ret ?_
                refine thenQ_ret ?_
                refine ⟨rfl, _, ?_, ResOf.one (GetR.any (r := (iD 68)) (SLe.eq rfl))⟩
                exact ⟨68, rfl, H⟩
              · skip
                replace H := ite_f H hb
                refine AC.skip ?_
                refine thenQ_normal ?_
                refine AC.seq ?_
                refine AC.drawN 35 [] (by kernel_rfl) (by kernel_rfl) (by kernel_rfl) .nil (by kernel_rfl) ?_
                refine PSeqN.pure (PureOp.moveD (SLe.eq rfl)) rfl rfl ?_
                refine PSeqN.pure (PureOp.gtr (SLe.eq rfl) (SLe.eq rfl)) rfl rfl ?_
                refine PSeqN.pure (PureOp.moveD (SLe.eq rfl)) rfl rfl ?_
                refine PSeqN.guarded rfl rfl (fun hG => PureOp.fldB (k := 0) (SLe.eq rfl) (by kernel_rfl)) rfl rfl ?_
                refine PSeqN.guarded rfl rfl (fun hG => PureOp.loadB1 (s := .d (iD x2.Year)) (SLe.cnd rfl hG) rfl rfl (by kernel_rfl)) rfl rfl ?_
                refine PSeqN.guarded rfl rfl (fun hG => PureOp.moveD (SLe.eq rfl)) rfl rfl ?_
                refine PSeqN.guarded rfl rfl (fun hG => PureOp.moveD (SLe.eq rfl)) rfl rfl ?_
                refine PSeqN.guarded rfl rfl (fun hG => PureOp.subW (SLe.cnd rfl hG) (SLe.eq rfl)) rfl rfl ?_
                obtain ⟨g2, H⟩ := H
                refine PSeqN.guarded rfl rfl (fun hG => PureOp.idxI (e := 36) (sz := 3) (l := p1) (SLe.cnd rfl hG) (SLe.cnd rfl hG) (g2 hG) (by kernel_rfl)) rfl rfl ?_
                refine PSeqN.guarded rfl rfl (fun hG => PureOp.fld (k := 0) (SLe.cnd rfl hG) (by kernel_rfl)) rfl rfl ?_
                refine PSeqN.guarded rfl rfl (fun hG => PureOp.load1 (c := (iD ((ix p1 (w64 (((i2 : Nat) : Int) - 1))).Year))) (SLe.cnd rfl hG) rfl (by kernel_rfl)) rfl rfl ?_
                refine PSeqN.guarded rfl rfl (fun hG => PureOp.lss (SLe.cnd rfl hG) (SLe.cnd rfl hG)) rfl rfl ?_
                refine PSeqN.guarded rfl rfl (fun hG => PureOp.moveD (SLe.cnd rfl hG)) rfl rfl ?_
                refine PSeqN.guarded rfl rfl (fun hG => PureOp.fldB (k := 0) (SLe.eq rfl) (by kernel_rfl)) rfl rfl ?_
                refine PSeqN.guarded rfl rfl (fun hG => PureOp.loadB1 (s := .d (iD x2.Year)) (SLe.cnd rfl hG) rfl rfl (by kernel_rfl)) rfl rfl ?_
                refine PSeqN.guarded rfl rfl (fun hG => PureOp.moveD (SLe.eq rfl)) rfl rfl ?_
                refine PSeqN.guarded rfl rfl (fun hG => PureOp.moveD (SLe.eq rfl)) rfl rfl ?_
                refine PSeqN.guarded rfl rfl (fun hG => PureOp.subW (SLe.cnd rfl hG) (SLe.eq rfl)) rfl rfl ?_
                obtain ⟨g3, H⟩ := H
                refine PSeqN.guarded rfl rfl (fun hG => PureOp.idxI (e := 36) (sz := 3) (l := p1) (SLe.cnd rfl hG) (SLe.cnd rfl hG) (g3 hG) (by kernel_rfl)) rfl rfl ?_
                refine PSeqN.guarded rfl rfl (fun hG => PureOp.fld (k := 0) (SLe.cnd rfl hG) (by kernel_rfl)) rfl rfl ?_
                refine PSeqN.guarded rfl rfl (fun hG => PureOp.load1 (c := (iD ((ix p1 (w64 (((i2 : Nat) : Int) - 1))).Year))) (SLe.cnd rfl hG) rfl (by kernel_rfl)) rfl rfl ?_
                refine PSeqN.guarded rfl rfl (fun hG => PureOp.eql (SLe.cnd rfl hG) (SLe.cnd rfl hG)) rfl rfl ?_
                refine PSeqN.guarded rfl rfl (fun hG => PureOp.moveD (SLe.cnd rfl hG)) rfl rfl ?_
                refine PSeqN.guarded rfl rfl (fun hG => PureOp.fldB (k := 1) (SLe.eq rfl) (by kernel_rfl)) rfl rfl ?_
                refine PSeqN.guarded rfl rfl (fun hG => PureOp.loadB1 (s := .d (iD x2.Scheme)) (SLe.cnd rfl hG) rfl rfl (by kernel_rfl)) rfl rfl ?_
                refine PSeqN.guarded rfl rfl (fun hG => PureOp.moveD (SLe.eq rfl)) rfl rfl ?_
                refine PSeqN.guarded rfl rfl (fun hG => PureOp.moveD (SLe.eq rfl)) rfl rfl ?_
                refine PSeqN.guarded rfl rfl (fun hG => PureOp.subW (SLe.cnd rfl hG) (SLe.eq rfl)) rfl rfl ?_
                obtain ⟨g4, H⟩ := H
                refine PSeqN.guarded rfl rfl (fun hG => PureOp.idxI (e := 36) (sz := 3) (l := p1) (SLe.cnd rfl hG) (SLe.cnd rfl hG) (g4 hG) (by kernel_rfl)) rfl rfl ?_
                refine PSeqN.guarded rfl rfl (fun hG => PureOp.fld (k := 1) (SLe.cnd rfl hG) (by kernel_rfl)) rfl rfl ?_
                refine PSeqN.guarded rfl rfl (fun hG => PureOp.load1 (c := (iD ((ix p1 (w64 (((i2 : Nat) : Int) - 1))).Scheme))) (SLe.cnd rfl hG) rfl (by kernel_rfl)) rfl rfl ?_
                refine PSeqN.guarded rfl rfl (fun hG => PureOp.leq (SLe.cnd rfl hG) (SLe.cnd rfl hG)) rfl rfl ?_
                refine PSeqN.guarded rfl rfl (fun hG => PureOp.pickAnd (SLe.cnd rfl hG) rfl rfl (fun h => and_i hG (beq_t h))) rfl rfl ?_
                obtain ⟨b3, hb3⟩ : ∃ b : Bool, b = (decide (x2.Year < (ix p1 (w64 (((i2 : Nat) : Int) - 1))).Year) || (decide (x2.Year = (ix p1 (w64 (((i2 : Nat) : Int) - 1))).Year) && decide (x2.Scheme ≤ (ix p1 (w64 (((i2 : Nat) : Int) - 1))).Scheme))) := ⟨_, rfl⟩
                replace H := H b3 hb3
                refine PSeqN.guarded (r := .d (bD b3)) rfl rfl (fun hG => by rw [hb3]; exact PureOp.pickOr (SLe.cnd rfl hG) rfl rfl (fun h => and_i hG (beq_f h))) rfl rfl ?_
                refine PSeqN.pure (PureOp.pickAnd (SLe.eq rfl) rfl rfl (fun h => beq_t h)) rfl rfl ?_
                refine PSeqN.nil ?_
                refine AO.nil ?_
                refine thenQ_normal ?_
                refine AC.cond (SLe.eq rfl) (fun hb => ?_) (fun hb => ?_)
                · skip
                  replace H := ite_t H hb
                  refine AC.seq ?_
                  refine AC.region ?_
                  refine AO.pure (PureOp.assignD (SLe.eq rfl)) rfl rfl ?_
                  refine AO.nil ?_
                  refine thenQ_normal ?_
                  refine AC.ret ?_
                  refine blockQ_ret ?_
                  refine thenQ_ret ?_
                  refine thenQ_ret ?_
                  refine blockQ_ret ?_
                  refine thenQ_ret ?_
                  refine ⟨rfl, _, ?_, ResOf.one (GetR.any (r := (iD 68)) (SLe.eq rfl))⟩
                  exact ⟨68, rfl, H⟩
                · skip
                  replace H := ite_f H hb
                  refine AC.skip ?_
                  refine blockQ_normal ?_
                  refine thenQ_normal ?_
                  refine AC.region ?_
                  refine AO.pure (PureOp.moveD (SLe.eq rfl)) rfl rfl ?_
                  refine AO.pure (PureOp.add (SLe.eq rfl) (SLe.eq rfl) (by omega) (by omega)) rfl rfl ?_
                  refine AO.pure (PureOp.assignD (SLe.eq rfl)) rfl rfl ?_
                  refine AO.nil ?_
                  refine thenQ_normal ?_
                  refine ⟨(i2 + 1, ()), ⟨hlt2, by rw [hrec2] at H; exact H⟩, (by show p1.length - (i2 + 1) < p1.length - i2; omega), ?_⟩
                  exact Le.mk [] ⟨⟨SLe.eq rfl, rfl⟩, (by first | exact ⟨SLe.eq rfl, rfl⟩ | exact ⟨SLe.int rfl (by omega), rfl⟩), trivial⟩ trivial trivial rfl rfl rfl rfl rfl
            · skip
              obtain ⟨hd2, _⟩ := drop_end (l := p1) (i := i2) hi2 hb
              rw [hd2] at H
              replace H := forLI_end H
              unfold r_chk_l2e at H
              refine AC.exit ?_
              refine thenQ_exit ?_
              refine thenQ_exit ?_
              refine blockQ_hit ?_
              refine thenQ_normal ?_
              refine AC.seq ?_
              refine AC.region ?_
              refine AO.pure (PureOp.assignD (SLe.eq rfl)) rfl rfl ?_
              refine AO.nil ?_
              refine thenQ_normal ?_
              refine AC.ret ?_
              refine ⟨rfl, _, ?_, ResOf.one (GetR.any (r := (iD 0)) (SLe.eq rfl))⟩
              exact ⟨0, rfl, H⟩
/-! ### Check -/
def badF : Option api_Finding → List api_Finding → Bool
  | _, [] => false
  | p, x :: q => !c_right_E x || (match p with | some y => decide (x.Number ≤ y.Number) | none => false) || badF (some x) q
def badS : Option api_Spent → List api_Spent → Bool
  | _, [] => false
  | p, x :: q => !c_fact_E x || (match p with | some y => decide (aft x y ≤ 0) | none => false) || badS (some x) q
def chkC (l : List api_Finding) (s : List api_Spent) : Int := if l.length > 20 then 1 else if badF none l then 66 else if s.length > 64 then 1 else if badS none s then 68 else 0

end Clr
end Eng
end Go.Proofs.Ytmmekdkllccmdaa
