/-
  Chapter 27: the contracts at the program's own types; Lines of the reference.
-/
import Derived.Test.YtmmekdkllccmdaaTy
import Derived.Test.YtmmekdkllccmdaaEgO
import Derived.Test.YtmmekdkllccmdaaVisQ
import Derived.Test.YtmmekdkllccmdaaVisF
namespace Go.Proofs.Ytmmekdkllccmdaa
open Go.RowKit
set_option linter.unusedVariables false
namespace Eng
namespace Vis
def toRep (x : api_Report) : Rep := ⟨x.Number, x.Farm, x.Day, x.Kind, x.Line, x.Measured.Area, x.Measured.Border⟩
def ofRep (x : Rep) : api_Report := ⟨x.n, x.f, x.d, x.k, x.l, ⟨x.a, x.b⟩⟩
def ofSeen (x : Seen) : api_Seen := ⟨x.k, ⟨x.a, x.b⟩⟩
theorem rr_to (l : List api_Report) : rr (l.map toRep) = l.map api_Report.av := by
  unfold rr; rw [List.map_map]; rfl
theorem rr_of (l : List Rep) : (l.map ofRep).map api_Report.av = rr l := by
  unfold rr; rw [List.map_map]; rfl
theorem len_to {l : List api_Report} {n : Nat} (h : l.length ≤ n) : (l.map toRep).length ≤ n := by rw [List.length_map]; exact h
theorem bp_check (l : List api_Report) (h : l.length ≤ 4611686018427387903) : FC Try.prog 57 [.sl 7 (l.map api_Report.av)] (iD (chkE (l.map toRep))) := by
  have := (check_any (l.map toRep) (by have := len_to h; omega)).any
  rw [rr_to] at this
  exact this
theorem bp_refused (l : List api_Report) (f : Int) (h : l.length ≤ 4611686018427387903) : FC Try.prog 59 [.sl 7 (l.map api_Report.av), iD f] (bD ((l.map toRep).any (refP f))) := by
  have := (refused_any (l.map toRep) f (by have := len_to h; omega)).any
  rw [rr_to] at this
  exact this
theorem bp_line (l : List api_Report) (f : Int) (i : Int) (h : l.length ≤ 4611686018427387903) : FC Try.prog 61 [.sl 7 (l.map api_Report.av), iD f, iD i] (.agg (ofSeen (lineS (l.map toRep) f i)).av) := by
  have := (line_any (l.map toRep) f i (by have := len_to h; omega)).any
  rw [rr_to] at this
  exact this
theorem bp_lines (l : List api_Report) (f : Int) (h : l.length ≤ 4611686018427387903) : FC Try.prog 63 [.sl 7 (l.map api_Report.av), iD f] (.sl 1 ((linesS (l.map toRep) f).map avI)) := by
  have := (lines_any (l.map toRep) f (by have := len_to h; omega)).any
  rw [rr_to] at this
  exact this
theorem bp_last (l : List api_Report) (f : Int) (h : l.length ≤ 4611686018427387903) : FC Try.prog 65 [.sl 7 (l.map api_Report.av), iD f] (iD (lastS (l.map toRep) f)) := by
  have := (last_any (l.map toRep) f (by have := len_to h; omega)).any
  rw [rr_to] at this
  exact this
theorem br_check (l : List api_Report) (h : l.length ≤ 4611686018427387903) : FC Try.prog 58 [.sl 7 (l.map api_Report.av)] (iD (chkE (l.map toRep))) := by
  have := (rcheck_any (l.map toRep) (by have := len_to h; omega)).any
  rw [rr_to] at this
  exact this
theorem br_refused (l : List api_Report) (f : Int) (h : l.length ≤ 4611686018427387903) : FC Try.prog 60 [.sl 7 (l.map api_Report.av), iD f] (bD ((l.map toRep).any (refP f))) := by
  have := (rrefused_any (l.map toRep) f (by have := len_to h; omega)).any
  rw [rr_to] at this
  exact this
theorem br_line (l : List api_Report) (f : Int) (i : Int) (h : l.length ≤ 4611686018427387903) : FC Try.prog 62 [.sl 7 (l.map api_Report.av), iD f, iD i] (.agg (ofSeen (lineS (l.map toRep) f i)).av) := by
  have := (rline_any (l.map toRep) f i (by have := len_to h; omega)).any
  rw [rr_to, lineR_eq] at this
  exact this
theorem br_last (l : List api_Report) (f : Int) (h : l.length ≤ 4611686018427387903) : FC Try.prog 66 [.sl 7 (l.map api_Report.av), iD f] (iD (lastS (l.map toRep) f)) := by
  have := (rlast_any (l.map toRep) f (by have := len_to h; omega)).any
  rw [rr_to] at this
  exact this
theorem breports : ACalls Try.prog 56 true false [.tp, .d (iD 8)] (fun r => ∃ l : List Rep, r = .sl 7 ((l.map ofRep).map api_Report.av) ∧ RepOK 8 l) :=
  ((reports_c 8 (by omega)).any).mono fun r ⟨l, h1, h2⟩ => ⟨l, by rw [h1, rr_of], h2⟩

def r27_Lines_l1b (p1 : Int) (rec1 : (List Int) → Prop) (x1 : api_Report) (v1 : List Int) : Prop :=
  (((decide (x1.Farm = p1) && (!decide (x1.Kind = 4))) == true) = true → v1.length ≤ 4611686018427387903) ∧ (if ((decide (x1.Farm = p1) && (!decide (x1.Kind = 4))) && (!(decide (x1.Line ∈ v1)))) = true then (v1.length ≤ 1000000) ∧ rec1 (putS v1 x1.Line) else rec1 v1)
def r27_Lines_l1e (Post : List Int → Prop) (v1 : List Int) : Prop :=
  Post v1
def r27_Lines_W (p0 : List api_Report) (p1 : Int) (Post : List Int → Prop) : Prop :=
  (p0.length ≤ 4611686018427387903) ∧ (if (!decide ((chkE (p0.map toRep)) = 0)) = true then Post ([] : List Int) else forL (r27_Lines_l1b p1) (r27_Lines_l1e Post) p0 ([] : List Int))
set_option maxRecDepth 100000 in
set_option maxHeartbeats 4000000 in
theorem r27_Lines_w (p0 : List api_Report) (p1 : Int) (Post : List Int → Prop) (H : r27_Lines_W p0 p1 Post) : ACalls Try.prog 64 false false (([(.sl 7 (p0.map api_Report.av)), (iD p1)] : List D).map SV.d) (fun r => ∃ y0 : (List Int), r = (.sl 1 (y0.map avI)) ∧ Post y0) := by
  refine ACalls.of Try.func64 rfl rfl rfl rfl rfl fun w0 S0 T => ?_
  unfold r27_Lines_W at H
  refine AC.seq ?_
  refine AC.region ?_
  refine AO.pure (PureOp.assignD (SLe.eq rfl)) rfl rfl ?_
  refine AO.nil ?_
  refine thenQ_normal ?_
  refine AC.seq ?_
  refine AC.seq ?_
  refine AC.region ?_
  refine AO.pure (PureOp.moveD (SLe.eq rfl)) rfl rfl ?_
  obtain ⟨g1, H⟩ := H
  refine AO.pure (PureOp.callS (.cons (SLe.eq rfl) .nil) (br_check p0 g1) (by kernel_rfl)) rfl rfl ?_
  refine AO.pure (PureOp.neq (SLe.eq rfl) (SLe.eq rfl)) rfl rfl ?_
  refine AO.nil ?_
  refine thenQ_normal ?_
  refine AC.cond (SLe.eq rfl) (fun hb => ?_) (fun hb => ?_)
  · skip
    replace H := ite_t H hb
    refine AC.seq ?_
    refine AC.region ?_
    refine AO.pure (PureOp.assignD (SLe.eq rfl)) rfl rfl ?_
    refine AO.nil ?_
    refine thenQ_normal ?_
    refine AC.ret ?_
    refine thenQ_ret ?_
    refine ⟨rfl, _, ?_, ResOf.one (GetR.nil (sz := 1) (SLe.eq rfl))⟩
    exact ⟨([] : List Int), rfl, H⟩
  · skip
    replace H := ite_f H hb
    refine AC.skip ?_
    refine thenQ_normal ?_
    refine AC.seq ?_
    refine AC.region ?_
    refine AO.pure (PureOp.assignD (SLe.eq rfl)) rfl rfl ?_
    refine AO.nil ?_
    refine thenQ_normal ?_
    refine AC.seq ?_
    refine AC.seq ?_
    refine AC.region ?_
    refine AO.pure (PureOp.assignD (SLe.eq rfl)) rfl rfl ?_
    refine AO.nil ?_
    refine thenQ_normal ?_
    refine AC.block ?_
    refine AC.loop (ι := Nat × (List Int)) (fun q => ⟨[(0, .d (.sl 7 (p0.map api_Report.av))), (1, .d (iD p1)), (5, .d (.sl 1 (q.2.map avI))), (6, .d (iD ((q.1 : Nat) : Int)))], [], [], 0, false, 49⟩) (fun q => q.1 ≤ p0.length ∧ forL (r27_Lines_l1b p1) (r27_Lines_l1e Post) (p0.drop q.1) q.2) (fun q => p0.length - q.1) (0, ([] : List Int)) ?_ ⟨Nat.zero_le _, H⟩ ?_
    · skip
      exact Le.mk [] ⟨⟨SLe.eq rfl, rfl⟩, ⟨SLe.eq rfl, rfl⟩, ⟨SLe.nil rfl, rfl⟩, (by first | exact ⟨SLe.eq rfl, rfl⟩ | exact ⟨SLe.int rfl (by omega), rfl⟩), trivial⟩ trivial trivial rfl rfl rfl rfl rfl
    · rintro ⟨i1, v1⟩ ⟨hi1, H⟩
      dsimp only at hi1 H
      change AC _ _ _ _ _ ⟨[(0, .d (.sl 7 (p0.map api_Report.av))), (1, .d (iD p1)), (5, .d (.sl 1 (v1.map avI))), (6, .d (iD ((i1 : Nat) : Int)))], [], [], 0, false, 49⟩ _
      obtain ⟨rec1, hrec1⟩ : ∃ r, r = forL (r27_Lines_l1b p1) (r27_Lines_l1e Post) (p0.drop (i1 + 1)) := ⟨_, rfl⟩
      refine AC.seq ?_
      refine AC.seq ?_
      refine AC.region ?_
      refine AO.pure (PureOp.moveD (SLe.eq rfl)) rfl rfl ?_
      refine AO.pure (PureOp.moveD (SLe.eq rfl)) rfl rfl ?_
      refine AO.pure (PureOp.lenL (e := 78) (s' := 7) (sz := 7) (l := p0) (av := api_Report.av) (SLe.eq rfl) (by kernel_rfl)) rfl rfl ?_
      refine AO.pure (PureOp.lss (SLe.eq rfl) (SLe.eq rfl)) rfl rfl ?_
      refine AO.nil ?_
      refine thenQ_normal ?_
      refine AC.cond (SLe.eq rfl) (fun hb => ?_) (fun hb => ?_)
      · skip
        obtain ⟨x1, hx1, hd1, hlt1⟩ := drop_at (l := p0) (i := i1) hb
        rw [hd1] at H
        replace H := forL_step H
        rw [← hrec1] at H
        unfold r27_Lines_l1b at H
        refine AC.len (av := api_Report.av) (l := p0) (t := 0) (SLe.eq rfl) (fun hL1 => ?_)
        refine AC.skip ?_
        refine thenQ_normal ?_
        refine AC.seq ?_
        refine AC.block ?_
        refine AC.seq ?_
        refine AC.region ?_
        refine AO.pure (PureOp.moveD (SLe.eq rfl)) rfl rfl ?_
        refine AO.pure (PureOp.moveD (SLe.eq rfl)) rfl rfl ?_
        refine AO.pure (PureOp.idxE (e := 78) (sz := 7) (l := p0) (n := i1) (z := x1) (SLe.eq rfl) (SLe.eq rfl) rfl hx1 (by kernel_rfl)) rfl rfl ?_
        refine AO.pure (PureOp.fld (k := 1) (SLe.eq rfl) (by kernel_rfl)) rfl rfl ?_
        refine AO.pure (PureOp.load1 (c := (iD x1.Farm)) (SLe.eq rfl) rfl (by kernel_rfl)) rfl rfl ?_
        refine AO.pure (PureOp.moveD (SLe.eq rfl)) rfl rfl ?_
        refine AO.pure (PureOp.eql (SLe.eq rfl) (SLe.eq rfl)) rfl rfl ?_
        refine AO.pure (PureOp.moveD (SLe.eq rfl)) rfl rfl ?_
        refine AO.guarded rfl rfl (fun hG => PureOp.moveD (SLe.eq rfl)) rfl rfl ?_
        refine AO.guarded rfl rfl (fun hG => PureOp.moveD (SLe.eq rfl)) rfl rfl ?_
        refine AO.guarded rfl rfl (fun hG => PureOp.idxE (e := 78) (sz := 7) (l := p0) (n := i1) (z := x1) (SLe.cnd rfl hG) (SLe.cnd rfl hG) rfl hx1 (by kernel_rfl)) rfl rfl ?_
        refine AO.guarded rfl rfl (fun hG => PureOp.fld (k := 3) (SLe.cnd rfl hG) (by kernel_rfl)) rfl rfl ?_
        refine AO.guarded rfl rfl (fun hG => PureOp.load1 (c := (iD x1.Kind)) (SLe.cnd rfl hG) rfl (by kernel_rfl)) rfl rfl ?_
        refine AO.guarded rfl rfl (fun hG => PureOp.neq (SLe.cnd rfl hG) (SLe.eq rfl)) rfl rfl ?_
        refine AO.pure (PureOp.pickAnd (SLe.eq rfl) rfl rfl (fun h => beq_t h)) rfl rfl ?_
        refine AO.pure (PureOp.moveD (SLe.eq rfl)) rfl rfl ?_
        refine AO.guarded rfl rfl (fun hG => PureOp.moveD (SLe.eq rfl)) rfl rfl ?_
        refine AO.guarded rfl rfl (fun hG => PureOp.moveD (SLe.eq rfl)) rfl rfl ?_
        refine AO.guarded rfl rfl (fun hG => PureOp.moveD (SLe.eq rfl)) rfl rfl ?_
        refine AO.guarded rfl rfl (fun hG => PureOp.idxE (e := 78) (sz := 7) (l := p0) (n := i1) (z := x1) (SLe.cnd rfl hG) (SLe.cnd rfl hG) rfl hx1 (by kernel_rfl)) rfl rfl ?_
        refine AO.guarded rfl rfl (fun hG => PureOp.fld (k := 4) (SLe.cnd rfl hG) (by kernel_rfl)) rfl rfl ?_
        refine AO.guarded rfl rfl (fun hG => PureOp.load1 (c := (iD x1.Line)) (SLe.cnd rfl hG) rfl (by kernel_rfl)) rfl rfl ?_
        obtain ⟨g2, H⟩ := H
        refine AO.guarded rfl rfl (fun hG => PureOp.callS (.cons (SLe.cnd rfl hG) (.cons (SLe.cnd rfl hG) .nil)) ((has_any v1 x1.Line (g2 hG)).any) (by kernel_rfl)) rfl rfl ?_
        refine AO.guarded rfl rfl (fun hG => PureOp.not (SLe.cnd rfl hG)) rfl rfl ?_
        refine AO.pure (PureOp.pickAnd (SLe.eq rfl) rfl rfl (fun h => beq_t h)) rfl rfl ?_
        refine AO.nil ?_
        refine thenQ_normal ?_
        refine AC.cond (SLe.eq rfl) (fun hb => ?_) (fun hb => ?_)
        · skip
          replace H := ite_t H hb
          refine AC.region ?_
          refine AO.pure (PureOp.moveD (SLe.eq rfl)) rfl rfl ?_
          refine AO.pure (PureOp.moveD (SLe.eq rfl)) rfl rfl ?_
          refine AO.pure (PureOp.moveD (SLe.eq rfl)) rfl rfl ?_
          refine AO.pure (PureOp.idxE (e := 78) (sz := 7) (l := p0) (n := i1) (z := x1) (SLe.eq rfl) (SLe.eq rfl) rfl hx1 (by kernel_rfl)) rfl rfl ?_
          refine AO.pure (PureOp.fld (k := 4) (SLe.eq rfl) (by kernel_rfl)) rfl rfl ?_
          refine AO.pure (PureOp.load1 (c := (iD x1.Line)) (SLe.eq rfl) rfl (by kernel_rfl)) rfl rfl ?_
          obtain ⟨g3, H⟩ := H
          refine AO.pure (PureOp.callS (.cons (SLe.eq rfl) (.cons (SLe.eq rfl) .nil)) ((put_any v1 x1.Line g3).any) (by kernel_rfl)) rfl rfl ?_
          refine AO.pure (PureOp.assignD (SLe.eq rfl)) rfl rfl ?_
          refine AO.nil ?_
          refine blockQ_normal ?_
          refine thenQ_normal ?_
          refine AC.region ?_
          refine AO.pure (PureOp.moveD (SLe.eq rfl)) rfl rfl ?_
          refine AO.pure (PureOp.add (SLe.eq rfl) (SLe.eq rfl) (by omega) (by omega)) rfl rfl ?_
          refine AO.pure (PureOp.assignD (SLe.eq rfl)) rfl rfl ?_
          refine AO.nil ?_
          refine thenQ_normal ?_
          refine ⟨(i1 + 1, (putS v1 x1.Line)), ⟨hlt1, by rw [hrec1] at H; exact H⟩, (by show p0.length - (i1 + 1) < p0.length - i1; omega), ?_⟩
          exact Le.mk [] ⟨⟨SLe.eq rfl, rfl⟩, ⟨SLe.eq rfl, rfl⟩, ⟨SLe.eq rfl, rfl⟩, (by first | exact ⟨SLe.eq rfl, rfl⟩ | exact ⟨SLe.int rfl (by omega), rfl⟩), trivial⟩ trivial trivial rfl rfl rfl rfl rfl
        · skip
          replace H := ite_f H hb
          refine AC.skip ?_
          refine blockQ_normal ?_
          refine thenQ_normal ?_
          refine AC.region ?_
          refine AO.pure (PureOp.moveD (SLe.eq rfl)) rfl rfl ?_
          refine AO.pure (PureOp.add (SLe.eq rfl) (SLe.eq rfl) (by omega) (by omega)) rfl rfl ?_
          refine AO.pure (PureOp.assignD (SLe.eq rfl)) rfl rfl ?_
          refine AO.nil ?_
          refine thenQ_normal ?_
          refine ⟨(i1 + 1, v1), ⟨hlt1, by rw [hrec1] at H; exact H⟩, (by show p0.length - (i1 + 1) < p0.length - i1; omega), ?_⟩
          exact Le.mk [] ⟨⟨SLe.eq rfl, rfl⟩, ⟨SLe.eq rfl, rfl⟩, ⟨SLe.eq rfl, rfl⟩, (by first | exact ⟨SLe.eq rfl, rfl⟩ | exact ⟨SLe.int rfl (by omega), rfl⟩), trivial⟩ trivial trivial rfl rfl rfl rfl rfl
      · skip
        obtain ⟨hd1, _⟩ := drop_end (l := p0) (i := i1) hi1 hb
        rw [hd1] at H
        replace H := forL_end H
        unfold r27_Lines_l1e at H
        refine AC.exit ?_
        refine thenQ_exit ?_
        refine thenQ_exit ?_
        refine blockQ_hit ?_
        refine thenQ_normal ?_
        refine AC.seq ?_
        refine AC.region ?_
        refine AO.pure (PureOp.moveD (SLe.eq rfl)) rfl rfl ?_
        refine AO.pure (PureOp.assignD (SLe.eq rfl)) rfl rfl ?_
        refine AO.nil ?_
        refine thenQ_normal ?_
        refine AC.ret ?_
        refine ⟨rfl, _, ?_, ResOf.one (GetR.any (r := (.sl 1 (v1.map avI))) (SLe.eq rfl))⟩
        exact ⟨v1, rfl, H⟩
end Vis
end Eng
end Go.Proofs.Ytmmekdkllccmdaa
