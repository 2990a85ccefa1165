/-
  Walks of package landaidsecond: reports; and of landaidref24.
-/
import Derived.Test.YtmmekdkllccmdaaVisD
namespace Go.Proofs.Ytmmekdkllccmdaa
open Go.RowKit Go.Sort
set_option linter.unusedVariables false
namespace Eng
namespace Vis
set_option maxRecDepth 100000 in
set_option maxHeartbeats 4000000 in
theorem ints_any (xs ys : List Int) (hx : xs.length ≤ 4611686018427387903) (hy : ys.length ≤ 4611686018427387903) : FCalls Try.prog 24 [.sl 1 (ir xs), .sl 1 (ir ys)] (bD (decide (xs = ys))) := by
  refine ACalls.of Try.func24 rfl rfl rfl rfl rfl fun w0 S0 T => ?_
  refine AC.seq ?_
  refine AC.region ?_
  first | refine AO.pure (PureOp.assignD (SLe.eq rfl)) rfl rfl ?_ | refine AO.pure (PureOp.assignB (SLe.eq rfl)) rfl rfl ?_ | refine AO.pure (PureOp.assignT (SLe.eq rfl)) rfl rfl ?_ | refine AO.pure (PureOp.assignO (SLe.eq rfl)) rfl rfl ?_ | refine AO.pure (PureOp.assignP (SLe.eq rfl)) rfl rfl ?_ | refine AO.pure (PureOp.assignA (SLe.eq rfl)) rfl rfl ?_
  refine AO.nil ?_
  refine thenQ_normal ?_
  refine AC.seq ?_
  refine AC.seq ?_
  refine AC.region ?_
  first | refine AO.pure (PureOp.moveD (SLe.eq rfl)) rfl rfl ?_ | refine AO.pure (PureOp.moveB (SLe.eq rfl)) rfl rfl ?_ | refine AO.pure (PureOp.moveT (SLe.eq rfl)) rfl rfl ?_ | refine AO.pure (PureOp.moveO (SLe.eq rfl)) rfl rfl ?_ | refine AO.pure (PureOp.moveP (SLe.eq rfl)) rfl rfl ?_ | refine AO.pure (PureOp.moveA (SLe.eq rfl)) rfl rfl ?_
  first | refine AO.pure (PureOp.len (e := 3) (s' := 1) (SLe.eq rfl) (by kernel_rfl)) rfl rfl ?_ | refine AO.pure (PureOp.lenR (e := 3) (s' := 1) (SLe.eq rfl) rfl rfl (by kernel_rfl)) rfl rfl ?_ | refine AO.pure (PureOp.lenNil (e := 3) (s' := 1) (SLe.eq rfl) (by kernel_rfl)) rfl rfl ?_
  first | refine AO.pure (PureOp.moveD (SLe.eq rfl)) rfl rfl ?_ | refine AO.pure (PureOp.moveB (SLe.eq rfl)) rfl rfl ?_ | refine AO.pure (PureOp.moveT (SLe.eq rfl)) rfl rfl ?_ | refine AO.pure (PureOp.moveO (SLe.eq rfl)) rfl rfl ?_ | refine AO.pure (PureOp.moveP (SLe.eq rfl)) rfl rfl ?_ | refine AO.pure (PureOp.moveA (SLe.eq rfl)) rfl rfl ?_
  first | refine AO.pure (PureOp.len (e := 3) (s' := 1) (SLe.eq rfl) (by kernel_rfl)) rfl rfl ?_ | refine AO.pure (PureOp.lenR (e := 3) (s' := 1) (SLe.eq rfl) rfl rfl (by kernel_rfl)) rfl rfl ?_ | refine AO.pure (PureOp.lenNil (e := 3) (s' := 1) (SLe.eq rfl) (by kernel_rfl)) rfl rfl ?_
  refine AO.pure (PureOp.neq (SLe.eq rfl) (SLe.eq rfl)) rfl rfl ?_
  refine AO.nil ?_
  refine thenQ_normal ?_
  refine AC.cond (SLe.eq rfl) (fun hb => ?_) (fun hb => ?_)
  · skip
    have hres : ¬ xs = ys := by rintro rfl; simp at hb
    refine AC.seq ?_
    refine AC.region ?_
    first | refine AO.pure (PureOp.assignD (SLe.eq rfl)) rfl rfl ?_ | refine AO.pure (PureOp.assignB (SLe.eq rfl)) rfl rfl ?_ | refine AO.pure (PureOp.assignT (SLe.eq rfl)) rfl rfl ?_ | refine AO.pure (PureOp.assignO (SLe.eq rfl)) rfl rfl ?_ | refine AO.pure (PureOp.assignP (SLe.eq rfl)) rfl rfl ?_ | refine AO.pure (PureOp.assignA (SLe.eq rfl)) rfl rfl ?_
    refine AO.nil ?_
    refine thenQ_normal ?_
    refine AC.ret ?_
    refine thenQ_ret ?_
    refine ⟨rfl, _, ?_, ResOf.one (by first | exact GetR.flat (SLe.eq rfl) rfl | exact GetR.nil (SLe.eq rfl) | exact GetR.ownR (SLe.eq rfl) rfl rfl (by simp [flatRows, D.flat]) | exact GetR.any (SLe.eq rfl) | exact GetR.ownA (SLe.eq rfl) rfl rfl)⟩
    refine congrArg bD ?_
    simp [hres]
  · skip
    have hl : xs.length = ys.length := by rw [ir_length, ir_length] at hb; simp at hb; omega
    refine AC.skip ?_
    refine thenQ_normal ?_
    refine AC.seq ?_
    refine AC.seq ?_
    refine AC.region ?_
    first | refine AO.pure (PureOp.assignD (SLe.eq rfl)) rfl rfl ?_ | refine AO.pure (PureOp.assignB (SLe.eq rfl)) rfl rfl ?_ | refine AO.pure (PureOp.assignT (SLe.eq rfl)) rfl rfl ?_ | refine AO.pure (PureOp.assignO (SLe.eq rfl)) rfl rfl ?_ | refine AO.pure (PureOp.assignP (SLe.eq rfl)) rfl rfl ?_ | refine AO.pure (PureOp.assignA (SLe.eq rfl)) rfl rfl ?_
    refine AO.nil ?_
    refine thenQ_normal ?_
    refine AC.block ?_
    refine AC.loop (ι := Nat) (fun i => ⟨[(0, .d (.sl 1 (ir xs))), (1, .d (.sl 1 (ir ys))), (5, .d (iD (i : Int)))], [], [], 0, false, 26⟩) (fun i => i ≤ xs.length ∧ xs.take i = ys.take i) (fun i => xs.length - i) 0 ?_ ⟨Nat.zero_le _, rfl⟩ ?_
    · refine Le.mk [] ⟨(by first | exact ⟨SLe.eq rfl, rfl⟩ | exact rfl | exact ⟨SLe.nil rfl, rfl⟩ | exact ⟨SLe.int rfl (by omega), rfl⟩ | exact ⟨SLe.bool rfl (by simp_all), rfl⟩ | exact ⟨SLe.sl rfl (by simp_all), rfl⟩), (by first | exact ⟨SLe.eq rfl, rfl⟩ | exact rfl | exact ⟨SLe.nil rfl, rfl⟩ | exact ⟨SLe.int rfl (by omega), rfl⟩ | exact ⟨SLe.bool rfl (by simp_all), rfl⟩ | exact ⟨SLe.sl rfl (by simp_all), rfl⟩), (by first | exact ⟨SLe.eq rfl, rfl⟩ | exact rfl | exact ⟨SLe.nil rfl, rfl⟩ | exact ⟨SLe.int rfl (by omega), rfl⟩ | exact ⟨SLe.bool rfl (by simp_all), rfl⟩ | exact ⟨SLe.sl rfl (by simp_all), rfl⟩), trivial⟩ trivial trivial rfl rfl rfl rfl rfl
    · rintro i ⟨hi, hall⟩
      refine AC.seq ?_
      refine AC.seq ?_
      refine AC.region ?_
      first | refine AO.pure (PureOp.moveD (SLe.eq rfl)) rfl rfl ?_ | refine AO.pure (PureOp.moveB (SLe.eq rfl)) rfl rfl ?_ | refine AO.pure (PureOp.moveT (SLe.eq rfl)) rfl rfl ?_ | refine AO.pure (PureOp.moveO (SLe.eq rfl)) rfl rfl ?_ | refine AO.pure (PureOp.moveP (SLe.eq rfl)) rfl rfl ?_ | refine AO.pure (PureOp.moveA (SLe.eq rfl)) rfl rfl ?_
      first | refine AO.pure (PureOp.moveD (SLe.eq rfl)) rfl rfl ?_ | refine AO.pure (PureOp.moveB (SLe.eq rfl)) rfl rfl ?_ | refine AO.pure (PureOp.moveT (SLe.eq rfl)) rfl rfl ?_ | refine AO.pure (PureOp.moveO (SLe.eq rfl)) rfl rfl ?_ | refine AO.pure (PureOp.moveP (SLe.eq rfl)) rfl rfl ?_ | refine AO.pure (PureOp.moveA (SLe.eq rfl)) rfl rfl ?_
      first | refine AO.pure (PureOp.len (e := 3) (s' := 1) (SLe.eq rfl) (by kernel_rfl)) rfl rfl ?_ | refine AO.pure (PureOp.lenR (e := 3) (s' := 1) (SLe.eq rfl) rfl rfl (by kernel_rfl)) rfl rfl ?_ | refine AO.pure (PureOp.lenNil (e := 3) (s' := 1) (SLe.eq rfl) (by kernel_rfl)) rfl rfl ?_
      refine AO.pure (PureOp.lss (SLe.eq rfl) (SLe.eq rfl)) rfl rfl ?_
      refine AO.nil ?_
      refine thenQ_normal ?_
      refine AC.cond (SLe.eq rfl) (fun hb => ?_) (fun hb => ?_)
      · skip
        have hlt : i < xs.length := by rw [ir_length] at hb; simpa using hb
        have hly : i < ys.length := by omega
        have hr1 : (ir xs)[i]? = some [iD xs[i]] := by simp [ir, hlt]
        have hr2 : (ir ys)[i]? = some [iD ys[i]] := by simp [ir, hly]
        refine AC.skip ?_
        refine thenQ_normal ?_
        refine AC.seq ?_
        refine AC.block ?_
        refine AC.seq ?_
        -- DRAWN region 6
        refine AC.drawN 9 [] (by kernel_rfl) (by kernel_rfl) (by kernel_rfl) .nil (by kernel_rfl) ?_
        first | refine PSeqN.pure (PureOp.moveD (SLe.eq rfl)) rfl rfl ?_ | refine PSeqN.pure (PureOp.moveB (SLe.eq rfl)) rfl rfl ?_ | refine PSeqN.pure (PureOp.moveT (SLe.eq rfl)) rfl rfl ?_ | refine PSeqN.pure (PureOp.moveO (SLe.eq rfl)) rfl rfl ?_ | refine PSeqN.pure (PureOp.moveP (SLe.eq rfl)) rfl rfl ?_ | refine PSeqN.pure (PureOp.moveA (SLe.eq rfl)) rfl rfl ?_
        first | refine PSeqN.pure (PureOp.moveD (SLe.eq rfl)) rfl rfl ?_ | refine PSeqN.pure (PureOp.moveB (SLe.eq rfl)) rfl rfl ?_ | refine PSeqN.pure (PureOp.moveT (SLe.eq rfl)) rfl rfl ?_ | refine PSeqN.pure (PureOp.moveO (SLe.eq rfl)) rfl rfl ?_ | refine PSeqN.pure (PureOp.moveP (SLe.eq rfl)) rfl rfl ?_ | refine PSeqN.pure (PureOp.moveA (SLe.eq rfl)) rfl rfl ?_
        first | refine PSeqN.pure (PureOp.idx (e := 3) (sz := 1) (SLe.eq rfl) (SLe.eq rfl) rfl hr1 (by kernel_rfl)) rfl rfl ?_ | refine PSeqN.pure (PureOp.idxR (e := 3) (sz := 1) (SLe.eq rfl) rfl (SLe.eq rfl) rfl (by simp; omega) rfl (by kernel_rfl)) rfl rfl ?_
        first | refine PSeqN.pure (PureOp.loadB1 (SLe.eq rfl) rfl rfl (by kernel_rfl)) rfl rfl ?_ | refine PSeqN.pure (PureOp.load1 (SLe.eq rfl) rfl (by kernel_rfl)) rfl rfl ?_ | refine PSeqN.pure (PureOp.loadO1 (i := _) (j := _) (SLe.eq rfl) rfl rfl (by assumption) rfl (by kernel_rfl)) rfl rfl ?_
        first | refine PSeqN.pure (PureOp.moveD (SLe.eq rfl)) rfl rfl ?_ | refine PSeqN.pure (PureOp.moveB (SLe.eq rfl)) rfl rfl ?_ | refine PSeqN.pure (PureOp.moveT (SLe.eq rfl)) rfl rfl ?_ | refine PSeqN.pure (PureOp.moveO (SLe.eq rfl)) rfl rfl ?_ | refine PSeqN.pure (PureOp.moveP (SLe.eq rfl)) rfl rfl ?_ | refine PSeqN.pure (PureOp.moveA (SLe.eq rfl)) rfl rfl ?_
        first | refine PSeqN.pure (PureOp.moveD (SLe.eq rfl)) rfl rfl ?_ | refine PSeqN.pure (PureOp.moveB (SLe.eq rfl)) rfl rfl ?_ | refine PSeqN.pure (PureOp.moveT (SLe.eq rfl)) rfl rfl ?_ | refine PSeqN.pure (PureOp.moveO (SLe.eq rfl)) rfl rfl ?_ | refine PSeqN.pure (PureOp.moveP (SLe.eq rfl)) rfl rfl ?_ | refine PSeqN.pure (PureOp.moveA (SLe.eq rfl)) rfl rfl ?_
        first | refine PSeqN.pure (PureOp.idx (e := 3) (sz := 1) (SLe.eq rfl) (SLe.eq rfl) rfl hr2 (by kernel_rfl)) rfl rfl ?_ | refine PSeqN.pure (PureOp.idxR (e := 3) (sz := 1) (SLe.eq rfl) rfl (SLe.eq rfl) rfl (by simp; omega) rfl (by kernel_rfl)) rfl rfl ?_
        first | refine PSeqN.pure (PureOp.loadB1 (SLe.eq rfl) rfl rfl (by kernel_rfl)) rfl rfl ?_ | refine PSeqN.pure (PureOp.load1 (SLe.eq rfl) rfl (by kernel_rfl)) rfl rfl ?_ | refine PSeqN.pure (PureOp.loadO1 (i := _) (j := _) (SLe.eq rfl) rfl rfl (by assumption) rfl (by kernel_rfl)) rfl rfl ?_
        refine PSeqN.pure (PureOp.neq (SLe.eq rfl) (SLe.eq rfl)) rfl rfl ?_
        refine PSeqN.nil ?_
        refine AO.nil ?_
        refine thenQ_normal ?_
        refine AC.cond (SLe.eq rfl) (fun hb => ?_) (fun hb => ?_)
        · skip
          have hne : ¬ xs[i] = ys[i] := by simpa using hb
          have hres : ¬ xs = ys := by rintro rfl; exact hne rfl
          refine AC.seq ?_
          refine AC.region ?_
          first | refine AO.pure (PureOp.assignD (SLe.eq rfl)) rfl rfl ?_ | refine AO.pure (PureOp.assignB (SLe.eq rfl)) rfl rfl ?_ | refine AO.pure (PureOp.assignT (SLe.eq rfl)) rfl rfl ?_ | refine AO.pure (PureOp.assignO (SLe.eq rfl)) rfl rfl ?_ | refine AO.pure (PureOp.assignP (SLe.eq rfl)) rfl rfl ?_ | refine AO.pure (PureOp.assignA (SLe.eq rfl)) rfl rfl ?_
          refine AO.nil ?_
          refine thenQ_normal ?_
          refine AC.ret ?_
          refine blockQ_ret ?_
          refine thenQ_ret ?_
          refine thenQ_ret ?_
          refine blockQ_ret ?_
          refine thenQ_ret ?_
          refine ⟨rfl, _, ?_, ResOf.one (by first | exact GetR.flat (SLe.eq rfl) rfl | exact GetR.nil (SLe.eq rfl) | exact GetR.ownR (SLe.eq rfl) rfl rfl (by simp [flatRows, D.flat]) | exact GetR.any (SLe.eq rfl) | exact GetR.ownA (SLe.eq rfl) rfl rfl)⟩
          refine congrArg bD ?_
          simp [hres]
        · skip
          have heq : xs[i] = ys[i] := by simpa using hb
          have hnext : xs.take (i + 1) = ys.take (i + 1) := by rw [List.take_succ_eq_append_getElem hlt, List.take_succ_eq_append_getElem hly, hall, heq]
          refine AC.skip ?_
          refine blockQ_normal ?_
          refine thenQ_normal ?_
          refine AC.region ?_
          first | refine AO.pure (PureOp.moveD (SLe.eq rfl)) rfl rfl ?_ | refine AO.pure (PureOp.moveB (SLe.eq rfl)) rfl rfl ?_ | refine AO.pure (PureOp.moveT (SLe.eq rfl)) rfl rfl ?_ | refine AO.pure (PureOp.moveO (SLe.eq rfl)) rfl rfl ?_ | refine AO.pure (PureOp.moveP (SLe.eq rfl)) rfl rfl ?_ | refine AO.pure (PureOp.moveA (SLe.eq rfl)) rfl rfl ?_
          refine AO.pure (PureOp.add (SLe.eq rfl) (SLe.eq rfl) (by omega) (by omega)) rfl rfl ?_
          first | refine AO.pure (PureOp.assignD (SLe.eq rfl)) rfl rfl ?_ | refine AO.pure (PureOp.assignB (SLe.eq rfl)) rfl rfl ?_ | refine AO.pure (PureOp.assignT (SLe.eq rfl)) rfl rfl ?_ | refine AO.pure (PureOp.assignO (SLe.eq rfl)) rfl rfl ?_ | refine AO.pure (PureOp.assignP (SLe.eq rfl)) rfl rfl ?_ | refine AO.pure (PureOp.assignA (SLe.eq rfl)) rfl rfl ?_
          refine AO.nil ?_
          refine thenQ_normal ?_
          refine ⟨i + 1, ⟨hlt, hnext⟩, (by omega), ?_⟩
          refine Le.mk [] ⟨(by first | exact ⟨SLe.eq rfl, rfl⟩ | exact rfl | exact ⟨SLe.nil rfl, rfl⟩ | exact ⟨SLe.int rfl (by omega), rfl⟩ | exact ⟨SLe.bool rfl (by simp_all), rfl⟩ | exact ⟨SLe.sl rfl (by simp_all), rfl⟩), (by first | exact ⟨SLe.eq rfl, rfl⟩ | exact rfl | exact ⟨SLe.nil rfl, rfl⟩ | exact ⟨SLe.int rfl (by omega), rfl⟩ | exact ⟨SLe.bool rfl (by simp_all), rfl⟩ | exact ⟨SLe.sl rfl (by simp_all), rfl⟩), (by first | exact ⟨SLe.eq rfl, rfl⟩ | exact rfl | exact ⟨SLe.nil rfl, rfl⟩ | exact ⟨SLe.int rfl (by omega), rfl⟩ | exact ⟨SLe.bool rfl (by simp_all), rfl⟩ | exact ⟨SLe.sl rfl (by simp_all), rfl⟩), trivial⟩ trivial trivial rfl rfl rfl rfl rfl
      · skip
        have hres : xs = ys := by rw [ir_length] at hb; have := of_decide_eq_false hb; rw [List.take_of_length_le (by omega), List.take_of_length_le (by omega)] at hall; exact hall
        refine AC.exit ?_
        refine thenQ_exit ?_
        refine thenQ_exit ?_
        refine blockQ_hit ?_
        refine thenQ_normal ?_
        refine AC.seq ?_
        refine AC.region ?_
        first | refine AO.pure (PureOp.assignD (SLe.eq rfl)) rfl rfl ?_ | refine AO.pure (PureOp.assignB (SLe.eq rfl)) rfl rfl ?_ | refine AO.pure (PureOp.assignT (SLe.eq rfl)) rfl rfl ?_ | refine AO.pure (PureOp.assignO (SLe.eq rfl)) rfl rfl ?_ | refine AO.pure (PureOp.assignP (SLe.eq rfl)) rfl rfl ?_ | refine AO.pure (PureOp.assignA (SLe.eq rfl)) rfl rfl ?_
        refine AO.nil ?_
        refine thenQ_normal ?_
        refine AC.ret ?_
        refine ⟨rfl, _, ?_, ResOf.one (by first | exact GetR.flat (SLe.eq rfl) rfl | exact GetR.nil (SLe.eq rfl) | exact GetR.ownR (SLe.eq rfl) rfl rfl (by simp [flatRows, D.flat]) | exact GetR.any (SLe.eq rfl) | exact GetR.ownA (SLe.eq rfl) rfl rfl)⟩
        refine congrArg bD ?_
        simp [hres]

set_option maxRecDepth 100000 in
set_option maxHeartbeats 4000000 in
theorem has_any (xs : List Int) (n : Int) (hx : xs.length ≤ 4611686018427387903) : FCalls Try.prog 32 [.sl 1 (ir xs), iD n] (bD (decide (n ∈ xs))) := by
  refine ACalls.of Try.func32 rfl rfl rfl rfl rfl fun w0 S0 T => ?_
  refine AC.seq ?_
  refine AC.region ?_
  first | refine AO.pure (PureOp.assignD (SLe.eq rfl)) rfl rfl ?_ | refine AO.pure (PureOp.assignB (SLe.eq rfl)) rfl rfl ?_ | refine AO.pure (PureOp.assignT (SLe.eq rfl)) rfl rfl ?_ | refine AO.pure (PureOp.assignO (SLe.eq rfl)) rfl rfl ?_ | refine AO.pure (PureOp.assignP (SLe.eq rfl)) rfl rfl ?_ | refine AO.pure (PureOp.assignA (SLe.eq rfl)) rfl rfl ?_
  refine AO.nil ?_
  refine thenQ_normal ?_
  refine AC.seq ?_
  refine AC.seq ?_
  refine AC.region ?_
  first | refine AO.pure (PureOp.assignD (SLe.eq rfl)) rfl rfl ?_ | refine AO.pure (PureOp.assignB (SLe.eq rfl)) rfl rfl ?_ | refine AO.pure (PureOp.assignT (SLe.eq rfl)) rfl rfl ?_ | refine AO.pure (PureOp.assignO (SLe.eq rfl)) rfl rfl ?_ | refine AO.pure (PureOp.assignP (SLe.eq rfl)) rfl rfl ?_ | refine AO.pure (PureOp.assignA (SLe.eq rfl)) rfl rfl ?_
  refine AO.nil ?_
  refine thenQ_normal ?_
  refine AC.block ?_
  refine AC.loop (ι := Nat) (fun i => ⟨[(0, .d (.sl 1 (ir xs))), (1, .d (iD n)), (5, .d (iD (i : Int)))], [], [], 0, false, 18⟩) (fun i => i ≤ xs.length ∧ ¬ n ∈ xs.take i) (fun i => xs.length - i) 0 ?_ ⟨Nat.zero_le _, by simp⟩ ?_
  · refine Le.mk [] ⟨(by first | exact ⟨SLe.eq rfl, rfl⟩ | exact rfl | exact ⟨SLe.nil rfl, rfl⟩ | exact ⟨SLe.int rfl (by omega), rfl⟩ | exact ⟨SLe.bool rfl (by simp_all), rfl⟩ | exact ⟨SLe.sl rfl (by simp_all), rfl⟩), (by first | exact ⟨SLe.eq rfl, rfl⟩ | exact rfl | exact ⟨SLe.nil rfl, rfl⟩ | exact ⟨SLe.int rfl (by omega), rfl⟩ | exact ⟨SLe.bool rfl (by simp_all), rfl⟩ | exact ⟨SLe.sl rfl (by simp_all), rfl⟩), (by first | exact ⟨SLe.eq rfl, rfl⟩ | exact rfl | exact ⟨SLe.nil rfl, rfl⟩ | exact ⟨SLe.int rfl (by omega), rfl⟩ | exact ⟨SLe.bool rfl (by simp_all), rfl⟩ | exact ⟨SLe.sl rfl (by simp_all), rfl⟩), trivial⟩ trivial trivial rfl rfl rfl rfl rfl
  · rintro i ⟨hi, hall⟩
    refine AC.seq ?_
    refine AC.seq ?_
    refine AC.region ?_
    first | refine AO.pure (PureOp.moveD (SLe.eq rfl)) rfl rfl ?_ | refine AO.pure (PureOp.moveB (SLe.eq rfl)) rfl rfl ?_ | refine AO.pure (PureOp.moveT (SLe.eq rfl)) rfl rfl ?_ | refine AO.pure (PureOp.moveO (SLe.eq rfl)) rfl rfl ?_ | refine AO.pure (PureOp.moveP (SLe.eq rfl)) rfl rfl ?_ | refine AO.pure (PureOp.moveA (SLe.eq rfl)) rfl rfl ?_
    first | refine AO.pure (PureOp.moveD (SLe.eq rfl)) rfl rfl ?_ | refine AO.pure (PureOp.moveB (SLe.eq rfl)) rfl rfl ?_ | refine AO.pure (PureOp.moveT (SLe.eq rfl)) rfl rfl ?_ | refine AO.pure (PureOp.moveO (SLe.eq rfl)) rfl rfl ?_ | refine AO.pure (PureOp.moveP (SLe.eq rfl)) rfl rfl ?_ | refine AO.pure (PureOp.moveA (SLe.eq rfl)) rfl rfl ?_
    first | refine AO.pure (PureOp.len (e := 3) (s' := 1) (SLe.eq rfl) (by kernel_rfl)) rfl rfl ?_ | refine AO.pure (PureOp.lenR (e := 3) (s' := 1) (SLe.eq rfl) rfl rfl (by kernel_rfl)) rfl rfl ?_ | refine AO.pure (PureOp.lenNil (e := 3) (s' := 1) (SLe.eq rfl) (by kernel_rfl)) rfl rfl ?_
    refine AO.pure (PureOp.lss (SLe.eq rfl) (SLe.eq rfl)) rfl rfl ?_
    refine AO.nil ?_
    refine thenQ_normal ?_
    refine AC.cond (SLe.eq rfl) (fun hb => ?_) (fun hb => ?_)
    · skip
      have hlt : i < xs.length := by rw [ir_length] at hb; simpa using hb
      have hr1 : (ir xs)[i]? = some [iD xs[i]] := by simp [ir, hlt]
      refine AC.skip ?_
      refine thenQ_normal ?_
      refine AC.seq ?_
      refine AC.block ?_
      refine AC.seq ?_
      refine AC.region ?_
      first | refine AO.pure (PureOp.moveD (SLe.eq rfl)) rfl rfl ?_ | refine AO.pure (PureOp.moveB (SLe.eq rfl)) rfl rfl ?_ | refine AO.pure (PureOp.moveT (SLe.eq rfl)) rfl rfl ?_ | refine AO.pure (PureOp.moveO (SLe.eq rfl)) rfl rfl ?_ | refine AO.pure (PureOp.moveP (SLe.eq rfl)) rfl rfl ?_ | refine AO.pure (PureOp.moveA (SLe.eq rfl)) rfl rfl ?_
      first | refine AO.pure (PureOp.moveD (SLe.eq rfl)) rfl rfl ?_ | refine AO.pure (PureOp.moveB (SLe.eq rfl)) rfl rfl ?_ | refine AO.pure (PureOp.moveT (SLe.eq rfl)) rfl rfl ?_ | refine AO.pure (PureOp.moveO (SLe.eq rfl)) rfl rfl ?_ | refine AO.pure (PureOp.moveP (SLe.eq rfl)) rfl rfl ?_ | refine AO.pure (PureOp.moveA (SLe.eq rfl)) rfl rfl ?_
      first | refine AO.pure (PureOp.idx (e := 3) (sz := 1) (SLe.eq rfl) (SLe.eq rfl) rfl hr1 (by kernel_rfl)) rfl rfl ?_ | refine AO.pure (PureOp.idxR (e := 3) (sz := 1) (SLe.eq rfl) rfl (SLe.eq rfl) rfl (by simp; omega) rfl (by kernel_rfl)) rfl rfl ?_
      first | refine AO.pure (PureOp.loadB1 (SLe.eq rfl) rfl rfl (by kernel_rfl)) rfl rfl ?_ | refine AO.pure (PureOp.load1 (SLe.eq rfl) rfl (by kernel_rfl)) rfl rfl ?_ | refine AO.pure (PureOp.loadO1 (i := _) (j := _) (SLe.eq rfl) rfl rfl (by assumption) rfl (by kernel_rfl)) rfl rfl ?_
      first | refine AO.pure (PureOp.moveD (SLe.eq rfl)) rfl rfl ?_ | refine AO.pure (PureOp.moveB (SLe.eq rfl)) rfl rfl ?_ | refine AO.pure (PureOp.moveT (SLe.eq rfl)) rfl rfl ?_ | refine AO.pure (PureOp.moveO (SLe.eq rfl)) rfl rfl ?_ | refine AO.pure (PureOp.moveP (SLe.eq rfl)) rfl rfl ?_ | refine AO.pure (PureOp.moveA (SLe.eq rfl)) rfl rfl ?_
      refine AO.pure (PureOp.eql (SLe.eq rfl) (SLe.eq rfl)) rfl rfl ?_
      refine AO.nil ?_
      refine thenQ_normal ?_
      refine AC.cond (SLe.eq rfl) (fun hb => ?_) (fun hb => ?_)
      · skip
        have hxi : xs[i] = n := by simpa using hb
        have hres : n ∈ xs := hxi ▸ List.getElem_mem hlt
        refine AC.seq ?_
        refine AC.region ?_
        first | refine AO.pure (PureOp.assignD (SLe.eq rfl)) rfl rfl ?_ | refine AO.pure (PureOp.assignB (SLe.eq rfl)) rfl rfl ?_ | refine AO.pure (PureOp.assignT (SLe.eq rfl)) rfl rfl ?_ | refine AO.pure (PureOp.assignO (SLe.eq rfl)) rfl rfl ?_ | refine AO.pure (PureOp.assignP (SLe.eq rfl)) rfl rfl ?_ | refine AO.pure (PureOp.assignA (SLe.eq rfl)) rfl rfl ?_
        refine AO.nil ?_
        refine thenQ_normal ?_
        refine AC.ret ?_
        refine blockQ_ret ?_
        refine thenQ_ret ?_
        refine thenQ_ret ?_
        refine blockQ_ret ?_
        refine thenQ_ret ?_
        refine ⟨rfl, _, ?_, ResOf.one (by first | exact GetR.flat (SLe.eq rfl) rfl | exact GetR.nil (SLe.eq rfl) | exact GetR.ownR (SLe.eq rfl) rfl rfl (by simp [flatRows, D.flat]) | exact GetR.any (SLe.eq rfl) | exact GetR.ownA (SLe.eq rfl) rfl rfl)⟩
        refine congrArg bD ?_
        simp [hres]
      · skip
        have hne : ¬ xs[i] = n := by simpa using hb
        have hnext : ¬ n ∈ xs.take (i + 1) := by rw [List.take_succ_eq_append_getElem hlt]; intro h; exact (List.mem_append.1 h).elim hall (fun h => hne (List.mem_singleton.1 h).symm)
        refine AC.skip ?_
        refine blockQ_normal ?_
        refine thenQ_normal ?_
        refine AC.region ?_
        first | refine AO.pure (PureOp.moveD (SLe.eq rfl)) rfl rfl ?_ | refine AO.pure (PureOp.moveB (SLe.eq rfl)) rfl rfl ?_ | refine AO.pure (PureOp.moveT (SLe.eq rfl)) rfl rfl ?_ | refine AO.pure (PureOp.moveO (SLe.eq rfl)) rfl rfl ?_ | refine AO.pure (PureOp.moveP (SLe.eq rfl)) rfl rfl ?_ | refine AO.pure (PureOp.moveA (SLe.eq rfl)) rfl rfl ?_
        refine AO.pure (PureOp.add (SLe.eq rfl) (SLe.eq rfl) (by omega) (by omega)) rfl rfl ?_
        first | refine AO.pure (PureOp.assignD (SLe.eq rfl)) rfl rfl ?_ | refine AO.pure (PureOp.assignB (SLe.eq rfl)) rfl rfl ?_ | refine AO.pure (PureOp.assignT (SLe.eq rfl)) rfl rfl ?_ | refine AO.pure (PureOp.assignO (SLe.eq rfl)) rfl rfl ?_ | refine AO.pure (PureOp.assignP (SLe.eq rfl)) rfl rfl ?_ | refine AO.pure (PureOp.assignA (SLe.eq rfl)) rfl rfl ?_
        refine AO.nil ?_
        refine thenQ_normal ?_
        refine ⟨i + 1, ⟨hlt, hnext⟩, (by omega), ?_⟩
        refine Le.mk [] ⟨(by first | exact ⟨SLe.eq rfl, rfl⟩ | exact rfl | exact ⟨SLe.nil rfl, rfl⟩ | exact ⟨SLe.int rfl (by omega), rfl⟩ | exact ⟨SLe.bool rfl (by simp_all), rfl⟩ | exact ⟨SLe.sl rfl (by simp_all), rfl⟩), (by first | exact ⟨SLe.eq rfl, rfl⟩ | exact rfl | exact ⟨SLe.nil rfl, rfl⟩ | exact ⟨SLe.int rfl (by omega), rfl⟩ | exact ⟨SLe.bool rfl (by simp_all), rfl⟩ | exact ⟨SLe.sl rfl (by simp_all), rfl⟩), (by first | exact ⟨SLe.eq rfl, rfl⟩ | exact rfl | exact ⟨SLe.nil rfl, rfl⟩ | exact ⟨SLe.int rfl (by omega), rfl⟩ | exact ⟨SLe.bool rfl (by simp_all), rfl⟩ | exact ⟨SLe.sl rfl (by simp_all), rfl⟩), trivial⟩ trivial trivial rfl rfl rfl rfl rfl
    · skip
      have hres : ¬ n ∈ xs := by rw [ir_length] at hb; have := of_decide_eq_false hb; rw [List.take_of_length_le (by omega)] at hall; exact hall
      refine AC.exit ?_
      refine thenQ_exit ?_
      refine thenQ_exit ?_
      refine blockQ_hit ?_
      refine thenQ_normal ?_
      refine AC.seq ?_
      refine AC.region ?_
      first | refine AO.pure (PureOp.assignD (SLe.eq rfl)) rfl rfl ?_ | refine AO.pure (PureOp.assignB (SLe.eq rfl)) rfl rfl ?_ | refine AO.pure (PureOp.assignT (SLe.eq rfl)) rfl rfl ?_ | refine AO.pure (PureOp.assignO (SLe.eq rfl)) rfl rfl ?_ | refine AO.pure (PureOp.assignP (SLe.eq rfl)) rfl rfl ?_ | refine AO.pure (PureOp.assignA (SLe.eq rfl)) rfl rfl ?_
      refine AO.nil ?_
      refine thenQ_normal ?_
      refine AC.ret ?_
      refine ⟨rfl, _, ?_, ResOf.one (by first | exact GetR.flat (SLe.eq rfl) rfl | exact GetR.nil (SLe.eq rfl) | exact GetR.ownR (SLe.eq rfl) rfl rfl (by simp [flatRows, D.flat]) | exact GetR.any (SLe.eq rfl) | exact GetR.ownA (SLe.eq rfl) rfl rfl)⟩
      refine congrArg bD ?_
      simp [hres]

set_option maxRecDepth 100000 in
set_option maxHeartbeats 4000000 in
theorem measured_c (n : Int) (h1 : 0 ≤ n) (h2 : n ≤ 1000) : ACalls Try.prog 98 true true [.tp, .d (iD n)] (fun r => ∃ a b : Int, r = .agg [iD a, iD b] ∧ 0 ≤ a ∧ a ≤ n + 6 ∧ 0 ≤ b ∧ b < 40) := by
  refine ACalls.of Try.func98 rfl rfl rfl rfl rfl fun w0 S0 T => ?_
  refine AC.seq ?_
  refine AC.region ?_
  refine AO.alloc (z := .agg #[.int .i64 0, .int .i64 0]) (by kernel_rfl) rfl rfl rfl ?_
  refine AO.nil ?_
  refine thenQ_normal ?_
  refine AC.seq ?_
  refine AC.region ?_
  first | refine AO.pure (PureOp.moveD (SLe.eq rfl)) rfl rfl ?_ | refine AO.pure (PureOp.moveB (SLe.eq rfl)) rfl rfl ?_ | refine AO.pure (PureOp.moveT (SLe.eq rfl)) rfl rfl ?_ | refine AO.pure (PureOp.moveO (SLe.eq rfl)) rfl rfl ?_ | refine AO.pure (PureOp.moveP (SLe.eq rfl)) rfl rfl ?_ | refine AO.pure (PureOp.moveA (SLe.eq rfl)) rfl rfl ?_
  first | refine AO.pure (PureOp.moveD (SLe.eq rfl)) rfl rfl ?_ | refine AO.pure (PureOp.moveB (SLe.eq rfl)) rfl rfl ?_ | refine AO.pure (PureOp.moveT (SLe.eq rfl)) rfl rfl ?_ | refine AO.pure (PureOp.moveO (SLe.eq rfl)) rfl rfl ?_ | refine AO.pure (PureOp.moveP (SLe.eq rfl)) rfl rfl ?_ | refine AO.pure (PureOp.moveA (SLe.eq rfl)) rfl rfl ?_
  refine AO.tcall (.tp (SLe.eq rfl) (.cons (SLe.eq rfl) (by first | exact .d _ | exact View.osr rfl rfl | exact .bx rfl rfl | exact .agg (by repeat (first | exact .nil | refine .cons (by first | exact .d _ | exact View.osr rfl rfl) ?_)) | exact .fn (by repeat (first | exact .nil | refine .cons (by first | exact .d _ | exact View.osr rfl rfl | exact .bx rfl rfl) ?_))) (.cons (SLe.eq rfl) (by first | exact .d _ | exact View.osr rfl rfl | exact .bx rfl rfl | exact .agg (by repeat (first | exact .nil | refine .cons (by first | exact .d _ | exact View.osr rfl rfl) ?_)) | exact .fn (by repeat (first | exact .nil | refine .cons (by first | exact .d _ | exact View.osr rfl rfl | exact .bx rfl rfl) ?_))) .nil))) (range_c _ _ (by omega) (by omega) (by omega) (by omega)) rfl (by kernel_rfl) rfl ?_
  rintro _ ⟨z1, rfl, hz1a, hz1b⟩
  refine AO.pure (PureOp.add (SLe.eq rfl) (SLe.eq rfl) (by omega) (by omega)) rfl rfl ?_
  refine AO.pure (PureOp.max (SLe.eq rfl) (SLe.eq rfl)) rfl rfl ?_
  first | refine AO.pure (PureOp.moveD (SLe.eq rfl)) rfl rfl ?_ | refine AO.pure (PureOp.moveB (SLe.eq rfl)) rfl rfl ?_ | refine AO.pure (PureOp.moveT (SLe.eq rfl)) rfl rfl ?_ | refine AO.pure (PureOp.moveO (SLe.eq rfl)) rfl rfl ?_ | refine AO.pure (PureOp.moveP (SLe.eq rfl)) rfl rfl ?_ | refine AO.pure (PureOp.moveA (SLe.eq rfl)) rfl rfl ?_
  refine AO.tcall (.tp (SLe.eq rfl) (.cons (SLe.eq rfl) (by first | exact .d _ | exact View.osr rfl rfl | exact .bx rfl rfl | exact .agg (by repeat (first | exact .nil | refine .cons (by first | exact .d _ | exact View.osr rfl rfl) ?_)) | exact .fn (by repeat (first | exact .nil | refine .cons (by first | exact .d _ | exact View.osr rfl rfl | exact .bx rfl rfl) ?_))) .nil)) (next_c _ (by omega)) rfl (by kernel_rfl) rfl ?_
  rintro _ ⟨z2, rfl, hz2a, hz2b⟩
  first | refine AO.pure (PureOp.build (z := .agg #[.int .i64 0, .int .i64 0]) (pl := [(0, 1), (1, 1)]) (by kernel_rfl) rfl (by kernel_rfl) (.cons (SLe.eq rfl) rfl (.cons (SLe.eq rfl) rfl .nil)) rfl rfl) rfl rfl ?_ | refine AO.pure (PureOp.buildS (z := .agg #[.int .i64 0, .int .i64 0]) (pl := [(0, 1), (1, 1)]) (by kernel_rfl) rfl (by kernel_rfl) (.cons (SLe.eq rfl) rfl (.cons (SLe.eq rfl) rfl .nil)) rfl) rfl rfl ?_
  refine AO.store (SLe.eq rfl) (SLe.eq rfl) rfl rfl rfl rfl rfl (by kernel_rfl) rfl rfl ?_
  refine AO.nil ?_
  refine thenQ_normal ?_
  refine AC.ret ?_
  refine ⟨rfl, _, ?_, ResOf.one (GetR.cell (sz := 2) (SLe.eq rfl) rfl rfl rfl rfl rfl (by kernel_rfl))⟩
  exact ⟨_, _, rfl, by split <;> omega, by split <;> omega, by omega, by omega⟩

/-- What Reports gives. -/
structure RepOK (most : Nat) (l : List Rep) : Prop where
  len : l.length ≤ most
  all : ∀ x ∈ l, 1 ≤ x.n ∧ x.n ≤ most ∧ 1 ≤ x.f ∧ x.f ≤ 3 ∧ 0 ≤ x.d ∧ x.d ≤ 5 ∧ 1 ≤ x.k ∧ x.k ≤ 4 ∧ 0 ≤ x.l ∧ x.l ≤ 2 ∧ (x.k = 4 → x.l = 0) ∧ (x.k ≠ 1 → x.a = 0 ∧ x.b = 0) ∧ (x.k = 1 → 0 ≤ x.a ∧ x.a ≤ 26 ∧ 0 ≤ x.b ∧ x.b ≤ 40)
  nod : (l.map (·.n)).Nodup
/-- While it appends. -/
structure RepIn (most : Nat) (l : List Rep) : Prop where
  all : ∀ x ∈ l, 1 ≤ x.n ∧ x.n ≤ l.length ∧ 1 ≤ x.f ∧ x.f ≤ 3 ∧ 0 ≤ x.d ∧ x.d ≤ 5 ∧ 1 ≤ x.k ∧ x.k ≤ 4 ∧ 0 ≤ x.l ∧ x.l ≤ 2 ∧ (x.k = 4 → x.l = 0) ∧ (x.k ≠ 1 → x.a = 0 ∧ x.b = 0) ∧ (x.k = 1 → 0 ≤ x.a ∧ x.a ≤ 26 ∧ 0 ≤ x.b ∧ x.b ≤ 40)
  nod : (l.map (·.n)).Nodup
theorem RepIn.nil (most : Nat) : RepIn most [] := ⟨fun x h => (by cases h), by simp⟩
theorem RepIn.snoc {most : Nat} {l : List Rep} (h : RepIn most l) {x : Rep} (hn : x.n = 1 + l.length) (hx : 1 ≤ x.f ∧ x.f ≤ 3 ∧ 0 ≤ x.d ∧ x.d ≤ 5 ∧ 1 ≤ x.k ∧ x.k ≤ 4 ∧ 0 ≤ x.l ∧ x.l ≤ 2 ∧ (x.k = 4 → x.l = 0) ∧ (x.k ≠ 1 → x.a = 0 ∧ x.b = 0) ∧ (x.k = 1 → 0 ≤ x.a ∧ x.a ≤ 26 ∧ 0 ≤ x.b ∧ x.b ≤ 40)) : RepIn most (l ++ [x]) := by
  refine ⟨fun y hy => ?_, ?_⟩
  · rcases List.mem_append.1 hy with hy | hy
    · have := h.all y hy
      rw [List.length_append]
      refine ⟨this.1, ?_, this.2.2⟩
      have := this.2.1
      simp; omega
    · rw [List.mem_singleton] at hy
      subst hy
      rw [List.length_append]
      refine ⟨by omega, by simp; omega, hx⟩
  · rw [List.map_append, List.nodup_append]
    refine ⟨h.nod, by simp, fun a ha b hb => ?_⟩
    obtain ⟨y, hy, rfl⟩ := List.mem_map.1 ha
    simp at hb
    subst hb
    have := (h.all y hy).2.1
    omega
theorem RepIn.ok {most : Nat} {l : List Rep} (h : RepIn most l) (hl : l.length ≤ most) : RepOK most l :=
  ⟨hl, fun x hx => by have := h.all x hx; refine ⟨this.1, by omega, this.2.2⟩, h.nod⟩
theorem RepOK.perm {most : Nat} {l l' : List Rep} (h : RepOK most l) (hp : l'.Perm l) : RepOK most l' :=
  ⟨by rw [hp.length_eq]; exact h.len, fun x hx => h.all x (hp.mem_iff.1 hx), (hp.map (·.n)).nodup_iff.2 h.nod⟩
theorem rr_set (l : List Rep) (i : Nat) (x : Rep) : (rr l).set i x.av = rr (l.set i x) := by simp [rr, List.map_set]
theorem swap_perm {l : List Rep} {i k : Nat} {x y : Rep} (hi : l[i]? = some x) (hk : l[k]? = some y) : ((l.set i y).set k x).Perm l := by
  have h1 := (List.getElem?_eq_some_iff.1 hi)
  have h2 := (List.getElem?_eq_some_iff.1 hk)
  obtain ⟨hil, rfl⟩ := h1
  obtain ⟨hkl, rfl⟩ := h2
  exact List.set_set_perm hil hkl
set_option maxRecDepth 100000 in
set_option maxHeartbeats 4000000 in
theorem reports_c (most : Nat) (hm : most ≤ 90) : ACalls Try.prog 56 true true [.tp, .d (iD (most : Int))] (fun r => ∃ l, r = .sl 7 (rr l) ∧ RepOK most l) := by
  refine ACalls.of Try.func56 rfl rfl rfl rfl rfl fun w0 S0 T => ?_
  refine AC.seq ?_
  refine AC.region ?_
  first | refine AO.pure (PureOp.assignD (SLe.eq rfl)) rfl rfl ?_ | refine AO.pure (PureOp.assignB (SLe.eq rfl)) rfl rfl ?_ | refine AO.pure (PureOp.assignT (SLe.eq rfl)) rfl rfl ?_ | refine AO.pure (PureOp.assignO (SLe.eq rfl)) rfl rfl ?_ | refine AO.pure (PureOp.assignP (SLe.eq rfl)) rfl rfl ?_ | refine AO.pure (PureOp.assignA (SLe.eq rfl)) rfl rfl ?_
  refine AO.nil ?_
  refine thenQ_normal ?_
  refine AC.seq ?_
  refine AC.region ?_
  first | refine AO.pure (PureOp.assignD (SLe.eq rfl)) rfl rfl ?_ | refine AO.pure (PureOp.assignB (SLe.eq rfl)) rfl rfl ?_ | refine AO.pure (PureOp.assignT (SLe.eq rfl)) rfl rfl ?_ | refine AO.pure (PureOp.assignO (SLe.eq rfl)) rfl rfl ?_ | refine AO.pure (PureOp.assignP (SLe.eq rfl)) rfl rfl ?_ | refine AO.pure (PureOp.assignA (SLe.eq rfl)) rfl rfl ?_
  refine AO.nil ?_
  refine thenQ_normal ?_
  refine AC.seq ?_
  refine AC.seq ?_
  refine AC.region ?_
  first | refine AO.pure (PureOp.moveD (SLe.eq rfl)) rfl rfl ?_ | refine AO.pure (PureOp.moveB (SLe.eq rfl)) rfl rfl ?_ | refine AO.pure (PureOp.moveT (SLe.eq rfl)) rfl rfl ?_ | refine AO.pure (PureOp.moveO (SLe.eq rfl)) rfl rfl ?_ | refine AO.pure (PureOp.moveP (SLe.eq rfl)) rfl rfl ?_ | refine AO.pure (PureOp.moveA (SLe.eq rfl)) rfl rfl ?_
  first | refine AO.pure (PureOp.moveD (SLe.eq rfl)) rfl rfl ?_ | refine AO.pure (PureOp.moveB (SLe.eq rfl)) rfl rfl ?_ | refine AO.pure (PureOp.moveT (SLe.eq rfl)) rfl rfl ?_ | refine AO.pure (PureOp.moveO (SLe.eq rfl)) rfl rfl ?_ | refine AO.pure (PureOp.moveP (SLe.eq rfl)) rfl rfl ?_ | refine AO.pure (PureOp.moveA (SLe.eq rfl)) rfl rfl ?_
  refine AO.pure (PureOp.add (SLe.eq rfl) (SLe.eq rfl) (by omega) (by omega)) rfl rfl ?_
  refine AO.tcall (.tp (SLe.eq rfl) (.cons (SLe.eq rfl) (by first | exact .d _ | exact View.osr rfl rfl | exact .bx rfl rfl | exact .agg (by repeat (first | exact .nil | refine .cons (by first | exact .d _ | exact View.osr rfl rfl) ?_)) | exact .fn (by repeat (first | exact .nil | refine .cons (by first | exact .d _ | exact View.osr rfl rfl | exact .bx rfl rfl) ?_))) .nil)) (next_c _ (by omega)) rfl (by kernel_rfl) rfl ?_
  rintro _ ⟨z1, rfl, hz1a, hz1b⟩
  first | refine AO.pure (PureOp.assignD (SLe.eq rfl)) rfl rfl ?_ | refine AO.pure (PureOp.assignB (SLe.eq rfl)) rfl rfl ?_ | refine AO.pure (PureOp.assignT (SLe.eq rfl)) rfl rfl ?_ | refine AO.pure (PureOp.assignO (SLe.eq rfl)) rfl rfl ?_ | refine AO.pure (PureOp.assignP (SLe.eq rfl)) rfl rfl ?_ | refine AO.pure (PureOp.assignA (SLe.eq rfl)) rfl rfl ?_
  refine AO.nil ?_
  refine thenQ_normal ?_
  refine AC.block ?_
  refine AC.le (Le.ownNil 5 78 7 rfl rfl) ?_
  refine AC.loop (ι := List Rep × Nat) (fun q => ⟨[(0, .tp), (5, .os 0), (6, .d (iD (q.2 : Int)))], [], [(0, ⟨78, 7, rr q.1⟩)], 1, true, 69⟩) (fun q => RepIn most q.1 ∧ q.1.length + q.2 ≤ most) (fun q => q.2) ([], z1.toNat) ?_ ⟨RepIn.nil most, (by simp; omega)⟩ ?_
  · refine Le.mk [(0, 0)] ⟨(by first | exact ⟨SLe.eq rfl, rfl⟩ | exact rfl | exact ⟨SLe.nil rfl, rfl⟩ | exact ⟨SLe.int rfl (by omega), rfl⟩ | exact ⟨SLe.bool rfl (by simp_all), rfl⟩ | exact ⟨SLe.sl rfl (by simp_all), rfl⟩), (by first | exact ⟨SLe.eq rfl, rfl⟩ | exact rfl | exact ⟨SLe.nil rfl, rfl⟩ | exact ⟨SLe.int rfl (by omega), rfl⟩ | exact ⟨SLe.bool rfl (by simp_all), rfl⟩ | exact ⟨SLe.sl rfl (by simp_all), rfl⟩), (by first | exact ⟨SLe.eq rfl, rfl⟩ | exact rfl | exact ⟨SLe.nil rfl, rfl⟩ | exact ⟨SLe.int rfl (by omega), rfl⟩ | exact ⟨SLe.bool rfl (by simp_all), rfl⟩ | exact ⟨SLe.sl rfl (by simp_all), rfl⟩), trivial⟩ trivial ⟨⟨_, rfl, rfl⟩, trivial⟩ rfl rfl rfl rfl rfl
  · rintro ⟨l, n⟩ ⟨hin, hln⟩
    dsimp only at hin hln ⊢
    have hrl := rr_length l
    refine AC.seq ?_
    refine AC.seq ?_
    refine AC.region ?_
    first | refine AO.pure (PureOp.moveD (SLe.eq rfl)) rfl rfl ?_ | refine AO.pure (PureOp.moveB (SLe.eq rfl)) rfl rfl ?_ | refine AO.pure (PureOp.moveT (SLe.eq rfl)) rfl rfl ?_ | refine AO.pure (PureOp.moveO (SLe.eq rfl)) rfl rfl ?_ | refine AO.pure (PureOp.moveP (SLe.eq rfl)) rfl rfl ?_ | refine AO.pure (PureOp.moveA (SLe.eq rfl)) rfl rfl ?_
    refine AO.pure (PureOp.gtr (SLe.eq rfl) (SLe.eq rfl)) rfl rfl ?_
    refine AO.nil ?_
    refine thenQ_normal ?_
    refine AC.cond (SLe.eq rfl) (fun hb => ?_) (fun hb => ?_)
    · skip
      have hn0 := of_decide_eq_true hb
      refine AC.skip ?_
      refine thenQ_normal ?_
      refine AC.seq ?_
      refine AC.block ?_
      refine AC.seq ?_
      refine AC.region ?_
      first | refine AO.pure (PureOp.moveD (SLe.eq rfl)) rfl rfl ?_ | refine AO.pure (PureOp.moveB (SLe.eq rfl)) rfl rfl ?_ | refine AO.pure (PureOp.moveT (SLe.eq rfl)) rfl rfl ?_ | refine AO.pure (PureOp.moveO (SLe.eq rfl)) rfl rfl ?_ | refine AO.pure (PureOp.moveP (SLe.eq rfl)) rfl rfl ?_ | refine AO.pure (PureOp.moveA (SLe.eq rfl)) rfl rfl ?_
      first | refine AO.pure (PureOp.len (e := 78) (s' := 7) (SLe.eq rfl) (by kernel_rfl)) rfl rfl ?_ | refine AO.pure (PureOp.lenR (e := 78) (s' := 7) (SLe.eq rfl) rfl rfl (by kernel_rfl)) rfl rfl ?_ | refine AO.pure (PureOp.lenNil (e := 78) (s' := 7) (SLe.eq rfl) (by kernel_rfl)) rfl rfl ?_
      refine AO.pure (PureOp.add (SLe.eq rfl) (SLe.eq rfl) (by omega) (by omega)) rfl rfl ?_
      first | refine AO.pure (PureOp.moveD (SLe.eq rfl)) rfl rfl ?_ | refine AO.pure (PureOp.moveB (SLe.eq rfl)) rfl rfl ?_ | refine AO.pure (PureOp.moveT (SLe.eq rfl)) rfl rfl ?_ | refine AO.pure (PureOp.moveO (SLe.eq rfl)) rfl rfl ?_ | refine AO.pure (PureOp.moveP (SLe.eq rfl)) rfl rfl ?_ | refine AO.pure (PureOp.moveA (SLe.eq rfl)) rfl rfl ?_
      refine AO.tcall (.tp (SLe.eq rfl) (.cons (SLe.eq rfl) (by first | exact .d _ | exact View.osr rfl rfl | exact .bx rfl rfl | exact .agg (by repeat (first | exact .nil | refine .cons (by first | exact .d _ | exact View.osr rfl rfl) ?_)) | exact .fn (by repeat (first | exact .nil | refine .cons (by first | exact .d _ | exact View.osr rfl rfl | exact .bx rfl rfl) ?_))) (.cons (SLe.eq rfl) (by first | exact .d _ | exact View.osr rfl rfl | exact .bx rfl rfl | exact .agg (by repeat (first | exact .nil | refine .cons (by first | exact .d _ | exact View.osr rfl rfl) ?_)) | exact .fn (by repeat (first | exact .nil | refine .cons (by first | exact .d _ | exact View.osr rfl rfl | exact .bx rfl rfl) ?_))) .nil))) (range_c _ _ (by omega) (by omega) (by omega) (by omega)) rfl (by kernel_rfl) rfl ?_
      rintro _ ⟨z2, rfl, hz2a, hz2b⟩
      first | refine AO.pure (PureOp.moveD (SLe.eq rfl)) rfl rfl ?_ | refine AO.pure (PureOp.moveB (SLe.eq rfl)) rfl rfl ?_ | refine AO.pure (PureOp.moveT (SLe.eq rfl)) rfl rfl ?_ | refine AO.pure (PureOp.moveO (SLe.eq rfl)) rfl rfl ?_ | refine AO.pure (PureOp.moveP (SLe.eq rfl)) rfl rfl ?_ | refine AO.pure (PureOp.moveA (SLe.eq rfl)) rfl rfl ?_
      refine AO.tcall (.tp (SLe.eq rfl) (.cons (SLe.eq rfl) (by first | exact .d _ | exact View.osr rfl rfl | exact .bx rfl rfl | exact .agg (by repeat (first | exact .nil | refine .cons (by first | exact .d _ | exact View.osr rfl rfl) ?_)) | exact .fn (by repeat (first | exact .nil | refine .cons (by first | exact .d _ | exact View.osr rfl rfl | exact .bx rfl rfl) ?_))) .nil)) (next_c _ (by omega)) rfl (by kernel_rfl) rfl ?_
      rintro _ ⟨z3, rfl, hz3a, hz3b⟩
      first | refine AO.pure (PureOp.moveD (SLe.eq rfl)) rfl rfl ?_ | refine AO.pure (PureOp.moveB (SLe.eq rfl)) rfl rfl ?_ | refine AO.pure (PureOp.moveT (SLe.eq rfl)) rfl rfl ?_ | refine AO.pure (PureOp.moveO (SLe.eq rfl)) rfl rfl ?_ | refine AO.pure (PureOp.moveP (SLe.eq rfl)) rfl rfl ?_ | refine AO.pure (PureOp.moveA (SLe.eq rfl)) rfl rfl ?_
      refine AO.tcall (.tp (SLe.eq rfl) (.cons (SLe.eq rfl) (by first | exact .d _ | exact View.osr rfl rfl | exact .bx rfl rfl | exact .agg (by repeat (first | exact .nil | refine .cons (by first | exact .d _ | exact View.osr rfl rfl) ?_)) | exact .fn (by repeat (first | exact .nil | refine .cons (by first | exact .d _ | exact View.osr rfl rfl | exact .bx rfl rfl) ?_))) (.cons (SLe.eq rfl) (by first | exact .d _ | exact View.osr rfl rfl | exact .bx rfl rfl | exact .agg (by repeat (first | exact .nil | refine .cons (by first | exact .d _ | exact View.osr rfl rfl) ?_)) | exact .fn (by repeat (first | exact .nil | refine .cons (by first | exact .d _ | exact View.osr rfl rfl | exact .bx rfl rfl) ?_))) .nil))) (range_c _ _ (by omega) (by omega) (by omega) (by omega)) rfl (by kernel_rfl) rfl ?_
      rintro _ ⟨z4, rfl, hz4a, hz4b⟩
      first | refine AO.pure (PureOp.moveD (SLe.eq rfl)) rfl rfl ?_ | refine AO.pure (PureOp.moveB (SLe.eq rfl)) rfl rfl ?_ | refine AO.pure (PureOp.moveT (SLe.eq rfl)) rfl rfl ?_ | refine AO.pure (PureOp.moveO (SLe.eq rfl)) rfl rfl ?_ | refine AO.pure (PureOp.moveP (SLe.eq rfl)) rfl rfl ?_ | refine AO.pure (PureOp.moveA (SLe.eq rfl)) rfl rfl ?_
      refine AO.tcall (.tp (SLe.eq rfl) (.cons (SLe.eq rfl) (by first | exact .d _ | exact View.osr rfl rfl | exact .bx rfl rfl | exact .agg (by repeat (first | exact .nil | refine .cons (by first | exact .d _ | exact View.osr rfl rfl) ?_)) | exact .fn (by repeat (first | exact .nil | refine .cons (by first | exact .d _ | exact View.osr rfl rfl | exact .bx rfl rfl) ?_))) .nil)) (next_c _ (by omega)) rfl (by kernel_rfl) rfl ?_
      rintro _ ⟨z5, rfl, hz5a, hz5b⟩
      first | refine AO.pure (PureOp.build (z := .agg #[.int .i64 0, .int .i64 0, .int .i64 0, .int .i64 0, .int .i64 0, .int .i64 0, .int .i64 0]) (pl := [(0, 1), (1, 1), (2, 1), (3, 1), (4, 1), (5, 2)]) (by kernel_rfl) rfl (by kernel_rfl) (.cons (SLe.eq rfl) rfl (.cons (SLe.eq rfl) rfl (.cons (SLe.eq rfl) rfl (.cons (SLe.eq rfl) rfl (.cons (SLe.eq rfl) rfl .nil))))) rfl rfl) rfl rfl ?_ | refine AO.pure (PureOp.buildS (z := .agg #[.int .i64 0, .int .i64 0, .int .i64 0, .int .i64 0, .int .i64 0, .int .i64 0, .int .i64 0]) (pl := [(0, 1), (1, 1), (2, 1), (3, 1), (4, 1), (5, 2)]) (by kernel_rfl) rfl (by kernel_rfl) (.cons (SLe.eq rfl) rfl (.cons (SLe.eq rfl) rfl (.cons (SLe.eq rfl) rfl (.cons (SLe.eq rfl) rfl (.cons (SLe.eq rfl) rfl .nil))))) rfl) rfl rfl ?_
      refine AO.alloc (z := .agg #[.int .i64 0, .int .i64 0, .int .i64 0, .int .i64 0, .int .i64 0, .int .i64 0, .int .i64 0]) (by kernel_rfl) rfl rfl rfl ?_
      refine AO.store (SLe.eq rfl) (SLe.eq rfl) rfl rfl rfl rfl rfl (by kernel_rfl) rfl rfl ?_
      refine AO.nil ?_
      refine thenQ_normal ?_
      refine AC.seq ?_
      refine AC.seq ?_
      refine AC.region ?_
      first | refine AO.pure (PureOp.moveD (SLe.eq rfl)) rfl rfl ?_ | refine AO.pure (PureOp.moveB (SLe.eq rfl)) rfl rfl ?_ | refine AO.pure (PureOp.moveT (SLe.eq rfl)) rfl rfl ?_ | refine AO.pure (PureOp.moveO (SLe.eq rfl)) rfl rfl ?_ | refine AO.pure (PureOp.moveP (SLe.eq rfl)) rfl rfl ?_ | refine AO.pure (PureOp.moveA (SLe.eq rfl)) rfl rfl ?_
      refine AO.tcall (.tp (SLe.eq rfl) (.cons (SLe.eq rfl) (by first | exact .d _ | exact View.osr rfl rfl | exact .bx rfl rfl | exact .agg (by repeat (first | exact .nil | refine .cons (by first | exact .d _ | exact View.osr rfl rfl) ?_)) | exact .fn (by repeat (first | exact .nil | refine .cons (by first | exact .d _ | exact View.osr rfl rfl | exact .bx rfl rfl) ?_))) .nil)) (one_c _ (by omega) (by omega)) rfl (by kernel_rfl) rfl ?_
      rintro _ ⟨z6, rfl⟩
      refine AO.nil ?_
      refine thenQ_normal ?_
      refine AC.cond (SLe.eq rfl) (fun hb => ?_) (fun hb => ?_)
      · skip
        refine AC.region ?_
        first | refine AO.pure (PureOp.fldB (k := 3) (SLe.eq rfl) (by kernel_rfl)) rfl rfl ?_ | refine AO.pure (PureOp.fld (k := 3) (SLe.eq rfl) (by kernel_rfl)) rfl rfl ?_ | refine AO.pure (PureOp.fldO (k := 3) (SLe.eq rfl) (by kernel_rfl)) rfl rfl ?_
        refine AO.store (SLe.eq rfl) (SLe.eq rfl) rfl rfl rfl rfl rfl (by kernel_rfl) rfl rfl ?_
        first | refine AO.pure (PureOp.fldB (k := 4) (SLe.eq rfl) (by kernel_rfl)) rfl rfl ?_ | refine AO.pure (PureOp.fld (k := 4) (SLe.eq rfl) (by kernel_rfl)) rfl rfl ?_ | refine AO.pure (PureOp.fldO (k := 4) (SLe.eq rfl) (by kernel_rfl)) rfl rfl ?_
        refine AO.store (SLe.eq rfl) (SLe.eq rfl) rfl rfl rfl rfl rfl (by kernel_rfl) rfl rfl ?_
        refine AO.nil ?_
        refine thenQ_normal ?_
        refine AC.seq ?_
        refine AC.seq ?_
        refine AC.region ?_
        first | refine AO.pure (PureOp.fldB (k := 3) (SLe.eq rfl) (by kernel_rfl)) rfl rfl ?_ | refine AO.pure (PureOp.fld (k := 3) (SLe.eq rfl) (by kernel_rfl)) rfl rfl ?_ | refine AO.pure (PureOp.fldO (k := 3) (SLe.eq rfl) (by kernel_rfl)) rfl rfl ?_
        first | refine AO.pure (PureOp.loadB1 (SLe.eq rfl) rfl rfl (by kernel_rfl)) rfl rfl ?_ | refine AO.pure (PureOp.load1 (SLe.eq rfl) rfl (by kernel_rfl)) rfl rfl ?_ | refine AO.pure (PureOp.loadO1 (i := _) (j := _) (SLe.eq rfl) rfl rfl (by assumption) rfl (by kernel_rfl)) rfl rfl ?_
        refine AO.pure (PureOp.eql (SLe.eq rfl) (SLe.eq rfl)) rfl rfl ?_
        refine AO.nil ?_
        refine thenQ_normal ?_
        refine AC.cond (SLe.eq rfl) (fun hb => ?_) (fun hb => ?_)
        · skip
          have hk1 := of_decide_eq_true hb
          refine AC.region ?_
          first | refine AO.pure (PureOp.moveD (SLe.eq rfl)) rfl rfl ?_ | refine AO.pure (PureOp.moveB (SLe.eq rfl)) rfl rfl ?_ | refine AO.pure (PureOp.moveT (SLe.eq rfl)) rfl rfl ?_ | refine AO.pure (PureOp.moveO (SLe.eq rfl)) rfl rfl ?_ | refine AO.pure (PureOp.moveP (SLe.eq rfl)) rfl rfl ?_ | refine AO.pure (PureOp.moveA (SLe.eq rfl)) rfl rfl ?_
          refine AO.tcall (.tp (SLe.eq rfl) (.cons (SLe.eq rfl) (by first | exact .d _ | exact View.osr rfl rfl | exact .bx rfl rfl | exact .agg (by repeat (first | exact .nil | refine .cons (by first | exact .d _ | exact View.osr rfl rfl) ?_)) | exact .fn (by repeat (first | exact .nil | refine .cons (by first | exact .d _ | exact View.osr rfl rfl | exact .bx rfl rfl) ?_))) .nil)) (measured_c _ (by omega) (by omega)) rfl (by kernel_rfl) rfl ?_
          rintro _ ⟨ma, mb, rfl, hm1, hm2, hm3, hm4⟩
          first | refine AO.pure (PureOp.fldB (k := 5) (SLe.eq rfl) (by kernel_rfl)) rfl rfl ?_ | refine AO.pure (PureOp.fld (k := 5) (SLe.eq rfl) (by kernel_rfl)) rfl rfl ?_ | refine AO.pure (PureOp.fldO (k := 5) (SLe.eq rfl) (by kernel_rfl)) rfl rfl ?_
          refine AO.store (SLe.eq rfl) (SLe.eq rfl) rfl rfl rfl rfl rfl (by kernel_rfl) rfl rfl ?_
          refine AO.nil ?_
          refine thenQ_normal ?_
          refine AC.region ?_
          first | refine AO.pure (PureOp.moveD (SLe.eq rfl)) rfl rfl ?_ | refine AO.pure (PureOp.moveB (SLe.eq rfl)) rfl rfl ?_ | refine AO.pure (PureOp.moveT (SLe.eq rfl)) rfl rfl ?_ | refine AO.pure (PureOp.moveO (SLe.eq rfl)) rfl rfl ?_ | refine AO.pure (PureOp.moveP (SLe.eq rfl)) rfl rfl ?_ | refine AO.pure (PureOp.moveA (SLe.eq rfl)) rfl rfl ?_
          first | refine AO.pure (PureOp.loadBN (sz := 7) (SLe.eq rfl) rfl rfl rfl rfl (by kernel_rfl)) rfl rfl ?_ | refine AO.pure (PureOp.loadN (sz := 7) (SLe.eq rfl) rfl rfl (by kernel_rfl)) rfl rfl ?_ | refine AO.pure (PureOp.loadON (sz := 7) (i := _) (SLe.eq rfl) rfl rfl (by assumption) rfl (by kernel_rfl)) rfl rfl ?_ | refine AO.pure (PureOp.loadBS (sz := 7) (SLe.eq rfl) rfl rfl rfl (by kernel_rfl)) rfl rfl ?_
          refine AO.pure (PureOp.buildSlice (e := 78) (sz := 7) (z := .agg #[.int .i64 0, .int .i64 0, .int .i64 0, .int .i64 0, .int .i64 0, .int .i64 0, .int .i64 0]) (by kernel_rfl) (by kernel_rfl) rfl rfl rfl (.cons (SLe.eq rfl) rfl .nil) rfl rfl rfl rfl) rfl rfl ?_
          refine AO.append (e := 78) (sz := 7) (bs := 56) (SLe.eq rfl) rfl (by first | exact SLe.eq rfl | exact SLe.nil rfl) (by kernel_rfl) (by simp only [List.length_cons, List.length_nil]; omega) rfl ?_
          first | refine AO.pure (PureOp.assignD (SLe.eq rfl)) rfl rfl ?_ | refine AO.pure (PureOp.assignB (SLe.eq rfl)) rfl rfl ?_ | refine AO.pure (PureOp.assignT (SLe.eq rfl)) rfl rfl ?_ | refine AO.pure (PureOp.assignO (SLe.eq rfl)) rfl rfl ?_ | refine AO.pure (PureOp.assignP (SLe.eq rfl)) rfl rfl ?_ | refine AO.pure (PureOp.assignA (SLe.eq rfl)) rfl rfl ?_
          refine AO.nil ?_
          refine blockQ_normal ?_
          refine thenQ_normal ?_
          refine AC.region ?_
          first | refine AO.pure (PureOp.moveD (SLe.eq rfl)) rfl rfl ?_ | refine AO.pure (PureOp.moveB (SLe.eq rfl)) rfl rfl ?_ | refine AO.pure (PureOp.moveT (SLe.eq rfl)) rfl rfl ?_ | refine AO.pure (PureOp.moveO (SLe.eq rfl)) rfl rfl ?_ | refine AO.pure (PureOp.moveP (SLe.eq rfl)) rfl rfl ?_ | refine AO.pure (PureOp.moveA (SLe.eq rfl)) rfl rfl ?_
          refine AO.pure (PureOp.sub (SLe.eq rfl) (SLe.eq rfl) (by omega) (by omega)) rfl rfl ?_
          first | refine AO.pure (PureOp.assignD (SLe.eq rfl)) rfl rfl ?_ | refine AO.pure (PureOp.assignB (SLe.eq rfl)) rfl rfl ?_ | refine AO.pure (PureOp.assignT (SLe.eq rfl)) rfl rfl ?_ | refine AO.pure (PureOp.assignO (SLe.eq rfl)) rfl rfl ?_ | refine AO.pure (PureOp.assignP (SLe.eq rfl)) rfl rfl ?_ | refine AO.pure (PureOp.assignA (SLe.eq rfl)) rfl rfl ?_
          refine AO.nil ?_
          refine thenQ_normal ?_
          first | (refine ⟨(l ++ [⟨1 + ((rr l).length : Int), z2, z3, z4, z5, ma, mb⟩], n - 1), ⟨hin.snoc (by simp only [rr_length]) (by refine ⟨?_, ?_, ?_, ?_, ?_, ?_, ?_, ?_, fun h => ?_, fun h => ⟨?_, ?_⟩, fun h => ⟨?_, ?_, ?_, ?_⟩⟩ <;> first | rfl | (simp only at *; omega) | omega), by simp; omega⟩, (by simp only; omega), ?_⟩; refine Le.mk [(0, 2)] ⟨(by first | exact ⟨SLe.eq rfl, rfl⟩ | exact rfl | exact ⟨SLe.nil rfl, rfl⟩ | exact ⟨SLe.int rfl (by omega), rfl⟩ | exact ⟨SLe.bool rfl (by simp_all), rfl⟩ | exact ⟨SLe.sl rfl (by simp_all), rfl⟩), (by first | exact ⟨SLe.eq rfl, rfl⟩ | exact rfl | exact ⟨SLe.nil rfl, rfl⟩ | exact ⟨SLe.int rfl (by omega), rfl⟩ | exact ⟨SLe.bool rfl (by simp_all), rfl⟩ | exact ⟨SLe.sl rfl (by simp_all), rfl⟩), (by first | exact ⟨SLe.eq rfl, rfl⟩ | exact rfl | exact ⟨SLe.nil rfl, rfl⟩ | exact ⟨SLe.int rfl (by omega), rfl⟩ | exact ⟨SLe.bool rfl (by simp_all), rfl⟩ | exact ⟨SLe.sl rfl (by simp_all), rfl⟩), trivial⟩ trivial ⟨⟨_, rfl, (by symm; exact (rr_snoc _ _).symm)⟩, trivial⟩ rfl rfl rfl rfl rfl) | (refine ⟨(l ++ [⟨1 + ((rr l).length : Int), z2, z3, z4, z5, 0, 0⟩], n - 1), ⟨hin.snoc (by simp only [rr_length]) (by refine ⟨?_, ?_, ?_, ?_, ?_, ?_, ?_, ?_, fun h => ?_, fun h => ⟨?_, ?_⟩, fun h => ⟨?_, ?_, ?_, ?_⟩⟩ <;> first | rfl | (simp only at *; omega) | omega), by simp; omega⟩, (by simp only; omega), ?_⟩; refine Le.mk [(0, 2)] ⟨(by first | exact ⟨SLe.eq rfl, rfl⟩ | exact rfl | exact ⟨SLe.nil rfl, rfl⟩ | exact ⟨SLe.int rfl (by omega), rfl⟩ | exact ⟨SLe.bool rfl (by simp_all), rfl⟩ | exact ⟨SLe.sl rfl (by simp_all), rfl⟩), (by first | exact ⟨SLe.eq rfl, rfl⟩ | exact rfl | exact ⟨SLe.nil rfl, rfl⟩ | exact ⟨SLe.int rfl (by omega), rfl⟩ | exact ⟨SLe.bool rfl (by simp_all), rfl⟩ | exact ⟨SLe.sl rfl (by simp_all), rfl⟩), (by first | exact ⟨SLe.eq rfl, rfl⟩ | exact rfl | exact ⟨SLe.nil rfl, rfl⟩ | exact ⟨SLe.int rfl (by omega), rfl⟩ | exact ⟨SLe.bool rfl (by simp_all), rfl⟩ | exact ⟨SLe.sl rfl (by simp_all), rfl⟩), trivial⟩ trivial ⟨⟨_, rfl, (by symm; exact (rr_snoc _ _).symm)⟩, trivial⟩ rfl rfl rfl rfl rfl) | (refine ⟨(l ++ [⟨1 + ((rr l).length : Int), z2, z3, 4, 0, ma, mb⟩], n - 1), ⟨hin.snoc (by simp only [rr_length]) (by refine ⟨?_, ?_, ?_, ?_, ?_, ?_, ?_, ?_, fun h => ?_, fun h => ⟨?_, ?_⟩, fun h => ⟨?_, ?_, ?_, ?_⟩⟩ <;> first | rfl | (simp only at *; omega) | omega), by simp; omega⟩, (by simp only; omega), ?_⟩; refine Le.mk [(0, 2)] ⟨(by first | exact ⟨SLe.eq rfl, rfl⟩ | exact rfl | exact ⟨SLe.nil rfl, rfl⟩ | exact ⟨SLe.int rfl (by omega), rfl⟩ | exact ⟨SLe.bool rfl (by simp_all), rfl⟩ | exact ⟨SLe.sl rfl (by simp_all), rfl⟩), (by first | exact ⟨SLe.eq rfl, rfl⟩ | exact rfl | exact ⟨SLe.nil rfl, rfl⟩ | exact ⟨SLe.int rfl (by omega), rfl⟩ | exact ⟨SLe.bool rfl (by simp_all), rfl⟩ | exact ⟨SLe.sl rfl (by simp_all), rfl⟩), (by first | exact ⟨SLe.eq rfl, rfl⟩ | exact rfl | exact ⟨SLe.nil rfl, rfl⟩ | exact ⟨SLe.int rfl (by omega), rfl⟩ | exact ⟨SLe.bool rfl (by simp_all), rfl⟩ | exact ⟨SLe.sl rfl (by simp_all), rfl⟩), trivial⟩ trivial ⟨⟨_, rfl, (by symm; exact (rr_snoc _ _).symm)⟩, trivial⟩ rfl rfl rfl rfl rfl) | (refine ⟨(l ++ [⟨1 + ((rr l).length : Int), z2, z3, 4, 0, 0, 0⟩], n - 1), ⟨hin.snoc (by simp only [rr_length]) (by refine ⟨?_, ?_, ?_, ?_, ?_, ?_, ?_, ?_, fun h => ?_, fun h => ⟨?_, ?_⟩, fun h => ⟨?_, ?_, ?_, ?_⟩⟩ <;> first | rfl | (simp only at *; omega) | omega), by simp; omega⟩, (by simp only; omega), ?_⟩; refine Le.mk [(0, 2)] ⟨(by first | exact ⟨SLe.eq rfl, rfl⟩ | exact rfl | exact ⟨SLe.nil rfl, rfl⟩ | exact ⟨SLe.int rfl (by omega), rfl⟩ | exact ⟨SLe.bool rfl (by simp_all), rfl⟩ | exact ⟨SLe.sl rfl (by simp_all), rfl⟩), (by first | exact ⟨SLe.eq rfl, rfl⟩ | exact rfl | exact ⟨SLe.nil rfl, rfl⟩ | exact ⟨SLe.int rfl (by omega), rfl⟩ | exact ⟨SLe.bool rfl (by simp_all), rfl⟩ | exact ⟨SLe.sl rfl (by simp_all), rfl⟩), (by first | exact ⟨SLe.eq rfl, rfl⟩ | exact rfl | exact ⟨SLe.nil rfl, rfl⟩ | exact ⟨SLe.int rfl (by omega), rfl⟩ | exact ⟨SLe.bool rfl (by simp_all), rfl⟩ | exact ⟨SLe.sl rfl (by simp_all), rfl⟩), trivial⟩ trivial ⟨⟨_, rfl, (by symm; exact (rr_snoc _ _).symm)⟩, trivial⟩ rfl rfl rfl rfl rfl)
        · skip
          have hk1 := of_decide_eq_false hb
          refine AC.skip ?_
          refine thenQ_normal ?_
          refine AC.region ?_
          first | refine AO.pure (PureOp.moveD (SLe.eq rfl)) rfl rfl ?_ | refine AO.pure (PureOp.moveB (SLe.eq rfl)) rfl rfl ?_ | refine AO.pure (PureOp.moveT (SLe.eq rfl)) rfl rfl ?_ | refine AO.pure (PureOp.moveO (SLe.eq rfl)) rfl rfl ?_ | refine AO.pure (PureOp.moveP (SLe.eq rfl)) rfl rfl ?_ | refine AO.pure (PureOp.moveA (SLe.eq rfl)) rfl rfl ?_
          first | refine AO.pure (PureOp.loadBN (sz := 7) (SLe.eq rfl) rfl rfl rfl rfl (by kernel_rfl)) rfl rfl ?_ | refine AO.pure (PureOp.loadN (sz := 7) (SLe.eq rfl) rfl rfl (by kernel_rfl)) rfl rfl ?_ | refine AO.pure (PureOp.loadON (sz := 7) (i := _) (SLe.eq rfl) rfl rfl (by assumption) rfl (by kernel_rfl)) rfl rfl ?_ | refine AO.pure (PureOp.loadBS (sz := 7) (SLe.eq rfl) rfl rfl rfl (by kernel_rfl)) rfl rfl ?_
          refine AO.pure (PureOp.buildSlice (e := 78) (sz := 7) (z := .agg #[.int .i64 0, .int .i64 0, .int .i64 0, .int .i64 0, .int .i64 0, .int .i64 0, .int .i64 0]) (by kernel_rfl) (by kernel_rfl) rfl rfl rfl (.cons (SLe.eq rfl) rfl .nil) rfl rfl rfl rfl) rfl rfl ?_
          refine AO.append (e := 78) (sz := 7) (bs := 56) (SLe.eq rfl) rfl (by first | exact SLe.eq rfl | exact SLe.nil rfl) (by kernel_rfl) (by simp only [List.length_cons, List.length_nil]; omega) rfl ?_
          first | refine AO.pure (PureOp.assignD (SLe.eq rfl)) rfl rfl ?_ | refine AO.pure (PureOp.assignB (SLe.eq rfl)) rfl rfl ?_ | refine AO.pure (PureOp.assignT (SLe.eq rfl)) rfl rfl ?_ | refine AO.pure (PureOp.assignO (SLe.eq rfl)) rfl rfl ?_ | refine AO.pure (PureOp.assignP (SLe.eq rfl)) rfl rfl ?_ | refine AO.pure (PureOp.assignA (SLe.eq rfl)) rfl rfl ?_
          refine AO.nil ?_
          refine blockQ_normal ?_
          refine thenQ_normal ?_
          refine AC.region ?_
          first | refine AO.pure (PureOp.moveD (SLe.eq rfl)) rfl rfl ?_ | refine AO.pure (PureOp.moveB (SLe.eq rfl)) rfl rfl ?_ | refine AO.pure (PureOp.moveT (SLe.eq rfl)) rfl rfl ?_ | refine AO.pure (PureOp.moveO (SLe.eq rfl)) rfl rfl ?_ | refine AO.pure (PureOp.moveP (SLe.eq rfl)) rfl rfl ?_ | refine AO.pure (PureOp.moveA (SLe.eq rfl)) rfl rfl ?_
          refine AO.pure (PureOp.sub (SLe.eq rfl) (SLe.eq rfl) (by omega) (by omega)) rfl rfl ?_
          first | refine AO.pure (PureOp.assignD (SLe.eq rfl)) rfl rfl ?_ | refine AO.pure (PureOp.assignB (SLe.eq rfl)) rfl rfl ?_ | refine AO.pure (PureOp.assignT (SLe.eq rfl)) rfl rfl ?_ | refine AO.pure (PureOp.assignO (SLe.eq rfl)) rfl rfl ?_ | refine AO.pure (PureOp.assignP (SLe.eq rfl)) rfl rfl ?_ | refine AO.pure (PureOp.assignA (SLe.eq rfl)) rfl rfl ?_
          refine AO.nil ?_
          refine thenQ_normal ?_
          first | (refine ⟨(l ++ [⟨1 + ((rr l).length : Int), z2, z3, z4, z5, ma, mb⟩], n - 1), ⟨hin.snoc (by simp only [rr_length]) (by refine ⟨?_, ?_, ?_, ?_, ?_, ?_, ?_, ?_, fun h => ?_, fun h => ⟨?_, ?_⟩, fun h => ⟨?_, ?_, ?_, ?_⟩⟩ <;> first | rfl | (simp only at *; omega) | omega), by simp; omega⟩, (by simp only; omega), ?_⟩; refine Le.mk [(0, 2)] ⟨(by first | exact ⟨SLe.eq rfl, rfl⟩ | exact rfl | exact ⟨SLe.nil rfl, rfl⟩ | exact ⟨SLe.int rfl (by omega), rfl⟩ | exact ⟨SLe.bool rfl (by simp_all), rfl⟩ | exact ⟨SLe.sl rfl (by simp_all), rfl⟩), (by first | exact ⟨SLe.eq rfl, rfl⟩ | exact rfl | exact ⟨SLe.nil rfl, rfl⟩ | exact ⟨SLe.int rfl (by omega), rfl⟩ | exact ⟨SLe.bool rfl (by simp_all), rfl⟩ | exact ⟨SLe.sl rfl (by simp_all), rfl⟩), (by first | exact ⟨SLe.eq rfl, rfl⟩ | exact rfl | exact ⟨SLe.nil rfl, rfl⟩ | exact ⟨SLe.int rfl (by omega), rfl⟩ | exact ⟨SLe.bool rfl (by simp_all), rfl⟩ | exact ⟨SLe.sl rfl (by simp_all), rfl⟩), trivial⟩ trivial ⟨⟨_, rfl, (by symm; exact (rr_snoc _ _).symm)⟩, trivial⟩ rfl rfl rfl rfl rfl) | (refine ⟨(l ++ [⟨1 + ((rr l).length : Int), z2, z3, z4, z5, 0, 0⟩], n - 1), ⟨hin.snoc (by simp only [rr_length]) (by refine ⟨?_, ?_, ?_, ?_, ?_, ?_, ?_, ?_, fun h => ?_, fun h => ⟨?_, ?_⟩, fun h => ⟨?_, ?_, ?_, ?_⟩⟩ <;> first | rfl | (simp only at *; omega) | omega), by simp; omega⟩, (by simp only; omega), ?_⟩; refine Le.mk [(0, 2)] ⟨(by first | exact ⟨SLe.eq rfl, rfl⟩ | exact rfl | exact ⟨SLe.nil rfl, rfl⟩ | exact ⟨SLe.int rfl (by omega), rfl⟩ | exact ⟨SLe.bool rfl (by simp_all), rfl⟩ | exact ⟨SLe.sl rfl (by simp_all), rfl⟩), (by first | exact ⟨SLe.eq rfl, rfl⟩ | exact rfl | exact ⟨SLe.nil rfl, rfl⟩ | exact ⟨SLe.int rfl (by omega), rfl⟩ | exact ⟨SLe.bool rfl (by simp_all), rfl⟩ | exact ⟨SLe.sl rfl (by simp_all), rfl⟩), (by first | exact ⟨SLe.eq rfl, rfl⟩ | exact rfl | exact ⟨SLe.nil rfl, rfl⟩ | exact ⟨SLe.int rfl (by omega), rfl⟩ | exact ⟨SLe.bool rfl (by simp_all), rfl⟩ | exact ⟨SLe.sl rfl (by simp_all), rfl⟩), trivial⟩ trivial ⟨⟨_, rfl, (by symm; exact (rr_snoc _ _).symm)⟩, trivial⟩ rfl rfl rfl rfl rfl) | (refine ⟨(l ++ [⟨1 + ((rr l).length : Int), z2, z3, 4, 0, ma, mb⟩], n - 1), ⟨hin.snoc (by simp only [rr_length]) (by refine ⟨?_, ?_, ?_, ?_, ?_, ?_, ?_, ?_, fun h => ?_, fun h => ⟨?_, ?_⟩, fun h => ⟨?_, ?_, ?_, ?_⟩⟩ <;> first | rfl | (simp only at *; omega) | omega), by simp; omega⟩, (by simp only; omega), ?_⟩; refine Le.mk [(0, 2)] ⟨(by first | exact ⟨SLe.eq rfl, rfl⟩ | exact rfl | exact ⟨SLe.nil rfl, rfl⟩ | exact ⟨SLe.int rfl (by omega), rfl⟩ | exact ⟨SLe.bool rfl (by simp_all), rfl⟩ | exact ⟨SLe.sl rfl (by simp_all), rfl⟩), (by first | exact ⟨SLe.eq rfl, rfl⟩ | exact rfl | exact ⟨SLe.nil rfl, rfl⟩ | exact ⟨SLe.int rfl (by omega), rfl⟩ | exact ⟨SLe.bool rfl (by simp_all), rfl⟩ | exact ⟨SLe.sl rfl (by simp_all), rfl⟩), (by first | exact ⟨SLe.eq rfl, rfl⟩ | exact rfl | exact ⟨SLe.nil rfl, rfl⟩ | exact ⟨SLe.int rfl (by omega), rfl⟩ | exact ⟨SLe.bool rfl (by simp_all), rfl⟩ | exact ⟨SLe.sl rfl (by simp_all), rfl⟩), trivial⟩ trivial ⟨⟨_, rfl, (by symm; exact (rr_snoc _ _).symm)⟩, trivial⟩ rfl rfl rfl rfl rfl) | (refine ⟨(l ++ [⟨1 + ((rr l).length : Int), z2, z3, 4, 0, 0, 0⟩], n - 1), ⟨hin.snoc (by simp only [rr_length]) (by refine ⟨?_, ?_, ?_, ?_, ?_, ?_, ?_, ?_, fun h => ?_, fun h => ⟨?_, ?_⟩, fun h => ⟨?_, ?_, ?_, ?_⟩⟩ <;> first | rfl | (simp only at *; omega) | omega), by simp; omega⟩, (by simp only; omega), ?_⟩; refine Le.mk [(0, 2)] ⟨(by first | exact ⟨SLe.eq rfl, rfl⟩ | exact rfl | exact ⟨SLe.nil rfl, rfl⟩ | exact ⟨SLe.int rfl (by omega), rfl⟩ | exact ⟨SLe.bool rfl (by simp_all), rfl⟩ | exact ⟨SLe.sl rfl (by simp_all), rfl⟩), (by first | exact ⟨SLe.eq rfl, rfl⟩ | exact rfl | exact ⟨SLe.nil rfl, rfl⟩ | exact ⟨SLe.int rfl (by omega), rfl⟩ | exact ⟨SLe.bool rfl (by simp_all), rfl⟩ | exact ⟨SLe.sl rfl (by simp_all), rfl⟩), (by first | exact ⟨SLe.eq rfl, rfl⟩ | exact rfl | exact ⟨SLe.nil rfl, rfl⟩ | exact ⟨SLe.int rfl (by omega), rfl⟩ | exact ⟨SLe.bool rfl (by simp_all), rfl⟩ | exact ⟨SLe.sl rfl (by simp_all), rfl⟩), trivial⟩ trivial ⟨⟨_, rfl, (by symm; exact (rr_snoc _ _).symm)⟩, trivial⟩ rfl rfl rfl rfl rfl)
      · skip
        refine AC.skip ?_
        refine thenQ_normal ?_
        refine AC.seq ?_
        refine AC.seq ?_
        refine AC.region ?_
        first | refine AO.pure (PureOp.fldB (k := 3) (SLe.eq rfl) (by kernel_rfl)) rfl rfl ?_ | refine AO.pure (PureOp.fld (k := 3) (SLe.eq rfl) (by kernel_rfl)) rfl rfl ?_ | refine AO.pure (PureOp.fldO (k := 3) (SLe.eq rfl) (by kernel_rfl)) rfl rfl ?_
        first | refine AO.pure (PureOp.loadB1 (SLe.eq rfl) rfl rfl (by kernel_rfl)) rfl rfl ?_ | refine AO.pure (PureOp.load1 (SLe.eq rfl) rfl (by kernel_rfl)) rfl rfl ?_ | refine AO.pure (PureOp.loadO1 (i := _) (j := _) (SLe.eq rfl) rfl rfl (by assumption) rfl (by kernel_rfl)) rfl rfl ?_
        refine AO.pure (PureOp.eql (SLe.eq rfl) (SLe.eq rfl)) rfl rfl ?_
        refine AO.nil ?_
        refine thenQ_normal ?_
        refine AC.cond (SLe.eq rfl) (fun hb => ?_) (fun hb => ?_)
        · skip
          have hk1 := of_decide_eq_true hb
          refine AC.region ?_
          first | refine AO.pure (PureOp.moveD (SLe.eq rfl)) rfl rfl ?_ | refine AO.pure (PureOp.moveB (SLe.eq rfl)) rfl rfl ?_ | refine AO.pure (PureOp.moveT (SLe.eq rfl)) rfl rfl ?_ | refine AO.pure (PureOp.moveO (SLe.eq rfl)) rfl rfl ?_ | refine AO.pure (PureOp.moveP (SLe.eq rfl)) rfl rfl ?_ | refine AO.pure (PureOp.moveA (SLe.eq rfl)) rfl rfl ?_
          refine AO.tcall (.tp (SLe.eq rfl) (.cons (SLe.eq rfl) (by first | exact .d _ | exact View.osr rfl rfl | exact .bx rfl rfl | exact .agg (by repeat (first | exact .nil | refine .cons (by first | exact .d _ | exact View.osr rfl rfl) ?_)) | exact .fn (by repeat (first | exact .nil | refine .cons (by first | exact .d _ | exact View.osr rfl rfl | exact .bx rfl rfl) ?_))) .nil)) (measured_c _ (by omega) (by omega)) rfl (by kernel_rfl) rfl ?_
          rintro _ ⟨ma, mb, rfl, hm1, hm2, hm3, hm4⟩
          first | refine AO.pure (PureOp.fldB (k := 5) (SLe.eq rfl) (by kernel_rfl)) rfl rfl ?_ | refine AO.pure (PureOp.fld (k := 5) (SLe.eq rfl) (by kernel_rfl)) rfl rfl ?_ | refine AO.pure (PureOp.fldO (k := 5) (SLe.eq rfl) (by kernel_rfl)) rfl rfl ?_
          refine AO.store (SLe.eq rfl) (SLe.eq rfl) rfl rfl rfl rfl rfl (by kernel_rfl) rfl rfl ?_
          refine AO.nil ?_
          refine thenQ_normal ?_
          refine AC.region ?_
          first | refine AO.pure (PureOp.moveD (SLe.eq rfl)) rfl rfl ?_ | refine AO.pure (PureOp.moveB (SLe.eq rfl)) rfl rfl ?_ | refine AO.pure (PureOp.moveT (SLe.eq rfl)) rfl rfl ?_ | refine AO.pure (PureOp.moveO (SLe.eq rfl)) rfl rfl ?_ | refine AO.pure (PureOp.moveP (SLe.eq rfl)) rfl rfl ?_ | refine AO.pure (PureOp.moveA (SLe.eq rfl)) rfl rfl ?_
          first | refine AO.pure (PureOp.loadBN (sz := 7) (SLe.eq rfl) rfl rfl rfl rfl (by kernel_rfl)) rfl rfl ?_ | refine AO.pure (PureOp.loadN (sz := 7) (SLe.eq rfl) rfl rfl (by kernel_rfl)) rfl rfl ?_ | refine AO.pure (PureOp.loadON (sz := 7) (i := _) (SLe.eq rfl) rfl rfl (by assumption) rfl (by kernel_rfl)) rfl rfl ?_ | refine AO.pure (PureOp.loadBS (sz := 7) (SLe.eq rfl) rfl rfl rfl (by kernel_rfl)) rfl rfl ?_
          refine AO.pure (PureOp.buildSlice (e := 78) (sz := 7) (z := .agg #[.int .i64 0, .int .i64 0, .int .i64 0, .int .i64 0, .int .i64 0, .int .i64 0, .int .i64 0]) (by kernel_rfl) (by kernel_rfl) rfl rfl rfl (.cons (SLe.eq rfl) rfl .nil) rfl rfl rfl rfl) rfl rfl ?_
          refine AO.append (e := 78) (sz := 7) (bs := 56) (SLe.eq rfl) rfl (by first | exact SLe.eq rfl | exact SLe.nil rfl) (by kernel_rfl) (by simp only [List.length_cons, List.length_nil]; omega) rfl ?_
          first | refine AO.pure (PureOp.assignD (SLe.eq rfl)) rfl rfl ?_ | refine AO.pure (PureOp.assignB (SLe.eq rfl)) rfl rfl ?_ | refine AO.pure (PureOp.assignT (SLe.eq rfl)) rfl rfl ?_ | refine AO.pure (PureOp.assignO (SLe.eq rfl)) rfl rfl ?_ | refine AO.pure (PureOp.assignP (SLe.eq rfl)) rfl rfl ?_ | refine AO.pure (PureOp.assignA (SLe.eq rfl)) rfl rfl ?_
          refine AO.nil ?_
          refine blockQ_normal ?_
          refine thenQ_normal ?_
          refine AC.region ?_
          first | refine AO.pure (PureOp.moveD (SLe.eq rfl)) rfl rfl ?_ | refine AO.pure (PureOp.moveB (SLe.eq rfl)) rfl rfl ?_ | refine AO.pure (PureOp.moveT (SLe.eq rfl)) rfl rfl ?_ | refine AO.pure (PureOp.moveO (SLe.eq rfl)) rfl rfl ?_ | refine AO.pure (PureOp.moveP (SLe.eq rfl)) rfl rfl ?_ | refine AO.pure (PureOp.moveA (SLe.eq rfl)) rfl rfl ?_
          refine AO.pure (PureOp.sub (SLe.eq rfl) (SLe.eq rfl) (by omega) (by omega)) rfl rfl ?_
          first | refine AO.pure (PureOp.assignD (SLe.eq rfl)) rfl rfl ?_ | refine AO.pure (PureOp.assignB (SLe.eq rfl)) rfl rfl ?_ | refine AO.pure (PureOp.assignT (SLe.eq rfl)) rfl rfl ?_ | refine AO.pure (PureOp.assignO (SLe.eq rfl)) rfl rfl ?_ | refine AO.pure (PureOp.assignP (SLe.eq rfl)) rfl rfl ?_ | refine AO.pure (PureOp.assignA (SLe.eq rfl)) rfl rfl ?_
          refine AO.nil ?_
          refine thenQ_normal ?_
          first | (refine ⟨(l ++ [⟨1 + ((rr l).length : Int), z2, z3, z4, z5, ma, mb⟩], n - 1), ⟨hin.snoc (by simp only [rr_length]) (by refine ⟨?_, ?_, ?_, ?_, ?_, ?_, ?_, ?_, fun h => ?_, fun h => ⟨?_, ?_⟩, fun h => ⟨?_, ?_, ?_, ?_⟩⟩ <;> first | rfl | (simp only at *; omega) | omega), by simp; omega⟩, (by simp only; omega), ?_⟩; refine Le.mk [(0, 2)] ⟨(by first | exact ⟨SLe.eq rfl, rfl⟩ | exact rfl | exact ⟨SLe.nil rfl, rfl⟩ | exact ⟨SLe.int rfl (by omega), rfl⟩ | exact ⟨SLe.bool rfl (by simp_all), rfl⟩ | exact ⟨SLe.sl rfl (by simp_all), rfl⟩), (by first | exact ⟨SLe.eq rfl, rfl⟩ | exact rfl | exact ⟨SLe.nil rfl, rfl⟩ | exact ⟨SLe.int rfl (by omega), rfl⟩ | exact ⟨SLe.bool rfl (by simp_all), rfl⟩ | exact ⟨SLe.sl rfl (by simp_all), rfl⟩), (by first | exact ⟨SLe.eq rfl, rfl⟩ | exact rfl | exact ⟨SLe.nil rfl, rfl⟩ | exact ⟨SLe.int rfl (by omega), rfl⟩ | exact ⟨SLe.bool rfl (by simp_all), rfl⟩ | exact ⟨SLe.sl rfl (by simp_all), rfl⟩), trivial⟩ trivial ⟨⟨_, rfl, (by symm; exact (rr_snoc _ _).symm)⟩, trivial⟩ rfl rfl rfl rfl rfl) | (refine ⟨(l ++ [⟨1 + ((rr l).length : Int), z2, z3, z4, z5, 0, 0⟩], n - 1), ⟨hin.snoc (by simp only [rr_length]) (by refine ⟨?_, ?_, ?_, ?_, ?_, ?_, ?_, ?_, fun h => ?_, fun h => ⟨?_, ?_⟩, fun h => ⟨?_, ?_, ?_, ?_⟩⟩ <;> first | rfl | (simp only at *; omega) | omega), by simp; omega⟩, (by simp only; omega), ?_⟩; refine Le.mk [(0, 2)] ⟨(by first | exact ⟨SLe.eq rfl, rfl⟩ | exact rfl | exact ⟨SLe.nil rfl, rfl⟩ | exact ⟨SLe.int rfl (by omega), rfl⟩ | exact ⟨SLe.bool rfl (by simp_all), rfl⟩ | exact ⟨SLe.sl rfl (by simp_all), rfl⟩), (by first | exact ⟨SLe.eq rfl, rfl⟩ | exact rfl | exact ⟨SLe.nil rfl, rfl⟩ | exact ⟨SLe.int rfl (by omega), rfl⟩ | exact ⟨SLe.bool rfl (by simp_all), rfl⟩ | exact ⟨SLe.sl rfl (by simp_all), rfl⟩), (by first | exact ⟨SLe.eq rfl, rfl⟩ | exact rfl | exact ⟨SLe.nil rfl, rfl⟩ | exact ⟨SLe.int rfl (by omega), rfl⟩ | exact ⟨SLe.bool rfl (by simp_all), rfl⟩ | exact ⟨SLe.sl rfl (by simp_all), rfl⟩), trivial⟩ trivial ⟨⟨_, rfl, (by symm; exact (rr_snoc _ _).symm)⟩, trivial⟩ rfl rfl rfl rfl rfl) | (refine ⟨(l ++ [⟨1 + ((rr l).length : Int), z2, z3, 4, 0, ma, mb⟩], n - 1), ⟨hin.snoc (by simp only [rr_length]) (by refine ⟨?_, ?_, ?_, ?_, ?_, ?_, ?_, ?_, fun h => ?_, fun h => ⟨?_, ?_⟩, fun h => ⟨?_, ?_, ?_, ?_⟩⟩ <;> first | rfl | (simp only at *; omega) | omega), by simp; omega⟩, (by simp only; omega), ?_⟩; refine Le.mk [(0, 2)] ⟨(by first | exact ⟨SLe.eq rfl, rfl⟩ | exact rfl | exact ⟨SLe.nil rfl, rfl⟩ | exact ⟨SLe.int rfl (by omega), rfl⟩ | exact ⟨SLe.bool rfl (by simp_all), rfl⟩ | exact ⟨SLe.sl rfl (by simp_all), rfl⟩), (by first | exact ⟨SLe.eq rfl, rfl⟩ | exact rfl | exact ⟨SLe.nil rfl, rfl⟩ | exact ⟨SLe.int rfl (by omega), rfl⟩ | exact ⟨SLe.bool rfl (by simp_all), rfl⟩ | exact ⟨SLe.sl rfl (by simp_all), rfl⟩), (by first | exact ⟨SLe.eq rfl, rfl⟩ | exact rfl | exact ⟨SLe.nil rfl, rfl⟩ | exact ⟨SLe.int rfl (by omega), rfl⟩ | exact ⟨SLe.bool rfl (by simp_all), rfl⟩ | exact ⟨SLe.sl rfl (by simp_all), rfl⟩), trivial⟩ trivial ⟨⟨_, rfl, (by symm; exact (rr_snoc _ _).symm)⟩, trivial⟩ rfl rfl rfl rfl rfl) | (refine ⟨(l ++ [⟨1 + ((rr l).length : Int), z2, z3, 4, 0, 0, 0⟩], n - 1), ⟨hin.snoc (by simp only [rr_length]) (by refine ⟨?_, ?_, ?_, ?_, ?_, ?_, ?_, ?_, fun h => ?_, fun h => ⟨?_, ?_⟩, fun h => ⟨?_, ?_, ?_, ?_⟩⟩ <;> first | rfl | (simp only at *; omega) | omega), by simp; omega⟩, (by simp only; omega), ?_⟩; refine Le.mk [(0, 2)] ⟨(by first | exact ⟨SLe.eq rfl, rfl⟩ | exact rfl | exact ⟨SLe.nil rfl, rfl⟩ | exact ⟨SLe.int rfl (by omega), rfl⟩ | exact ⟨SLe.bool rfl (by simp_all), rfl⟩ | exact ⟨SLe.sl rfl (by simp_all), rfl⟩), (by first | exact ⟨SLe.eq rfl, rfl⟩ | exact rfl | exact ⟨SLe.nil rfl, rfl⟩ | exact ⟨SLe.int rfl (by omega), rfl⟩ | exact ⟨SLe.bool rfl (by simp_all), rfl⟩ | exact ⟨SLe.sl rfl (by simp_all), rfl⟩), (by first | exact ⟨SLe.eq rfl, rfl⟩ | exact rfl | exact ⟨SLe.nil rfl, rfl⟩ | exact ⟨SLe.int rfl (by omega), rfl⟩ | exact ⟨SLe.bool rfl (by simp_all), rfl⟩ | exact ⟨SLe.sl rfl (by simp_all), rfl⟩), trivial⟩ trivial ⟨⟨_, rfl, (by symm; exact (rr_snoc _ _).symm)⟩, trivial⟩ rfl rfl rfl rfl rfl)
        · skip
          have hk1 := of_decide_eq_false hb
          refine AC.skip ?_
          refine thenQ_normal ?_
          refine AC.region ?_
          first | refine AO.pure (PureOp.moveD (SLe.eq rfl)) rfl rfl ?_ | refine AO.pure (PureOp.moveB (SLe.eq rfl)) rfl rfl ?_ | refine AO.pure (PureOp.moveT (SLe.eq rfl)) rfl rfl ?_ | refine AO.pure (PureOp.moveO (SLe.eq rfl)) rfl rfl ?_ | refine AO.pure (PureOp.moveP (SLe.eq rfl)) rfl rfl ?_ | refine AO.pure (PureOp.moveA (SLe.eq rfl)) rfl rfl ?_
          first | refine AO.pure (PureOp.loadBN (sz := 7) (SLe.eq rfl) rfl rfl rfl rfl (by kernel_rfl)) rfl rfl ?_ | refine AO.pure (PureOp.loadN (sz := 7) (SLe.eq rfl) rfl rfl (by kernel_rfl)) rfl rfl ?_ | refine AO.pure (PureOp.loadON (sz := 7) (i := _) (SLe.eq rfl) rfl rfl (by assumption) rfl (by kernel_rfl)) rfl rfl ?_ | refine AO.pure (PureOp.loadBS (sz := 7) (SLe.eq rfl) rfl rfl rfl (by kernel_rfl)) rfl rfl ?_
          refine AO.pure (PureOp.buildSlice (e := 78) (sz := 7) (z := .agg #[.int .i64 0, .int .i64 0, .int .i64 0, .int .i64 0, .int .i64 0, .int .i64 0, .int .i64 0]) (by kernel_rfl) (by kernel_rfl) rfl rfl rfl (.cons (SLe.eq rfl) rfl .nil) rfl rfl rfl rfl) rfl rfl ?_
          refine AO.append (e := 78) (sz := 7) (bs := 56) (SLe.eq rfl) rfl (by first | exact SLe.eq rfl | exact SLe.nil rfl) (by kernel_rfl) (by simp only [List.length_cons, List.length_nil]; omega) rfl ?_
          first | refine AO.pure (PureOp.assignD (SLe.eq rfl)) rfl rfl ?_ | refine AO.pure (PureOp.assignB (SLe.eq rfl)) rfl rfl ?_ | refine AO.pure (PureOp.assignT (SLe.eq rfl)) rfl rfl ?_ | refine AO.pure (PureOp.assignO (SLe.eq rfl)) rfl rfl ?_ | refine AO.pure (PureOp.assignP (SLe.eq rfl)) rfl rfl ?_ | refine AO.pure (PureOp.assignA (SLe.eq rfl)) rfl rfl ?_
          refine AO.nil ?_
          refine blockQ_normal ?_
          refine thenQ_normal ?_
          refine AC.region ?_
          first | refine AO.pure (PureOp.moveD (SLe.eq rfl)) rfl rfl ?_ | refine AO.pure (PureOp.moveB (SLe.eq rfl)) rfl rfl ?_ | refine AO.pure (PureOp.moveT (SLe.eq rfl)) rfl rfl ?_ | refine AO.pure (PureOp.moveO (SLe.eq rfl)) rfl rfl ?_ | refine AO.pure (PureOp.moveP (SLe.eq rfl)) rfl rfl ?_ | refine AO.pure (PureOp.moveA (SLe.eq rfl)) rfl rfl ?_
          refine AO.pure (PureOp.sub (SLe.eq rfl) (SLe.eq rfl) (by omega) (by omega)) rfl rfl ?_
          first | refine AO.pure (PureOp.assignD (SLe.eq rfl)) rfl rfl ?_ | refine AO.pure (PureOp.assignB (SLe.eq rfl)) rfl rfl ?_ | refine AO.pure (PureOp.assignT (SLe.eq rfl)) rfl rfl ?_ | refine AO.pure (PureOp.assignO (SLe.eq rfl)) rfl rfl ?_ | refine AO.pure (PureOp.assignP (SLe.eq rfl)) rfl rfl ?_ | refine AO.pure (PureOp.assignA (SLe.eq rfl)) rfl rfl ?_
          refine AO.nil ?_
          refine thenQ_normal ?_
          first | (refine ⟨(l ++ [⟨1 + ((rr l).length : Int), z2, z3, z4, z5, ma, mb⟩], n - 1), ⟨hin.snoc (by simp only [rr_length]) (by refine ⟨?_, ?_, ?_, ?_, ?_, ?_, ?_, ?_, fun h => ?_, fun h => ⟨?_, ?_⟩, fun h => ⟨?_, ?_, ?_, ?_⟩⟩ <;> first | rfl | (simp only at *; omega) | omega), by simp; omega⟩, (by simp only; omega), ?_⟩; refine Le.mk [(0, 2)] ⟨(by first | exact ⟨SLe.eq rfl, rfl⟩ | exact rfl | exact ⟨SLe.nil rfl, rfl⟩ | exact ⟨SLe.int rfl (by omega), rfl⟩ | exact ⟨SLe.bool rfl (by simp_all), rfl⟩ | exact ⟨SLe.sl rfl (by simp_all), rfl⟩), (by first | exact ⟨SLe.eq rfl, rfl⟩ | exact rfl | exact ⟨SLe.nil rfl, rfl⟩ | exact ⟨SLe.int rfl (by omega), rfl⟩ | exact ⟨SLe.bool rfl (by simp_all), rfl⟩ | exact ⟨SLe.sl rfl (by simp_all), rfl⟩), (by first | exact ⟨SLe.eq rfl, rfl⟩ | exact rfl | exact ⟨SLe.nil rfl, rfl⟩ | exact ⟨SLe.int rfl (by omega), rfl⟩ | exact ⟨SLe.bool rfl (by simp_all), rfl⟩ | exact ⟨SLe.sl rfl (by simp_all), rfl⟩), trivial⟩ trivial ⟨⟨_, rfl, (by symm; exact (rr_snoc _ _).symm)⟩, trivial⟩ rfl rfl rfl rfl rfl) | (refine ⟨(l ++ [⟨1 + ((rr l).length : Int), z2, z3, z4, z5, 0, 0⟩], n - 1), ⟨hin.snoc (by simp only [rr_length]) (by refine ⟨?_, ?_, ?_, ?_, ?_, ?_, ?_, ?_, fun h => ?_, fun h => ⟨?_, ?_⟩, fun h => ⟨?_, ?_, ?_, ?_⟩⟩ <;> first | rfl | (simp only at *; omega) | omega), by simp; omega⟩, (by simp only; omega), ?_⟩; refine Le.mk [(0, 2)] ⟨(by first | exact ⟨SLe.eq rfl, rfl⟩ | exact rfl | exact ⟨SLe.nil rfl, rfl⟩ | exact ⟨SLe.int rfl (by omega), rfl⟩ | exact ⟨SLe.bool rfl (by simp_all), rfl⟩ | exact ⟨SLe.sl rfl (by simp_all), rfl⟩), (by first | exact ⟨SLe.eq rfl, rfl⟩ | exact rfl | exact ⟨SLe.nil rfl, rfl⟩ | exact ⟨SLe.int rfl (by omega), rfl⟩ | exact ⟨SLe.bool rfl (by simp_all), rfl⟩ | exact ⟨SLe.sl rfl (by simp_all), rfl⟩), (by first | exact ⟨SLe.eq rfl, rfl⟩ | exact rfl | exact ⟨SLe.nil rfl, rfl⟩ | exact ⟨SLe.int rfl (by omega), rfl⟩ | exact ⟨SLe.bool rfl (by simp_all), rfl⟩ | exact ⟨SLe.sl rfl (by simp_all), rfl⟩), trivial⟩ trivial ⟨⟨_, rfl, (by symm; exact (rr_snoc _ _).symm)⟩, trivial⟩ rfl rfl rfl rfl rfl) | (refine ⟨(l ++ [⟨1 + ((rr l).length : Int), z2, z3, 4, 0, ma, mb⟩], n - 1), ⟨hin.snoc (by simp only [rr_length]) (by refine ⟨?_, ?_, ?_, ?_, ?_, ?_, ?_, ?_, fun h => ?_, fun h => ⟨?_, ?_⟩, fun h => ⟨?_, ?_, ?_, ?_⟩⟩ <;> first | rfl | (simp only at *; omega) | omega), by simp; omega⟩, (by simp only; omega), ?_⟩; refine Le.mk [(0, 2)] ⟨(by first | exact ⟨SLe.eq rfl, rfl⟩ | exact rfl | exact ⟨SLe.nil rfl, rfl⟩ | exact ⟨SLe.int rfl (by omega), rfl⟩ | exact ⟨SLe.bool rfl (by simp_all), rfl⟩ | exact ⟨SLe.sl rfl (by simp_all), rfl⟩), (by first | exact ⟨SLe.eq rfl, rfl⟩ | exact rfl | exact ⟨SLe.nil rfl, rfl⟩ | exact ⟨SLe.int rfl (by omega), rfl⟩ | exact ⟨SLe.bool rfl (by simp_all), rfl⟩ | exact ⟨SLe.sl rfl (by simp_all), rfl⟩), (by first | exact ⟨SLe.eq rfl, rfl⟩ | exact rfl | exact ⟨SLe.nil rfl, rfl⟩ | exact ⟨SLe.int rfl (by omega), rfl⟩ | exact ⟨SLe.bool rfl (by simp_all), rfl⟩ | exact ⟨SLe.sl rfl (by simp_all), rfl⟩), trivial⟩ trivial ⟨⟨_, rfl, (by symm; exact (rr_snoc _ _).symm)⟩, trivial⟩ rfl rfl rfl rfl rfl) | (refine ⟨(l ++ [⟨1 + ((rr l).length : Int), z2, z3, 4, 0, 0, 0⟩], n - 1), ⟨hin.snoc (by simp only [rr_length]) (by refine ⟨?_, ?_, ?_, ?_, ?_, ?_, ?_, ?_, fun h => ?_, fun h => ⟨?_, ?_⟩, fun h => ⟨?_, ?_, ?_, ?_⟩⟩ <;> first | rfl | (simp only at *; omega) | omega), by simp; omega⟩, (by simp only; omega), ?_⟩; refine Le.mk [(0, 2)] ⟨(by first | exact ⟨SLe.eq rfl, rfl⟩ | exact rfl | exact ⟨SLe.nil rfl, rfl⟩ | exact ⟨SLe.int rfl (by omega), rfl⟩ | exact ⟨SLe.bool rfl (by simp_all), rfl⟩ | exact ⟨SLe.sl rfl (by simp_all), rfl⟩), (by first | exact ⟨SLe.eq rfl, rfl⟩ | exact rfl | exact ⟨SLe.nil rfl, rfl⟩ | exact ⟨SLe.int rfl (by omega), rfl⟩ | exact ⟨SLe.bool rfl (by simp_all), rfl⟩ | exact ⟨SLe.sl rfl (by simp_all), rfl⟩), (by first | exact ⟨SLe.eq rfl, rfl⟩ | exact rfl | exact ⟨SLe.nil rfl, rfl⟩ | exact ⟨SLe.int rfl (by omega), rfl⟩ | exact ⟨SLe.bool rfl (by simp_all), rfl⟩ | exact ⟨SLe.sl rfl (by simp_all), rfl⟩), trivial⟩ trivial ⟨⟨_, rfl, (by symm; exact (rr_snoc _ _).symm)⟩, trivial⟩ rfl rfl rfl rfl rfl)
    · skip
      refine AC.exit ?_
      refine thenQ_exit ?_
      refine thenQ_exit ?_
      refine blockQ_hit ?_
      refine thenQ_normal ?_
      refine AC.seq ?_
      refine AC.seq ?_
      refine AC.region ?_
      first | refine AO.pure (PureOp.moveD (SLe.eq rfl)) rfl rfl ?_ | refine AO.pure (PureOp.moveB (SLe.eq rfl)) rfl rfl ?_ | refine AO.pure (PureOp.moveT (SLe.eq rfl)) rfl rfl ?_ | refine AO.pure (PureOp.moveO (SLe.eq rfl)) rfl rfl ?_ | refine AO.pure (PureOp.moveP (SLe.eq rfl)) rfl rfl ?_ | refine AO.pure (PureOp.moveA (SLe.eq rfl)) rfl rfl ?_
      first | refine AO.pure (PureOp.len (e := 78) (s' := 7) (SLe.eq rfl) (by kernel_rfl)) rfl rfl ?_ | refine AO.pure (PureOp.lenR (e := 78) (s' := 7) (SLe.eq rfl) rfl rfl (by kernel_rfl)) rfl rfl ?_ | refine AO.pure (PureOp.lenNil (e := 78) (s' := 7) (SLe.eq rfl) (by kernel_rfl)) rfl rfl ?_
      first | refine AO.pure (PureOp.moveD (SLe.eq rfl)) rfl rfl ?_ | refine AO.pure (PureOp.moveB (SLe.eq rfl)) rfl rfl ?_ | refine AO.pure (PureOp.moveT (SLe.eq rfl)) rfl rfl ?_ | refine AO.pure (PureOp.moveO (SLe.eq rfl)) rfl rfl ?_ | refine AO.pure (PureOp.moveP (SLe.eq rfl)) rfl rfl ?_ | refine AO.pure (PureOp.moveA (SLe.eq rfl)) rfl rfl ?_
      refine AO.nil ?_
      refine thenQ_normal ?_
      refine AC.block ?_
      refine AC.loop (ι := List Rep × Nat) (fun q => ⟨[(0, .tp), (5, .os 0), (45, .d (iD ((rr l).length : Int))), (46, .d (iD (q.2 : Int)))], [], [(0, ⟨78, 7, rr q.1⟩)], 1, true, 69⟩) (fun q => RepOK most q.1 ∧ q.1.length = l.length ∧ q.2 ≤ l.length) (fun q => l.length - q.2) (l, 0) ?_ ⟨hin.ok (by omega), rfl, Nat.zero_le _⟩ ?_
      · refine Le.mk [(0, 0)] ⟨(by first | exact ⟨SLe.eq rfl, rfl⟩ | exact rfl | exact ⟨SLe.nil rfl, rfl⟩ | exact ⟨SLe.int rfl (by omega), rfl⟩ | exact ⟨SLe.bool rfl (by simp_all), rfl⟩ | exact ⟨SLe.sl rfl (by simp_all), rfl⟩), (by first | exact ⟨SLe.eq rfl, rfl⟩ | exact rfl | exact ⟨SLe.nil rfl, rfl⟩ | exact ⟨SLe.int rfl (by omega), rfl⟩ | exact ⟨SLe.bool rfl (by simp_all), rfl⟩ | exact ⟨SLe.sl rfl (by simp_all), rfl⟩), (by first | exact ⟨SLe.eq rfl, rfl⟩ | exact rfl | exact ⟨SLe.nil rfl, rfl⟩ | exact ⟨SLe.int rfl (by omega), rfl⟩ | exact ⟨SLe.bool rfl (by simp_all), rfl⟩ | exact ⟨SLe.sl rfl (by simp_all), rfl⟩), (by first | exact ⟨SLe.eq rfl, rfl⟩ | exact rfl | exact ⟨SLe.nil rfl, rfl⟩ | exact ⟨SLe.int rfl (by omega), rfl⟩ | exact ⟨SLe.bool rfl (by simp_all), rfl⟩ | exact ⟨SLe.sl rfl (by simp_all), rfl⟩), trivial⟩ trivial ⟨⟨_, rfl, rfl⟩, trivial⟩ rfl rfl rfl rfl rfl
      · rintro ⟨l2, i⟩ ⟨hok2, hlen2, hi2⟩
        dsimp only at hok2 hlen2 hi2 ⊢
        have hrl2 := rr_length l2
        refine AC.seq ?_
        refine AC.region ?_
        refine AO.pure (PureOp.lss (SLe.eq rfl) (SLe.eq rfl)) rfl rfl ?_
        refine AO.nil ?_
        refine thenQ_normal ?_
        refine AC.seq ?_
        refine AC.cond (SLe.eq rfl) (fun hb => ?_) (fun hb => ?_)
        · skip
          have hlt : i < l.length := by have := of_decide_eq_true hb; omega
          refine AC.skip ?_
          refine thenQ_normal ?_
          refine AC.seq ?_
          refine AC.block ?_
          refine AC.seq ?_
          refine AC.region ?_
          first | refine AO.pure (PureOp.moveD (SLe.eq rfl)) rfl rfl ?_ | refine AO.pure (PureOp.moveB (SLe.eq rfl)) rfl rfl ?_ | refine AO.pure (PureOp.moveT (SLe.eq rfl)) rfl rfl ?_ | refine AO.pure (PureOp.moveO (SLe.eq rfl)) rfl rfl ?_ | refine AO.pure (PureOp.moveP (SLe.eq rfl)) rfl rfl ?_ | refine AO.pure (PureOp.moveA (SLe.eq rfl)) rfl rfl ?_
          first | refine AO.pure (PureOp.assignD (SLe.eq rfl)) rfl rfl ?_ | refine AO.pure (PureOp.assignB (SLe.eq rfl)) rfl rfl ?_ | refine AO.pure (PureOp.assignT (SLe.eq rfl)) rfl rfl ?_ | refine AO.pure (PureOp.assignO (SLe.eq rfl)) rfl rfl ?_ | refine AO.pure (PureOp.assignP (SLe.eq rfl)) rfl rfl ?_ | refine AO.pure (PureOp.assignA (SLe.eq rfl)) rfl rfl ?_
          refine AO.nil ?_
          refine thenQ_normal ?_
          refine AC.seq ?_
          refine AC.region ?_
          first | refine AO.pure (PureOp.moveD (SLe.eq rfl)) rfl rfl ?_ | refine AO.pure (PureOp.moveB (SLe.eq rfl)) rfl rfl ?_ | refine AO.pure (PureOp.moveT (SLe.eq rfl)) rfl rfl ?_ | refine AO.pure (PureOp.moveO (SLe.eq rfl)) rfl rfl ?_ | refine AO.pure (PureOp.moveP (SLe.eq rfl)) rfl rfl ?_ | refine AO.pure (PureOp.moveA (SLe.eq rfl)) rfl rfl ?_
          first | refine AO.pure (PureOp.moveD (SLe.eq rfl)) rfl rfl ?_ | refine AO.pure (PureOp.moveB (SLe.eq rfl)) rfl rfl ?_ | refine AO.pure (PureOp.moveT (SLe.eq rfl)) rfl rfl ?_ | refine AO.pure (PureOp.moveO (SLe.eq rfl)) rfl rfl ?_ | refine AO.pure (PureOp.moveP (SLe.eq rfl)) rfl rfl ?_ | refine AO.pure (PureOp.moveA (SLe.eq rfl)) rfl rfl ?_
          refine AO.pure (PureOp.add (SLe.eq rfl) (SLe.eq rfl) (by omega) (by omega)) rfl rfl ?_
          refine AO.tcall (.tp (SLe.eq rfl) (.cons (SLe.eq rfl) (by first | exact .d _ | exact View.osr rfl rfl | exact .bx rfl rfl | exact .agg (by repeat (first | exact .nil | refine .cons (by first | exact .d _ | exact View.osr rfl rfl) ?_)) | exact .fn (by repeat (first | exact .nil | refine .cons (by first | exact .d _ | exact View.osr rfl rfl | exact .bx rfl rfl) ?_))) .nil)) (next_c _ (by omega)) rfl (by kernel_rfl) rfl ?_
          rintro _ ⟨zk, rfl, hzka, hzkb⟩
          have hkl : zk.toNat < l2.length := by omega
          obtain ⟨x, hx⟩ : ∃ x, l2[i]? = some x := ⟨_, List.getElem?_eq_getElem (by omega)⟩
          obtain ⟨y, hy⟩ : ∃ y, l2[zk.toNat]? = some y := ⟨_, List.getElem?_eq_getElem hkl⟩
          have hrx := rr_get hx
          have hry := rr_get hy
          obtain ⟨y2, hy2⟩ : ∃ y2, (l2.set i y)[zk.toNat]? = some y2 := ⟨_, List.getElem?_eq_getElem (by rw [List.length_set]; exact hkl)⟩
          have hry2 : ((rr l2).set i y.av)[zk.toNat]? = some y2.av := by rw [rr_set]; exact rr_get hy2
          first | refine AO.pure (PureOp.assignD (SLe.eq rfl)) rfl rfl ?_ | refine AO.pure (PureOp.assignB (SLe.eq rfl)) rfl rfl ?_ | refine AO.pure (PureOp.assignT (SLe.eq rfl)) rfl rfl ?_ | refine AO.pure (PureOp.assignO (SLe.eq rfl)) rfl rfl ?_ | refine AO.pure (PureOp.assignP (SLe.eq rfl)) rfl rfl ?_ | refine AO.pure (PureOp.assignA (SLe.eq rfl)) rfl rfl ?_
          refine AO.nil ?_
          refine thenQ_normal ?_
          -- DRAWN region 15
          refine AC.drawN 13 [2, 3] (by kernel_rfl) (by kernel_rfl) (by kernel_rfl) (by decide) (by kernel_rfl) ?_
          first | refine PSeqN.pure (PureOp.moveD (SLe.eq rfl)) rfl rfl ?_ | refine PSeqN.pure (PureOp.moveB (SLe.eq rfl)) rfl rfl ?_ | refine PSeqN.pure (PureOp.moveT (SLe.eq rfl)) rfl rfl ?_ | refine PSeqN.pure (PureOp.moveO (SLe.eq rfl)) rfl rfl ?_ | refine PSeqN.pure (PureOp.moveP (SLe.eq rfl)) rfl rfl ?_ | refine PSeqN.pure (PureOp.moveA (SLe.eq rfl)) rfl rfl ?_
          first | refine PSeqN.pure (PureOp.moveD (SLe.eq rfl)) rfl rfl ?_ | refine PSeqN.pure (PureOp.moveB (SLe.eq rfl)) rfl rfl ?_ | refine PSeqN.pure (PureOp.moveT (SLe.eq rfl)) rfl rfl ?_ | refine PSeqN.pure (PureOp.moveO (SLe.eq rfl)) rfl rfl ?_ | refine PSeqN.pure (PureOp.moveP (SLe.eq rfl)) rfl rfl ?_ | refine PSeqN.pure (PureOp.moveA (SLe.eq rfl)) rfl rfl ?_
          first | refine PSeqN.pure (PureOp.moveD (SLe.eq rfl)) rfl rfl ?_ | refine PSeqN.pure (PureOp.moveB (SLe.eq rfl)) rfl rfl ?_ | refine PSeqN.pure (PureOp.moveT (SLe.eq rfl)) rfl rfl ?_ | refine PSeqN.pure (PureOp.moveO (SLe.eq rfl)) rfl rfl ?_ | refine PSeqN.pure (PureOp.moveP (SLe.eq rfl)) rfl rfl ?_ | refine PSeqN.pure (PureOp.moveA (SLe.eq rfl)) rfl rfl ?_
          first | refine PSeqN.pure (PureOp.moveD (SLe.eq rfl)) rfl rfl ?_ | refine PSeqN.pure (PureOp.moveB (SLe.eq rfl)) rfl rfl ?_ | refine PSeqN.pure (PureOp.moveT (SLe.eq rfl)) rfl rfl ?_ | refine PSeqN.pure (PureOp.moveO (SLe.eq rfl)) rfl rfl ?_ | refine PSeqN.pure (PureOp.moveP (SLe.eq rfl)) rfl rfl ?_ | refine PSeqN.pure (PureOp.moveA (SLe.eq rfl)) rfl rfl ?_
          first | refine PSeqN.pure (PureOp.moveD (SLe.eq rfl)) rfl rfl ?_ | refine PSeqN.pure (PureOp.moveB (SLe.eq rfl)) rfl rfl ?_ | refine PSeqN.pure (PureOp.moveT (SLe.eq rfl)) rfl rfl ?_ | refine PSeqN.pure (PureOp.moveO (SLe.eq rfl)) rfl rfl ?_ | refine PSeqN.pure (PureOp.moveP (SLe.eq rfl)) rfl rfl ?_ | refine PSeqN.pure (PureOp.moveA (SLe.eq rfl)) rfl rfl ?_
          first | refine PSeqN.pure (PureOp.moveD (SLe.eq rfl)) rfl rfl ?_ | refine PSeqN.pure (PureOp.moveB (SLe.eq rfl)) rfl rfl ?_ | refine PSeqN.pure (PureOp.moveT (SLe.eq rfl)) rfl rfl ?_ | refine PSeqN.pure (PureOp.moveO (SLe.eq rfl)) rfl rfl ?_ | refine PSeqN.pure (PureOp.moveP (SLe.eq rfl)) rfl rfl ?_ | refine PSeqN.pure (PureOp.moveA (SLe.eq rfl)) rfl rfl ?_
          first | refine PSeqN.pure (PureOp.idx (e := 78) (sz := 7) (n := zk.toNat) (SLe.eq rfl) (SLe.eq rfl) (by omega) hry (by kernel_rfl)) rfl rfl ?_ | refine PSeqN.pure (PureOp.idxR (e := 78) (sz := 7) (n := zk.toNat) (SLe.eq rfl) rfl (SLe.eq rfl) (by omega) (by omega) rfl (by kernel_rfl)) rfl rfl ?_
          first | refine PSeqN.pure (PureOp.loadBN (sz := 7) (SLe.eq rfl) rfl rfl rfl rfl (by kernel_rfl)) rfl rfl ?_ | refine PSeqN.pure (PureOp.loadN (sz := 7) (SLe.eq rfl) rfl rfl (by kernel_rfl)) rfl rfl ?_ | refine PSeqN.pure (PureOp.loadON (sz := 7) (i := zk.toNat) (SLe.eq rfl) rfl rfl hry rfl (by kernel_rfl)) rfl rfl ?_ | refine PSeqN.pure (PureOp.loadBS (sz := 7) (SLe.eq rfl) rfl rfl rfl (by kernel_rfl)) rfl rfl ?_
          first | refine PSeqN.pure (PureOp.moveD (SLe.eq rfl)) rfl rfl ?_ | refine PSeqN.pure (PureOp.moveB (SLe.eq rfl)) rfl rfl ?_ | refine PSeqN.pure (PureOp.moveT (SLe.eq rfl)) rfl rfl ?_ | refine PSeqN.pure (PureOp.moveO (SLe.eq rfl)) rfl rfl ?_ | refine PSeqN.pure (PureOp.moveP (SLe.eq rfl)) rfl rfl ?_ | refine PSeqN.pure (PureOp.moveA (SLe.eq rfl)) rfl rfl ?_
          first | refine PSeqN.pure (PureOp.moveD (SLe.eq rfl)) rfl rfl ?_ | refine PSeqN.pure (PureOp.moveB (SLe.eq rfl)) rfl rfl ?_ | refine PSeqN.pure (PureOp.moveT (SLe.eq rfl)) rfl rfl ?_ | refine PSeqN.pure (PureOp.moveO (SLe.eq rfl)) rfl rfl ?_ | refine PSeqN.pure (PureOp.moveP (SLe.eq rfl)) rfl rfl ?_ | refine PSeqN.pure (PureOp.moveA (SLe.eq rfl)) rfl rfl ?_
          first | refine PSeqN.pure (PureOp.idx (e := 78) (sz := 7) (n := i) (SLe.eq rfl) (SLe.eq rfl) rfl hrx (by kernel_rfl)) rfl rfl ?_ | refine PSeqN.pure (PureOp.idxR (e := 78) (sz := 7) (n := i) (SLe.eq rfl) rfl (SLe.eq rfl) rfl (by omega) rfl (by kernel_rfl)) rfl rfl ?_
          first | refine PSeqN.pure (PureOp.loadBN (sz := 7) (SLe.eq rfl) rfl rfl rfl rfl (by kernel_rfl)) rfl rfl ?_ | refine PSeqN.pure (PureOp.loadN (sz := 7) (SLe.eq rfl) rfl rfl (by kernel_rfl)) rfl rfl ?_ | refine PSeqN.pure (PureOp.loadON (sz := 7) (i := i) (SLe.eq rfl) rfl rfl hrx rfl (by kernel_rfl)) rfl rfl ?_ | refine PSeqN.pure (PureOp.loadBS (sz := 7) (SLe.eq rfl) rfl rfl rfl (by kernel_rfl)) rfl rfl ?_
          first | refine PSeqN.pure (PureOp.idx (e := 78) (sz := 7) (n := i) (SLe.eq rfl) (SLe.eq rfl) rfl hrx (by kernel_rfl)) rfl rfl ?_ | refine PSeqN.pure (PureOp.idxR (e := 78) (sz := 7) (n := i) (SLe.eq rfl) rfl (SLe.eq rfl) rfl (by omega) rfl (by kernel_rfl)) rfl rfl ?_
          refine PSeqN.nil ?_
          refine AO.storeO (i := i) (j := 0) (SLe.eq rfl) (SLe.eq rfl) rfl rfl rfl (by kernel_rfl) rfl hrx (Nat.le_refl 7) (show spl x.av 0 _ = y.av from rfl) rfl ?_
          first | refine AO.pure (PureOp.idx (e := 78) (sz := 7) (n := zk.toNat) (SLe.eq rfl) (SLe.eq rfl) (by omega) hry2 (by kernel_rfl)) rfl rfl ?_ | refine AO.pure (PureOp.idxR (e := 78) (sz := 7) (n := zk.toNat) (SLe.eq rfl) rfl (SLe.eq rfl) (by omega) (by simp only [List.length_set]; omega) rfl (by kernel_rfl)) rfl rfl ?_
          refine AO.storeO (i := zk.toNat) (j := 0) (SLe.eq rfl) (SLe.eq rfl) rfl rfl rfl (by kernel_rfl) rfl hry2 (Nat.le_refl 7) (show spl y2.av 0 _ = x.av from rfl) rfl ?_
          refine AO.nil ?_
          refine blockQ_normal ?_
          refine thenQ_normal ?_
          refine AC.region ?_
          refine AO.pure (PureOp.add (SLe.eq rfl) (SLe.eq rfl) (by omega) (by omega)) rfl rfl ?_
          first | refine AO.pure (PureOp.moveD (SLe.eq rfl)) rfl rfl ?_ | refine AO.pure (PureOp.moveB (SLe.eq rfl)) rfl rfl ?_ | refine AO.pure (PureOp.moveT (SLe.eq rfl)) rfl rfl ?_ | refine AO.pure (PureOp.moveO (SLe.eq rfl)) rfl rfl ?_ | refine AO.pure (PureOp.moveP (SLe.eq rfl)) rfl rfl ?_ | refine AO.pure (PureOp.moveA (SLe.eq rfl)) rfl rfl ?_
          refine AO.nil ?_
          refine thenQ_normal ?_
          refine ⟨((l2.set i y).set zk.toNat x, i + 1), ⟨hok2.perm (swap_perm hx hy), by simp [hlen2], by simp only; omega⟩, (by simp only; omega), ?_⟩
          refine Le.mk [(0, 0)] ⟨(by first | exact ⟨SLe.eq rfl, rfl⟩ | exact rfl | exact ⟨SLe.nil rfl, rfl⟩ | exact ⟨SLe.int rfl (by omega), rfl⟩ | exact ⟨SLe.bool rfl (by simp_all), rfl⟩ | exact ⟨SLe.sl rfl (by simp_all), rfl⟩), (by first | exact ⟨SLe.eq rfl, rfl⟩ | exact rfl | exact ⟨SLe.nil rfl, rfl⟩ | exact ⟨SLe.int rfl (by omega), rfl⟩ | exact ⟨SLe.bool rfl (by simp_all), rfl⟩ | exact ⟨SLe.sl rfl (by simp_all), rfl⟩), (by first | exact ⟨SLe.eq rfl, rfl⟩ | exact rfl | exact ⟨SLe.nil rfl, rfl⟩ | exact ⟨SLe.int rfl (by omega), rfl⟩ | exact ⟨SLe.bool rfl (by simp_all), rfl⟩ | exact ⟨SLe.sl rfl (by simp_all), rfl⟩), (by first | exact ⟨SLe.eq rfl, rfl⟩ | exact rfl | exact ⟨SLe.nil rfl, rfl⟩ | exact ⟨SLe.int rfl (by omega), rfl⟩ | exact ⟨SLe.bool rfl (by simp_all), rfl⟩ | exact ⟨SLe.sl rfl (by simp_all), rfl⟩), trivial⟩ trivial ⟨⟨_, rfl, (by rw [rr_set, rr_set])⟩, trivial⟩ rfl rfl rfl rfl rfl
        · skip
          refine AC.exit ?_
          refine thenQ_exit ?_
          refine thenQ_exit ?_
          refine blockQ_hit ?_
          refine thenQ_normal ?_
          refine AC.seq ?_
          refine AC.region ?_
          first | refine AO.pure (PureOp.moveD (SLe.eq rfl)) rfl rfl ?_ | refine AO.pure (PureOp.moveB (SLe.eq rfl)) rfl rfl ?_ | refine AO.pure (PureOp.moveT (SLe.eq rfl)) rfl rfl ?_ | refine AO.pure (PureOp.moveO (SLe.eq rfl)) rfl rfl ?_ | refine AO.pure (PureOp.moveP (SLe.eq rfl)) rfl rfl ?_ | refine AO.pure (PureOp.moveA (SLe.eq rfl)) rfl rfl ?_
          first | refine AO.pure (PureOp.assignD (SLe.eq rfl)) rfl rfl ?_ | refine AO.pure (PureOp.assignB (SLe.eq rfl)) rfl rfl ?_ | refine AO.pure (PureOp.assignT (SLe.eq rfl)) rfl rfl ?_ | refine AO.pure (PureOp.assignO (SLe.eq rfl)) rfl rfl ?_ | refine AO.pure (PureOp.assignP (SLe.eq rfl)) rfl rfl ?_ | refine AO.pure (PureOp.assignA (SLe.eq rfl)) rfl rfl ?_
          refine AO.nil ?_
          refine thenQ_normal ?_
          refine AC.ret ?_
          refine ⟨rfl, _, ?_, ResOf.one (by first | exact GetR.nil (sz := 7) (SLe.eq rfl) | exact GetR.ownR (SLe.eq rfl) rfl rfl (by exact flat_rr _) | exact GetR.any (SLe.eq rfl) | exact GetR.ownA (SLe.eq rfl) rfl rfl)⟩
          exact ⟨_, rfl, hok2⟩

end Vis
end Eng
end Go.Proofs.Ytmmekdkllccmdaa
