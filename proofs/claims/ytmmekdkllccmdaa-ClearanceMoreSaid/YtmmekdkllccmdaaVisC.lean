/-
  Walks of package visit, part three: Refused, Line, Lines, Last.
-/
import Derived.Test.YtmmekdkllccmdaaVisB
namespace Go.Proofs.Ytmmekdkllccmdaa
open Go.RowKit
set_option linter.unusedVariables false
namespace Eng
namespace Vis
theorem flat_ir (zs : List Int) : flatRows (ir zs) := by
  intro row hr d hd
  obtain ⟨z, _, rfl⟩ := List.mem_map.1 hr
  simp at hd; subst hd; rfl
theorem flat_rr (l : List Rep) : flatRows (rr l) := by
  intro row hr d hd
  obtain ⟨z, _, rfl⟩ := List.mem_map.1 hr
  simp [Rep.av] at hd
  rcases hd with rfl | rfl | rfl | rfl | rfl | rfl | rfl <;> rfl
def refP (farm : Int) (x : Rep) : Bool := decide (x.f = farm) && decide (x.k = 4)
set_option maxRecDepth 100000 in
set_option maxHeartbeats 4000000 in
theorem refused1_c (x : Rep) (farm : Int) : FCalls Try.prog 102 [.agg x.av, .p [iD farm]] (bD (refP farm x)) := by
  refine ACalls.of Try.func102 rfl rfl rfl rfl rfl fun w0 S0 T => ?_
  refine AC.seq ?_
  refine AC.region ?_
  refine AO.box (SLe.eq rfl) rfl rfl rfl rfl rfl ?_
  first | refine AO.pure (PureOp.assignD (SLe.eq rfl)) rfl rfl ?_ | refine AO.pure (PureOp.assignB (SLe.eq rfl)) rfl rfl ?_ | refine AO.pure (PureOp.assignT (SLe.eq rfl)) rfl rfl ?_ | refine AO.pure (PureOp.assignO (SLe.eq rfl)) rfl rfl ?_ | refine AO.pure (PureOp.assignP (SLe.eq rfl)) rfl rfl ?_ | refine AO.pure (PureOp.assignA (SLe.eq rfl)) rfl rfl ?_
  refine AO.nil ?_
  refine thenQ_normal ?_
  refine AC.seq ?_
  refine AC.region ?_
  first | refine AO.pure (PureOp.fldB (k := 1) (SLe.eq rfl) (by kernel_rfl)) rfl rfl ?_ | refine AO.pure (PureOp.fld (k := 1) (SLe.eq rfl) (by kernel_rfl)) rfl rfl ?_ | refine AO.pure (PureOp.fldO (k := 1) (SLe.eq rfl) (by kernel_rfl)) rfl rfl ?_
  first | refine AO.pure (PureOp.loadB1 (SLe.eq rfl) rfl rfl (by kernel_rfl)) rfl rfl ?_ | refine AO.pure (PureOp.load1 (SLe.eq rfl) rfl (by kernel_rfl)) rfl rfl ?_ | refine AO.pure (PureOp.loadO1 (i := _) (j := _) (SLe.eq rfl) rfl rfl (by assumption) rfl (by kernel_rfl)) rfl rfl ?_
  first | refine AO.pure (PureOp.loadB1 (SLe.eq rfl) rfl rfl (by kernel_rfl)) rfl rfl ?_ | refine AO.pure (PureOp.load1 (SLe.eq rfl) rfl (by kernel_rfl)) rfl rfl ?_ | refine AO.pure (PureOp.loadO1 (i := _) (j := _) (SLe.eq rfl) rfl rfl (by assumption) rfl (by kernel_rfl)) rfl rfl ?_
  refine AO.pure (PureOp.eql (SLe.eq rfl) (SLe.eq rfl)) rfl rfl ?_
  first | refine AO.pure (PureOp.moveD (SLe.eq rfl)) rfl rfl ?_ | refine AO.pure (PureOp.moveB (SLe.eq rfl)) rfl rfl ?_ | refine AO.pure (PureOp.moveT (SLe.eq rfl)) rfl rfl ?_ | refine AO.pure (PureOp.moveO (SLe.eq rfl)) rfl rfl ?_ | refine AO.pure (PureOp.moveP (SLe.eq rfl)) rfl rfl ?_ | refine AO.pure (PureOp.moveA (SLe.eq rfl)) rfl rfl ?_
  first | refine AO.guarded rfl rfl (fun hG => PureOp.fldB (k := 3) (SLe.eq rfl) (by kernel_rfl)) rfl rfl ?_ | refine AO.guarded rfl rfl (fun hG => PureOp.fld (k := 3) (SLe.eq rfl) (by kernel_rfl)) rfl rfl ?_ | refine AO.guarded rfl rfl (fun hG => PureOp.fldO (k := 3) (SLe.eq rfl) (by kernel_rfl)) rfl rfl ?_
  first | refine AO.guarded rfl rfl (fun hG => PureOp.loadB1 (SLe.cnd rfl (by first | exact hG | (simp only [Bool.and_eq_true, beq_iff_eq] at hG ⊢; simp [hG]) | simp_all)) rfl rfl (by kernel_rfl)) rfl rfl ?_ | refine AO.guarded rfl rfl (fun hG => PureOp.load1 (SLe.cnd rfl (by first | exact hG | (simp only [Bool.and_eq_true, beq_iff_eq] at hG ⊢; simp [hG]) | simp_all)) rfl (by kernel_rfl)) rfl rfl ?_ | refine AO.guarded rfl rfl (fun hG => PureOp.loadO1 (i := _) (j := _) (SLe.cnd rfl (by first | exact hG | (simp only [Bool.and_eq_true, beq_iff_eq] at hG ⊢; simp [hG]) | simp_all)) rfl rfl (by assumption) rfl (by kernel_rfl)) rfl rfl ?_
  refine AO.guarded rfl rfl (fun hG => PureOp.eql (SLe.cnd rfl (by first | exact hG | (simp only [Bool.and_eq_true, beq_iff_eq] at hG ⊢; simp [hG]) | simp_all)) (SLe.eq rfl)) rfl rfl ?_
  refine AO.pure (PureOp.pickAnd (SLe.eq rfl) rfl rfl (by intro h; simp_all)) rfl rfl ?_
  first | refine AO.pure (PureOp.assignD (SLe.eq rfl)) rfl rfl ?_ | refine AO.pure (PureOp.assignB (SLe.eq rfl)) rfl rfl ?_ | refine AO.pure (PureOp.assignT (SLe.eq rfl)) rfl rfl ?_ | refine AO.pure (PureOp.assignO (SLe.eq rfl)) rfl rfl ?_ | refine AO.pure (PureOp.assignP (SLe.eq rfl)) rfl rfl ?_ | refine AO.pure (PureOp.assignA (SLe.eq rfl)) rfl rfl ?_
  refine AO.nil ?_
  refine thenQ_normal ?_
  refine AC.ret ?_
  refine ⟨rfl, _, ?_, ResOf.one (by first | exact GetR.flat (SLe.eq rfl) rfl | exact GetR.nil (SLe.eq rfl) | exact GetR.ownR (SLe.eq rfl) rfl rfl (by simp [flatRows, D.flat]) | exact GetR.any (SLe.eq rfl) | exact GetR.ownA (SLe.eq rfl) rfl rfl)⟩
  rfl

set_option maxRecDepth 100000 in
set_option maxHeartbeats 4000000 in
theorem refused_any (l : List Rep) (farm : Int) (hn : l.length ≤ 4611686018427387904) : FCalls Try.prog 59 [.sl 7 (rr l), iD farm] (bD (l.any (refP farm))) := by
  refine ACalls.of Try.func59 rfl rfl rfl rfl rfl fun w0 S0 T => ?_
  refine AC.seq ?_
  refine AC.region ?_
  refine AO.box (SLe.eq rfl) rfl rfl rfl rfl rfl ?_
  first | refine AO.pure (PureOp.assignD (SLe.eq rfl)) rfl rfl ?_ | refine AO.pure (PureOp.assignB (SLe.eq rfl)) rfl rfl ?_ | refine AO.pure (PureOp.assignT (SLe.eq rfl)) rfl rfl ?_ | refine AO.pure (PureOp.assignO (SLe.eq rfl)) rfl rfl ?_ | refine AO.pure (PureOp.assignP (SLe.eq rfl)) rfl rfl ?_ | refine AO.pure (PureOp.assignA (SLe.eq rfl)) rfl rfl ?_
  refine AO.nil ?_
  refine thenQ_normal ?_
  refine AC.seq ?_
  refine AC.region ?_
  first | refine AO.pure (PureOp.moveD (SLe.eq rfl)) rfl rfl ?_ | refine AO.pure (PureOp.moveB (SLe.eq rfl)) rfl rfl ?_ | refine AO.pure (PureOp.moveT (SLe.eq rfl)) rfl rfl ?_ | refine AO.pure (PureOp.moveO (SLe.eq rfl)) rfl rfl ?_ | refine AO.pure (PureOp.moveP (SLe.eq rfl)) rfl rfl ?_ | refine AO.pure (PureOp.moveA (SLe.eq rfl)) rfl rfl ?_
  refine AO.pure (PureOp.makeFuncL (.cons (SLe.eq rfl) .nil)) rfl rfl ?_
  refine AO.pure (PureOp.pcall (.cons (SLe.eq rfl) (by first | exact .d _ | exact View.osr rfl rfl | exact .bx rfl rfl | exact .agg (by repeat (first | exact .nil | refine .cons (by first | exact .d _ | exact View.osr rfl rfl) ?_)) | exact .fn (by repeat (first | exact .nil | refine .cons (by first | exact .d _ | exact View.osr rfl rfl | exact .bx rfl rfl) ?_))) (.cons (SLe.eq rfl) (by first | exact .d _ | exact View.osr rfl rfl | exact .bx rfl rfl | exact .agg (by repeat (first | exact .nil | refine .cons (by first | exact .d _ | exact View.osr rfl rfl) ?_)) | exact .fn (by repeat (first | exact .nil | refine .cons (by first | exact .d _ | exact View.osr rfl rfl | exact .bx rfl rfl) ?_))) .nil)) (containsFunc_c l (refP farm) (FnD.fn _ _) (by kernel_rfl) hn (fun x => refused1_c x farm)) (by kernel_rfl)) rfl rfl ?_
  first | refine AO.pure (PureOp.assignD (SLe.eq rfl)) rfl rfl ?_ | refine AO.pure (PureOp.assignB (SLe.eq rfl)) rfl rfl ?_ | refine AO.pure (PureOp.assignT (SLe.eq rfl)) rfl rfl ?_ | refine AO.pure (PureOp.assignO (SLe.eq rfl)) rfl rfl ?_ | refine AO.pure (PureOp.assignP (SLe.eq rfl)) rfl rfl ?_ | refine AO.pure (PureOp.assignA (SLe.eq rfl)) rfl rfl ?_
  refine AO.nil ?_
  refine thenQ_normal ?_
  refine AC.ret ?_
  refine ⟨rfl, _, ?_, ResOf.one (by first | exact GetR.flat (SLe.eq rfl) rfl | exact GetR.nil (SLe.eq rfl) | exact GetR.ownR (SLe.eq rfl) rfl rfl (by simp [flatRows, D.flat]) | exact GetR.any (SLe.eq rfl) | exact GetR.ownA (SLe.eq rfl) rfl rfl)⟩
  rfl

/-- The order of reports. -/
def cmpR (x y : Rep) : Int := orZ (cmpZ x.d y.d) (cmpZ x.n y.n)
theorem orL_c (x y : Int) : FCalls Try.prog 105 [.sl 1 [[iD x], [iD y]]] (iD (orZ x y)) := by
  have := or_c [x, y] (by simp)
  rw [orL_two] at this
  exact this
set_option maxRecDepth 100000 in
set_option maxHeartbeats 4000000 in
theorem line1_c (x y : Rep) : FCalls Try.prog 104 [.agg x.av, .agg y.av] (iD (cmpR x y)) := by
  refine ACalls.of Try.func104 rfl rfl rfl rfl rfl fun w0 S0 T => ?_
  refine AC.seq ?_
  refine AC.region ?_
  refine AO.box (SLe.eq rfl) rfl rfl rfl rfl rfl ?_
  refine AO.box (SLe.eq rfl) rfl rfl rfl rfl rfl ?_
  first | refine AO.pure (PureOp.assignD (SLe.eq rfl)) rfl rfl ?_ | refine AO.pure (PureOp.assignB (SLe.eq rfl)) rfl rfl ?_ | refine AO.pure (PureOp.assignT (SLe.eq rfl)) rfl rfl ?_ | refine AO.pure (PureOp.assignO (SLe.eq rfl)) rfl rfl ?_ | refine AO.pure (PureOp.assignP (SLe.eq rfl)) rfl rfl ?_ | refine AO.pure (PureOp.assignA (SLe.eq rfl)) rfl rfl ?_
  refine AO.nil ?_
  refine thenQ_normal ?_
  refine AC.seq ?_
  -- DRAWN region 1
  refine AC.drawN 13 [] (by kernel_rfl) (by kernel_rfl) (by kernel_rfl) .nil (by kernel_rfl) ?_
  first | refine PSeqN.pure (PureOp.fldB (k := 2) (SLe.eq rfl) (by kernel_rfl)) rfl rfl ?_ | refine PSeqN.pure (PureOp.fld (k := 2) (SLe.eq rfl) (by kernel_rfl)) rfl rfl ?_ | refine PSeqN.pure (PureOp.fldO (k := 2) (SLe.eq rfl) (by kernel_rfl)) rfl rfl ?_
  first | refine PSeqN.pure (PureOp.loadB1 (SLe.eq rfl) rfl rfl (by kernel_rfl)) rfl rfl ?_ | refine PSeqN.pure (PureOp.load1 (SLe.eq rfl) rfl (by kernel_rfl)) rfl rfl ?_ | refine PSeqN.pure (PureOp.loadO1 (i := _) (j := _) (SLe.eq rfl) rfl rfl (by assumption) rfl (by kernel_rfl)) rfl rfl ?_
  first | refine PSeqN.pure (PureOp.fldB (k := 2) (SLe.eq rfl) (by kernel_rfl)) rfl rfl ?_ | refine PSeqN.pure (PureOp.fld (k := 2) (SLe.eq rfl) (by kernel_rfl)) rfl rfl ?_ | refine PSeqN.pure (PureOp.fldO (k := 2) (SLe.eq rfl) (by kernel_rfl)) rfl rfl ?_
  first | refine PSeqN.pure (PureOp.loadB1 (SLe.eq rfl) rfl rfl (by kernel_rfl)) rfl rfl ?_ | refine PSeqN.pure (PureOp.load1 (SLe.eq rfl) rfl (by kernel_rfl)) rfl rfl ?_ | refine PSeqN.pure (PureOp.loadO1 (i := _) (j := _) (SLe.eq rfl) rfl rfl (by assumption) rfl (by kernel_rfl)) rfl rfl ?_
  refine PSeqN.pure (PureOp.pcall (.cons (SLe.eq rfl) (by first | exact .d _ | exact View.osr rfl rfl | exact .bx rfl rfl | exact .agg (by repeat (first | exact .nil | refine .cons (by first | exact .d _ | exact View.osr rfl rfl) ?_)) | exact .fn (by repeat (first | exact .nil | refine .cons (by first | exact .d _ | exact View.osr rfl rfl | exact .bx rfl rfl) ?_))) (.cons (SLe.eq rfl) (by first | exact .d _ | exact View.osr rfl rfl | exact .bx rfl rfl | exact .agg (by repeat (first | exact .nil | refine .cons (by first | exact .d _ | exact View.osr rfl rfl) ?_)) | exact .fn (by repeat (first | exact .nil | refine .cons (by first | exact .d _ | exact View.osr rfl rfl | exact .bx rfl rfl) ?_))) .nil)) (compare_c _ _) (by kernel_rfl)) rfl rfl ?_
  first | refine PSeqN.pure (PureOp.fldB (k := 0) (SLe.eq rfl) (by kernel_rfl)) rfl rfl ?_ | refine PSeqN.pure (PureOp.fld (k := 0) (SLe.eq rfl) (by kernel_rfl)) rfl rfl ?_ | refine PSeqN.pure (PureOp.fldO (k := 0) (SLe.eq rfl) (by kernel_rfl)) rfl rfl ?_
  first | refine PSeqN.pure (PureOp.loadB1 (SLe.eq rfl) rfl rfl (by kernel_rfl)) rfl rfl ?_ | refine PSeqN.pure (PureOp.load1 (SLe.eq rfl) rfl (by kernel_rfl)) rfl rfl ?_ | refine PSeqN.pure (PureOp.loadO1 (i := _) (j := _) (SLe.eq rfl) rfl rfl (by assumption) rfl (by kernel_rfl)) rfl rfl ?_
  first | refine PSeqN.pure (PureOp.fldB (k := 0) (SLe.eq rfl) (by kernel_rfl)) rfl rfl ?_ | refine PSeqN.pure (PureOp.fld (k := 0) (SLe.eq rfl) (by kernel_rfl)) rfl rfl ?_ | refine PSeqN.pure (PureOp.fldO (k := 0) (SLe.eq rfl) (by kernel_rfl)) rfl rfl ?_
  first | refine PSeqN.pure (PureOp.loadB1 (SLe.eq rfl) rfl rfl (by kernel_rfl)) rfl rfl ?_ | refine PSeqN.pure (PureOp.load1 (SLe.eq rfl) rfl (by kernel_rfl)) rfl rfl ?_ | refine PSeqN.pure (PureOp.loadO1 (i := _) (j := _) (SLe.eq rfl) rfl rfl (by assumption) rfl (by kernel_rfl)) rfl rfl ?_
  refine PSeqN.pure (PureOp.pcall (.cons (SLe.eq rfl) (by first | exact .d _ | exact View.osr rfl rfl | exact .bx rfl rfl | exact .agg (by repeat (first | exact .nil | refine .cons (by first | exact .d _ | exact View.osr rfl rfl) ?_)) | exact .fn (by repeat (first | exact .nil | refine .cons (by first | exact .d _ | exact View.osr rfl rfl | exact .bx rfl rfl) ?_))) (.cons (SLe.eq rfl) (by first | exact .d _ | exact View.osr rfl rfl | exact .bx rfl rfl | exact .agg (by repeat (first | exact .nil | refine .cons (by first | exact .d _ | exact View.osr rfl rfl) ?_)) | exact .fn (by repeat (first | exact .nil | refine .cons (by first | exact .d _ | exact View.osr rfl rfl | exact .bx rfl rfl) ?_))) .nil)) (compare_c _ _) (by kernel_rfl)) rfl rfl ?_
  refine PSeqN.pure (PureOp.buildSlice (e := 3) (sz := 1) (z := .int .i64 0) (by kernel_rfl) (by kernel_rfl) rfl rfl rfl (.cons (SLe.eq rfl) rfl (.cons (SLe.eq rfl) rfl .nil)) rfl rfl rfl rfl) rfl rfl ?_
  refine PSeqN.pure (PureOp.pcall (.cons (SLe.eq rfl) (by first | exact .d _ | exact View.osr rfl rfl | exact .bx rfl rfl | exact .agg (by repeat (first | exact .nil | refine .cons (by first | exact .d _ | exact View.osr rfl rfl) ?_)) | exact .fn (by repeat (first | exact .nil | refine .cons (by first | exact .d _ | exact View.osr rfl rfl | exact .bx rfl rfl) ?_))) .nil) (orL_c _ _) (by kernel_rfl)) rfl rfl ?_
  first | refine PSeqN.pure (PureOp.assignD (SLe.eq rfl)) rfl rfl ?_ | refine PSeqN.pure (PureOp.assignB (SLe.eq rfl)) rfl rfl ?_ | refine PSeqN.pure (PureOp.assignT (SLe.eq rfl)) rfl rfl ?_ | refine PSeqN.pure (PureOp.assignO (SLe.eq rfl)) rfl rfl ?_ | refine PSeqN.pure (PureOp.assignP (SLe.eq rfl)) rfl rfl ?_ | refine PSeqN.pure (PureOp.assignA (SLe.eq rfl)) rfl rfl ?_
  refine PSeqN.nil ?_
  refine AO.nil ?_
  refine thenQ_normal ?_
  refine AC.ret ?_
  refine ⟨rfl, _, ?_, ResOf.one (by first | exact GetR.flat (SLe.eq rfl) rfl | exact GetR.nil (SLe.eq rfl) | exact GetR.ownR (SLe.eq rfl) rfl rfl (by simp [flatRows, D.flat]) | exact GetR.any (SLe.eq rfl) | exact GetR.ownA (SLe.eq rfl) rfl rfl)⟩
  rfl

/-- The greatest of some reports, the first of equal ones. -/
def maxF (c : Rep → Rep → Int) (m : Rep) (l : List Rep) : Rep := l.foldl (fun m y => if decide (c y m > 0) then y else m) m
def mAt (c : Rep → Rep → Int) (x0 : Rep) (l : List Rep) (i : Nat) : Rep := maxF c x0 (l.take i)
theorem mAt_succ {c : Rep → Rep → Int} {x0 x : Rep} {l : List Rep} {i : Nat} (h : l[i]? = some x) : mAt c x0 l (i + 1) = if decide (c x (mAt c x0 l i) > 0) then x else mAt c x0 l i := by
  unfold mAt maxF
  rw [List.take_add_one, h]
  simp [List.foldl_append]
set_option maxRecDepth 100000 in
set_option maxHeartbeats 4000000 in
theorem maxFunc_c {g : D} {f : FuncId} (x0 : Rep) (l : List Rep) (c : Rep → Rep → Int) (hg : FnD g f []) (hf : callable Try.prog f = true) (hn : l.length ≤ 4611686018427387903) (hc : ∀ x y : Rep, FCalls Try.prog f ([.agg x.av, .agg y.av] ++ []) (iD (c x y))) : FCalls Try.prog 103 [.sl 7 (rr (x0 :: l)), g] (.agg (maxF c x0 l).av) := by
  refine ACalls.of Try.func103 rfl rfl rfl rfl rfl fun w0 S0 T => ?_
  refine AC.seq ?_
  refine AC.region ?_
  refine AO.alloc (z := .agg #[.int .i64 0, .int .i64 0, .int .i64 0, .int .i64 0, .int .i64 0, .int .i64 0, .int .i64 0]) (by kernel_rfl) rfl rfl rfl ?_
  refine AO.nil ?_
  refine thenQ_normal ?_
  refine AC.seq ?_
  refine AC.seq ?_
  refine AC.region ?_
  first | refine AO.pure (PureOp.moveD (SLe.eq rfl)) rfl rfl ?_ | refine AO.pure (PureOp.moveB (SLe.eq rfl)) rfl rfl ?_ | refine AO.pure (PureOp.moveT (SLe.eq rfl)) rfl rfl ?_ | refine AO.pure (PureOp.moveO (SLe.eq rfl)) rfl rfl ?_ | refine AO.pure (PureOp.moveP (SLe.eq rfl)) rfl rfl ?_ | refine AO.pure (PureOp.moveA (SLe.eq rfl)) rfl rfl ?_
  first | refine AO.pure (PureOp.len (e := 78) (s' := 7) (SLe.eq rfl) (by kernel_rfl)) rfl rfl ?_ | refine AO.pure (PureOp.lenR (e := 78) (s' := 7) (SLe.eq rfl) rfl rfl (by kernel_rfl)) rfl rfl ?_ | refine AO.pure (PureOp.lenNil (e := 78) (s' := 7) (SLe.eq rfl) (by kernel_rfl)) rfl rfl ?_
  refine AO.pure (PureOp.lss (SLe.eq rfl) (SLe.eq rfl)) rfl rfl ?_
  refine AO.nil ?_
  refine thenQ_normal ?_
  refine AC.cond (SLe.eq rfl) (fun hb => ?_) (fun hb => ?_)
  · skip
    rw [rr_length] at hb; have := of_decide_eq_true hb; simp at this; omega
  · skip
    refine AC.skip ?_
    refine thenQ_normal ?_
    refine AC.seq ?_
    refine AC.region ?_
    first | refine AO.pure (PureOp.moveD (SLe.eq rfl)) rfl rfl ?_ | refine AO.pure (PureOp.moveB (SLe.eq rfl)) rfl rfl ?_ | refine AO.pure (PureOp.moveT (SLe.eq rfl)) rfl rfl ?_ | refine AO.pure (PureOp.moveO (SLe.eq rfl)) rfl rfl ?_ | refine AO.pure (PureOp.moveP (SLe.eq rfl)) rfl rfl ?_ | refine AO.pure (PureOp.moveA (SLe.eq rfl)) rfl rfl ?_
    first | refine AO.pure (PureOp.idx (e := 78) (sz := 7) (SLe.eq rfl) (SLe.eq rfl) (Int.ofNat_zero).symm (show (rr (x0 :: l))[0]? = some x0.av from rfl) (by kernel_rfl)) rfl rfl ?_ | refine AO.pure (PureOp.idxR (e := 78) (sz := 7) (SLe.eq rfl) rfl (SLe.eq rfl) (Int.ofNat_zero).symm (by simp; omega) rfl (by kernel_rfl)) rfl rfl ?_
    first | refine AO.pure (PureOp.loadBN (sz := 7) (SLe.eq rfl) rfl rfl rfl rfl (by kernel_rfl)) rfl rfl ?_ | refine AO.pure (PureOp.loadN (sz := 7) (SLe.eq rfl) rfl rfl (by kernel_rfl)) rfl rfl ?_ | refine AO.pure (PureOp.loadON (sz := 7) (i := _) (SLe.eq rfl) rfl rfl (by assumption) rfl (by kernel_rfl)) rfl rfl ?_ | refine AO.pure (PureOp.loadBS (sz := 7) (SLe.eq rfl) rfl rfl rfl (by kernel_rfl)) rfl rfl ?_
    refine AO.alloc (z := .agg #[.int .i64 0, .int .i64 0, .int .i64 0, .int .i64 0, .int .i64 0, .int .i64 0, .int .i64 0]) (by kernel_rfl) rfl rfl rfl ?_
    refine AO.store (SLe.eq rfl) (SLe.eq rfl) rfl rfl rfl rfl rfl (by kernel_rfl) rfl rfl ?_
    refine AO.nil ?_
    refine thenQ_normal ?_
    refine AC.seq ?_
    refine AC.seq ?_
    refine AC.region ?_
    first | refine AO.pure (PureOp.assignD (SLe.eq rfl)) rfl rfl ?_ | refine AO.pure (PureOp.assignB (SLe.eq rfl)) rfl rfl ?_ | refine AO.pure (PureOp.assignT (SLe.eq rfl)) rfl rfl ?_ | refine AO.pure (PureOp.assignO (SLe.eq rfl)) rfl rfl ?_ | refine AO.pure (PureOp.assignP (SLe.eq rfl)) rfl rfl ?_ | refine AO.pure (PureOp.assignA (SLe.eq rfl)) rfl rfl ?_
    refine AO.nil ?_
    refine thenQ_normal ?_
    refine AC.block ?_
    refine AC.loop (ι := Nat) (fun i => ⟨[(0, .d (.sl 7 (rr (x0 :: l)))), (1, .d g), (4, .bx 0 0), (5, .bx 1 0), (6, .d (iD ((i + 1 : Nat) : Int)))], [(0, [.d (iD 0), .d (iD 0), .d (iD 0), .d (iD 0), .d (iD 0), .d (iD 0), .d (iD 0)]), (1, [.d (iD (mAt c x0 l i).n), .d (iD (mAt c x0 l i).f), .d (iD (mAt c x0 l i).d), .d (iD (mAt c x0 l i).k), .d (iD (mAt c x0 l i).l), .d (iD (mAt c x0 l i).a), .d (iD (mAt c x0 l i).b)])], [], 2, false, 33⟩) (fun i => i ≤ l.length) (fun i => l.length - i) 0 ?_ (Nat.zero_le _) ?_
    · refine Le.mk [] ⟨(by first | exact ⟨SLe.eq rfl, rfl⟩ | exact rfl | exact ⟨SLe.nil rfl, rfl⟩ | exact ⟨SLe.int rfl (by omega), rfl⟩ | exact ⟨SLe.bool rfl (by simp_all), rfl⟩ | exact ⟨SLe.sl rfl (by simp_all), rfl⟩), (by first | exact ⟨SLe.eq rfl, rfl⟩ | exact rfl | exact ⟨SLe.nil rfl, rfl⟩ | exact ⟨SLe.int rfl (by omega), rfl⟩ | exact ⟨SLe.bool rfl (by simp_all), rfl⟩ | exact ⟨SLe.sl rfl (by simp_all), rfl⟩), (by first | exact ⟨SLe.eq rfl, rfl⟩ | exact rfl | exact ⟨SLe.nil rfl, rfl⟩ | exact ⟨SLe.int rfl (by omega), rfl⟩ | exact ⟨SLe.bool rfl (by simp_all), rfl⟩ | exact ⟨SLe.sl rfl (by simp_all), rfl⟩), (by first | exact ⟨SLe.eq rfl, rfl⟩ | exact rfl | exact ⟨SLe.nil rfl, rfl⟩ | exact ⟨SLe.int rfl (by omega), rfl⟩ | exact ⟨SLe.bool rfl (by simp_all), rfl⟩ | exact ⟨SLe.sl rfl (by simp_all), rfl⟩), (by first | exact ⟨SLe.eq rfl, rfl⟩ | exact rfl | exact ⟨SLe.nil rfl, rfl⟩ | exact ⟨SLe.int rfl (by omega), rfl⟩ | exact ⟨SLe.bool rfl (by simp_all), rfl⟩ | exact ⟨SLe.sl rfl (by simp_all), rfl⟩), trivial⟩ ⟨⟨_, rfl, ⟨(by first | exact ⟨SLe.eq rfl, rfl⟩ | exact rfl | exact ⟨SLe.nil rfl, rfl⟩ | exact ⟨SLe.int rfl (by omega), rfl⟩ | exact ⟨SLe.bool rfl (by simp_all), rfl⟩ | exact ⟨SLe.sl rfl (by simp_all), rfl⟩), (by first | exact ⟨SLe.eq rfl, rfl⟩ | exact rfl | exact ⟨SLe.nil rfl, rfl⟩ | exact ⟨SLe.int rfl (by omega), rfl⟩ | exact ⟨SLe.bool rfl (by simp_all), rfl⟩ | exact ⟨SLe.sl rfl (by simp_all), rfl⟩), (by first | exact ⟨SLe.eq rfl, rfl⟩ | exact rfl | exact ⟨SLe.nil rfl, rfl⟩ | exact ⟨SLe.int rfl (by omega), rfl⟩ | exact ⟨SLe.bool rfl (by simp_all), rfl⟩ | exact ⟨SLe.sl rfl (by simp_all), rfl⟩), (by first | exact ⟨SLe.eq rfl, rfl⟩ | exact rfl | exact ⟨SLe.nil rfl, rfl⟩ | exact ⟨SLe.int rfl (by omega), rfl⟩ | exact ⟨SLe.bool rfl (by simp_all), rfl⟩ | exact ⟨SLe.sl rfl (by simp_all), rfl⟩), (by first | exact ⟨SLe.eq rfl, rfl⟩ | exact rfl | exact ⟨SLe.nil rfl, rfl⟩ | exact ⟨SLe.int rfl (by omega), rfl⟩ | exact ⟨SLe.bool rfl (by simp_all), rfl⟩ | exact ⟨SLe.sl rfl (by simp_all), rfl⟩), (by first | exact ⟨SLe.eq rfl, rfl⟩ | exact rfl | exact ⟨SLe.nil rfl, rfl⟩ | exact ⟨SLe.int rfl (by omega), rfl⟩ | exact ⟨SLe.bool rfl (by simp_all), rfl⟩ | exact ⟨SLe.sl rfl (by simp_all), rfl⟩), (by first | exact ⟨SLe.eq rfl, rfl⟩ | exact rfl | exact ⟨SLe.nil rfl, rfl⟩ | exact ⟨SLe.int rfl (by omega), rfl⟩ | exact ⟨SLe.bool rfl (by simp_all), rfl⟩ | exact ⟨SLe.sl rfl (by simp_all), rfl⟩), trivial⟩⟩, ⟨_, rfl, ⟨(by first | exact ⟨SLe.eq rfl, rfl⟩ | exact rfl | exact ⟨SLe.nil rfl, rfl⟩ | exact ⟨SLe.int rfl (by omega), rfl⟩ | exact ⟨SLe.bool rfl (by simp_all), rfl⟩ | exact ⟨SLe.sl rfl (by simp_all), rfl⟩), (by first | exact ⟨SLe.eq rfl, rfl⟩ | exact rfl | exact ⟨SLe.nil rfl, rfl⟩ | exact ⟨SLe.int rfl (by omega), rfl⟩ | exact ⟨SLe.bool rfl (by simp_all), rfl⟩ | exact ⟨SLe.sl rfl (by simp_all), rfl⟩), (by first | exact ⟨SLe.eq rfl, rfl⟩ | exact rfl | exact ⟨SLe.nil rfl, rfl⟩ | exact ⟨SLe.int rfl (by omega), rfl⟩ | exact ⟨SLe.bool rfl (by simp_all), rfl⟩ | exact ⟨SLe.sl rfl (by simp_all), rfl⟩), (by first | exact ⟨SLe.eq rfl, rfl⟩ | exact rfl | exact ⟨SLe.nil rfl, rfl⟩ | exact ⟨SLe.int rfl (by omega), rfl⟩ | exact ⟨SLe.bool rfl (by simp_all), rfl⟩ | exact ⟨SLe.sl rfl (by simp_all), rfl⟩), (by first | exact ⟨SLe.eq rfl, rfl⟩ | exact rfl | exact ⟨SLe.nil rfl, rfl⟩ | exact ⟨SLe.int rfl (by omega), rfl⟩ | exact ⟨SLe.bool rfl (by simp_all), rfl⟩ | exact ⟨SLe.sl rfl (by simp_all), rfl⟩), (by first | exact ⟨SLe.eq rfl, rfl⟩ | exact rfl | exact ⟨SLe.nil rfl, rfl⟩ | exact ⟨SLe.int rfl (by omega), rfl⟩ | exact ⟨SLe.bool rfl (by simp_all), rfl⟩ | exact ⟨SLe.sl rfl (by simp_all), rfl⟩), (by first | exact ⟨SLe.eq rfl, rfl⟩ | exact rfl | exact ⟨SLe.nil rfl, rfl⟩ | exact ⟨SLe.int rfl (by omega), rfl⟩ | exact ⟨SLe.bool rfl (by simp_all), rfl⟩ | exact ⟨SLe.sl rfl (by simp_all), rfl⟩), trivial⟩⟩, trivial⟩ trivial rfl rfl rfl rfl rfl
    · rintro i hi
      refine AC.seq ?_
      refine AC.seq ?_
      refine AC.region ?_
      first | refine AO.pure (PureOp.moveD (SLe.eq rfl)) rfl rfl ?_ | refine AO.pure (PureOp.moveB (SLe.eq rfl)) rfl rfl ?_ | refine AO.pure (PureOp.moveT (SLe.eq rfl)) rfl rfl ?_ | refine AO.pure (PureOp.moveO (SLe.eq rfl)) rfl rfl ?_ | refine AO.pure (PureOp.moveP (SLe.eq rfl)) rfl rfl ?_ | refine AO.pure (PureOp.moveA (SLe.eq rfl)) rfl rfl ?_
      first | refine AO.pure (PureOp.moveD (SLe.eq rfl)) rfl rfl ?_ | refine AO.pure (PureOp.moveB (SLe.eq rfl)) rfl rfl ?_ | refine AO.pure (PureOp.moveT (SLe.eq rfl)) rfl rfl ?_ | refine AO.pure (PureOp.moveO (SLe.eq rfl)) rfl rfl ?_ | refine AO.pure (PureOp.moveP (SLe.eq rfl)) rfl rfl ?_ | refine AO.pure (PureOp.moveA (SLe.eq rfl)) rfl rfl ?_
      first | refine AO.pure (PureOp.len (e := 78) (s' := 7) (SLe.eq rfl) (by kernel_rfl)) rfl rfl ?_ | refine AO.pure (PureOp.lenR (e := 78) (s' := 7) (SLe.eq rfl) rfl rfl (by kernel_rfl)) rfl rfl ?_ | refine AO.pure (PureOp.lenNil (e := 78) (s' := 7) (SLe.eq rfl) (by kernel_rfl)) rfl rfl ?_
      refine AO.pure (PureOp.lss (SLe.eq rfl) (SLe.eq rfl)) rfl rfl ?_
      refine AO.nil ?_
      refine thenQ_normal ?_
      refine AC.cond (SLe.eq rfl) (fun hb => ?_) (fun hb => ?_)
      · skip
        obtain ⟨x, hx, hrow⟩ := rr_at (l := x0 :: l) (i := i + 1) hb
        have hx : l[i]? = some x := by simpa using hx
        have hlt : i < l.length := (List.getElem?_eq_some_iff.1 hx).1
        have hm := mAt_succ (c := c) (x0 := x0) hx
        refine AC.skip ?_
        refine thenQ_normal ?_
        refine AC.seq ?_
        refine AC.block ?_
        refine AC.seq ?_
        -- DRAWN region 7
        refine AC.drawN 8 [] (by kernel_rfl) (by kernel_rfl) (by kernel_rfl) .nil (by kernel_rfl) ?_
        first | refine PSeqN.pure (PureOp.moveD (SLe.eq rfl)) rfl rfl ?_ | refine PSeqN.pure (PureOp.moveB (SLe.eq rfl)) rfl rfl ?_ | refine PSeqN.pure (PureOp.moveT (SLe.eq rfl)) rfl rfl ?_ | refine PSeqN.pure (PureOp.moveO (SLe.eq rfl)) rfl rfl ?_ | refine PSeqN.pure (PureOp.moveP (SLe.eq rfl)) rfl rfl ?_ | refine PSeqN.pure (PureOp.moveA (SLe.eq rfl)) rfl rfl ?_
        first | refine PSeqN.pure (PureOp.moveD (SLe.eq rfl)) rfl rfl ?_ | refine PSeqN.pure (PureOp.moveB (SLe.eq rfl)) rfl rfl ?_ | refine PSeqN.pure (PureOp.moveT (SLe.eq rfl)) rfl rfl ?_ | refine PSeqN.pure (PureOp.moveO (SLe.eq rfl)) rfl rfl ?_ | refine PSeqN.pure (PureOp.moveP (SLe.eq rfl)) rfl rfl ?_ | refine PSeqN.pure (PureOp.moveA (SLe.eq rfl)) rfl rfl ?_
        first | refine PSeqN.pure (PureOp.moveD (SLe.eq rfl)) rfl rfl ?_ | refine PSeqN.pure (PureOp.moveB (SLe.eq rfl)) rfl rfl ?_ | refine PSeqN.pure (PureOp.moveT (SLe.eq rfl)) rfl rfl ?_ | refine PSeqN.pure (PureOp.moveO (SLe.eq rfl)) rfl rfl ?_ | refine PSeqN.pure (PureOp.moveP (SLe.eq rfl)) rfl rfl ?_ | refine PSeqN.pure (PureOp.moveA (SLe.eq rfl)) rfl rfl ?_
        first | refine PSeqN.pure (PureOp.idx (e := 78) (sz := 7) (SLe.eq rfl) (SLe.eq rfl) rfl hrow (by kernel_rfl)) rfl rfl ?_ | refine PSeqN.pure (PureOp.idxR (e := 78) (sz := 7) (SLe.eq rfl) rfl (SLe.eq rfl) rfl (by simp; omega) rfl (by kernel_rfl)) rfl rfl ?_
        first | refine PSeqN.pure (PureOp.loadBN (sz := 7) (SLe.eq rfl) rfl rfl rfl rfl (by kernel_rfl)) rfl rfl ?_ | refine PSeqN.pure (PureOp.loadN (sz := 7) (SLe.eq rfl) rfl rfl (by kernel_rfl)) rfl rfl ?_ | refine PSeqN.pure (PureOp.loadON (sz := 7) (i := _) (SLe.eq rfl) rfl rfl (by assumption) rfl (by kernel_rfl)) rfl rfl ?_ | refine PSeqN.pure (PureOp.loadBS (sz := 7) (SLe.eq rfl) rfl rfl rfl (by kernel_rfl)) rfl rfl ?_
        first | refine PSeqN.pure (PureOp.loadBN (sz := 7) (SLe.eq rfl) rfl rfl rfl rfl (by kernel_rfl)) rfl rfl ?_ | refine PSeqN.pure (PureOp.loadN (sz := 7) (SLe.eq rfl) rfl rfl (by kernel_rfl)) rfl rfl ?_ | refine PSeqN.pure (PureOp.loadON (sz := 7) (i := _) (SLe.eq rfl) rfl rfl (by assumption) rfl (by kernel_rfl)) rfl rfl ?_ | refine PSeqN.pure (PureOp.loadBS (sz := 7) (SLe.eq rfl) rfl rfl rfl (by kernel_rfl)) rfl rfl ?_
        refine PSeqN.pure (PureOp.callV (SLe.eq rfl) (.cons (SLe.eq rfl) (by first | exact .d _ | exact View.osr rfl rfl | exact .bx rfl rfl | exact .agg (by repeat (first | exact .nil | refine .cons (by first | exact .d _ | exact View.osr rfl rfl) ?_)) | exact .fn (by repeat (first | exact .nil | refine .cons (by first | exact .d _ | exact View.osr rfl rfl | exact .bx rfl rfl) ?_))) (.cons (SLe.eq rfl) (by first | exact .d _ | exact View.osr rfl rfl | exact .bx rfl rfl | exact .agg (by repeat (first | exact .nil | refine .cons (by first | exact .d _ | exact View.osr rfl rfl) ?_)) | exact .fn (by repeat (first | exact .nil | refine .cons (by first | exact .d _ | exact View.osr rfl rfl | exact .bx rfl rfl) ?_))) .nil)) hg (hc x (mAt c x0 l i)) hf) rfl rfl ?_
        refine PSeqN.pure (PureOp.gtr (SLe.eq rfl) (SLe.eq rfl)) rfl rfl ?_
        refine PSeqN.nil ?_
        refine AO.nil ?_
        refine thenQ_normal ?_
        refine AC.cond (SLe.eq rfl) (fun hb => ?_) (fun hb => ?_)
        · skip
          have hm1 := hm.trans (if_pos hb)
          refine AC.region ?_
          first | refine AO.pure (PureOp.moveD (SLe.eq rfl)) rfl rfl ?_ | refine AO.pure (PureOp.moveB (SLe.eq rfl)) rfl rfl ?_ | refine AO.pure (PureOp.moveT (SLe.eq rfl)) rfl rfl ?_ | refine AO.pure (PureOp.moveO (SLe.eq rfl)) rfl rfl ?_ | refine AO.pure (PureOp.moveP (SLe.eq rfl)) rfl rfl ?_ | refine AO.pure (PureOp.moveA (SLe.eq rfl)) rfl rfl ?_
          first | refine AO.pure (PureOp.moveD (SLe.eq rfl)) rfl rfl ?_ | refine AO.pure (PureOp.moveB (SLe.eq rfl)) rfl rfl ?_ | refine AO.pure (PureOp.moveT (SLe.eq rfl)) rfl rfl ?_ | refine AO.pure (PureOp.moveO (SLe.eq rfl)) rfl rfl ?_ | refine AO.pure (PureOp.moveP (SLe.eq rfl)) rfl rfl ?_ | refine AO.pure (PureOp.moveA (SLe.eq rfl)) rfl rfl ?_
          first | refine AO.pure (PureOp.idx (e := 78) (sz := 7) (SLe.eq rfl) (SLe.eq rfl) rfl hrow (by kernel_rfl)) rfl rfl ?_ | refine AO.pure (PureOp.idxR (e := 78) (sz := 7) (SLe.eq rfl) rfl (SLe.eq rfl) rfl (by simp; omega) rfl (by kernel_rfl)) rfl rfl ?_
          first | refine AO.pure (PureOp.loadBN (sz := 7) (SLe.eq rfl) rfl rfl rfl rfl (by kernel_rfl)) rfl rfl ?_ | refine AO.pure (PureOp.loadN (sz := 7) (SLe.eq rfl) rfl rfl (by kernel_rfl)) rfl rfl ?_ | refine AO.pure (PureOp.loadON (sz := 7) (i := _) (SLe.eq rfl) rfl rfl (by assumption) rfl (by kernel_rfl)) rfl rfl ?_ | refine AO.pure (PureOp.loadBS (sz := 7) (SLe.eq rfl) rfl rfl rfl (by kernel_rfl)) rfl rfl ?_
          refine AO.store (SLe.eq rfl) (SLe.eq rfl) rfl rfl rfl rfl rfl (by kernel_rfl) rfl rfl ?_
          refine AO.nil ?_
          refine blockQ_normal ?_
          refine thenQ_normal ?_
          refine AC.region ?_
          first | refine AO.pure (PureOp.moveD (SLe.eq rfl)) rfl rfl ?_ | refine AO.pure (PureOp.moveB (SLe.eq rfl)) rfl rfl ?_ | refine AO.pure (PureOp.moveT (SLe.eq rfl)) rfl rfl ?_ | refine AO.pure (PureOp.moveO (SLe.eq rfl)) rfl rfl ?_ | refine AO.pure (PureOp.moveP (SLe.eq rfl)) rfl rfl ?_ | refine AO.pure (PureOp.moveA (SLe.eq rfl)) rfl rfl ?_
          refine AO.pure (PureOp.add (SLe.eq rfl) (SLe.eq rfl) (by omega) (by omega)) rfl rfl ?_
          first | refine AO.pure (PureOp.assignD (SLe.eq rfl)) rfl rfl ?_ | refine AO.pure (PureOp.assignB (SLe.eq rfl)) rfl rfl ?_ | refine AO.pure (PureOp.assignT (SLe.eq rfl)) rfl rfl ?_ | refine AO.pure (PureOp.assignO (SLe.eq rfl)) rfl rfl ?_ | refine AO.pure (PureOp.assignP (SLe.eq rfl)) rfl rfl ?_ | refine AO.pure (PureOp.assignA (SLe.eq rfl)) rfl rfl ?_
          refine AO.nil ?_
          refine thenQ_normal ?_
          refine ⟨i + 1, hlt, (by omega), ?_⟩
          rw [hm1]
          refine Le.mk [] ⟨(by first | exact ⟨SLe.eq rfl, rfl⟩ | exact rfl | exact ⟨SLe.nil rfl, rfl⟩ | exact ⟨SLe.int rfl (by omega), rfl⟩ | exact ⟨SLe.bool rfl (by simp_all), rfl⟩ | exact ⟨SLe.sl rfl (by simp_all), rfl⟩), (by first | exact ⟨SLe.eq rfl, rfl⟩ | exact rfl | exact ⟨SLe.nil rfl, rfl⟩ | exact ⟨SLe.int rfl (by omega), rfl⟩ | exact ⟨SLe.bool rfl (by simp_all), rfl⟩ | exact ⟨SLe.sl rfl (by simp_all), rfl⟩), (by first | exact ⟨SLe.eq rfl, rfl⟩ | exact rfl | exact ⟨SLe.nil rfl, rfl⟩ | exact ⟨SLe.int rfl (by omega), rfl⟩ | exact ⟨SLe.bool rfl (by simp_all), rfl⟩ | exact ⟨SLe.sl rfl (by simp_all), rfl⟩), (by first | exact ⟨SLe.eq rfl, rfl⟩ | exact rfl | exact ⟨SLe.nil rfl, rfl⟩ | exact ⟨SLe.int rfl (by omega), rfl⟩ | exact ⟨SLe.bool rfl (by simp_all), rfl⟩ | exact ⟨SLe.sl rfl (by simp_all), rfl⟩), (by first | exact ⟨SLe.eq rfl, rfl⟩ | exact rfl | exact ⟨SLe.nil rfl, rfl⟩ | exact ⟨SLe.int rfl (by omega), rfl⟩ | exact ⟨SLe.bool rfl (by simp_all), rfl⟩ | exact ⟨SLe.sl rfl (by simp_all), rfl⟩), trivial⟩ ⟨⟨_, rfl, ⟨(by first | exact ⟨SLe.eq rfl, rfl⟩ | exact rfl | exact ⟨SLe.nil rfl, rfl⟩ | exact ⟨SLe.int rfl (by omega), rfl⟩ | exact ⟨SLe.bool rfl (by simp_all), rfl⟩ | exact ⟨SLe.sl rfl (by simp_all), rfl⟩), (by first | exact ⟨SLe.eq rfl, rfl⟩ | exact rfl | exact ⟨SLe.nil rfl, rfl⟩ | exact ⟨SLe.int rfl (by omega), rfl⟩ | exact ⟨SLe.bool rfl (by simp_all), rfl⟩ | exact ⟨SLe.sl rfl (by simp_all), rfl⟩), (by first | exact ⟨SLe.eq rfl, rfl⟩ | exact rfl | exact ⟨SLe.nil rfl, rfl⟩ | exact ⟨SLe.int rfl (by omega), rfl⟩ | exact ⟨SLe.bool rfl (by simp_all), rfl⟩ | exact ⟨SLe.sl rfl (by simp_all), rfl⟩), (by first | exact ⟨SLe.eq rfl, rfl⟩ | exact rfl | exact ⟨SLe.nil rfl, rfl⟩ | exact ⟨SLe.int rfl (by omega), rfl⟩ | exact ⟨SLe.bool rfl (by simp_all), rfl⟩ | exact ⟨SLe.sl rfl (by simp_all), rfl⟩), (by first | exact ⟨SLe.eq rfl, rfl⟩ | exact rfl | exact ⟨SLe.nil rfl, rfl⟩ | exact ⟨SLe.int rfl (by omega), rfl⟩ | exact ⟨SLe.bool rfl (by simp_all), rfl⟩ | exact ⟨SLe.sl rfl (by simp_all), rfl⟩), (by first | exact ⟨SLe.eq rfl, rfl⟩ | exact rfl | exact ⟨SLe.nil rfl, rfl⟩ | exact ⟨SLe.int rfl (by omega), rfl⟩ | exact ⟨SLe.bool rfl (by simp_all), rfl⟩ | exact ⟨SLe.sl rfl (by simp_all), rfl⟩), (by first | exact ⟨SLe.eq rfl, rfl⟩ | exact rfl | exact ⟨SLe.nil rfl, rfl⟩ | exact ⟨SLe.int rfl (by omega), rfl⟩ | exact ⟨SLe.bool rfl (by simp_all), rfl⟩ | exact ⟨SLe.sl rfl (by simp_all), rfl⟩), trivial⟩⟩, ⟨_, rfl, ⟨(by first | exact ⟨SLe.eq rfl, rfl⟩ | exact rfl | exact ⟨SLe.nil rfl, rfl⟩ | exact ⟨SLe.int rfl (by omega), rfl⟩ | exact ⟨SLe.bool rfl (by simp_all), rfl⟩ | exact ⟨SLe.sl rfl (by simp_all), rfl⟩), (by first | exact ⟨SLe.eq rfl, rfl⟩ | exact rfl | exact ⟨SLe.nil rfl, rfl⟩ | exact ⟨SLe.int rfl (by omega), rfl⟩ | exact ⟨SLe.bool rfl (by simp_all), rfl⟩ | exact ⟨SLe.sl rfl (by simp_all), rfl⟩), (by first | exact ⟨SLe.eq rfl, rfl⟩ | exact rfl | exact ⟨SLe.nil rfl, rfl⟩ | exact ⟨SLe.int rfl (by omega), rfl⟩ | exact ⟨SLe.bool rfl (by simp_all), rfl⟩ | exact ⟨SLe.sl rfl (by simp_all), rfl⟩), (by first | exact ⟨SLe.eq rfl, rfl⟩ | exact rfl | exact ⟨SLe.nil rfl, rfl⟩ | exact ⟨SLe.int rfl (by omega), rfl⟩ | exact ⟨SLe.bool rfl (by simp_all), rfl⟩ | exact ⟨SLe.sl rfl (by simp_all), rfl⟩), (by first | exact ⟨SLe.eq rfl, rfl⟩ | exact rfl | exact ⟨SLe.nil rfl, rfl⟩ | exact ⟨SLe.int rfl (by omega), rfl⟩ | exact ⟨SLe.bool rfl (by simp_all), rfl⟩ | exact ⟨SLe.sl rfl (by simp_all), rfl⟩), (by first | exact ⟨SLe.eq rfl, rfl⟩ | exact rfl | exact ⟨SLe.nil rfl, rfl⟩ | exact ⟨SLe.int rfl (by omega), rfl⟩ | exact ⟨SLe.bool rfl (by simp_all), rfl⟩ | exact ⟨SLe.sl rfl (by simp_all), rfl⟩), (by first | exact ⟨SLe.eq rfl, rfl⟩ | exact rfl | exact ⟨SLe.nil rfl, rfl⟩ | exact ⟨SLe.int rfl (by omega), rfl⟩ | exact ⟨SLe.bool rfl (by simp_all), rfl⟩ | exact ⟨SLe.sl rfl (by simp_all), rfl⟩), trivial⟩⟩, trivial⟩ trivial rfl rfl rfl rfl rfl
        · skip
          have hm1 := hm.trans (if_neg (by rw [hb]; decide))
          refine AC.skip ?_
          refine blockQ_normal ?_
          refine thenQ_normal ?_
          refine AC.region ?_
          first | refine AO.pure (PureOp.moveD (SLe.eq rfl)) rfl rfl ?_ | refine AO.pure (PureOp.moveB (SLe.eq rfl)) rfl rfl ?_ | refine AO.pure (PureOp.moveT (SLe.eq rfl)) rfl rfl ?_ | refine AO.pure (PureOp.moveO (SLe.eq rfl)) rfl rfl ?_ | refine AO.pure (PureOp.moveP (SLe.eq rfl)) rfl rfl ?_ | refine AO.pure (PureOp.moveA (SLe.eq rfl)) rfl rfl ?_
          refine AO.pure (PureOp.add (SLe.eq rfl) (SLe.eq rfl) (by omega) (by omega)) rfl rfl ?_
          first | refine AO.pure (PureOp.assignD (SLe.eq rfl)) rfl rfl ?_ | refine AO.pure (PureOp.assignB (SLe.eq rfl)) rfl rfl ?_ | refine AO.pure (PureOp.assignT (SLe.eq rfl)) rfl rfl ?_ | refine AO.pure (PureOp.assignO (SLe.eq rfl)) rfl rfl ?_ | refine AO.pure (PureOp.assignP (SLe.eq rfl)) rfl rfl ?_ | refine AO.pure (PureOp.assignA (SLe.eq rfl)) rfl rfl ?_
          refine AO.nil ?_
          refine thenQ_normal ?_
          refine ⟨i + 1, hlt, (by omega), ?_⟩
          rw [hm1]
          refine Le.mk [] ⟨(by first | exact ⟨SLe.eq rfl, rfl⟩ | exact rfl | exact ⟨SLe.nil rfl, rfl⟩ | exact ⟨SLe.int rfl (by omega), rfl⟩ | exact ⟨SLe.bool rfl (by simp_all), rfl⟩ | exact ⟨SLe.sl rfl (by simp_all), rfl⟩), (by first | exact ⟨SLe.eq rfl, rfl⟩ | exact rfl | exact ⟨SLe.nil rfl, rfl⟩ | exact ⟨SLe.int rfl (by omega), rfl⟩ | exact ⟨SLe.bool rfl (by simp_all), rfl⟩ | exact ⟨SLe.sl rfl (by simp_all), rfl⟩), (by first | exact ⟨SLe.eq rfl, rfl⟩ | exact rfl | exact ⟨SLe.nil rfl, rfl⟩ | exact ⟨SLe.int rfl (by omega), rfl⟩ | exact ⟨SLe.bool rfl (by simp_all), rfl⟩ | exact ⟨SLe.sl rfl (by simp_all), rfl⟩), (by first | exact ⟨SLe.eq rfl, rfl⟩ | exact rfl | exact ⟨SLe.nil rfl, rfl⟩ | exact ⟨SLe.int rfl (by omega), rfl⟩ | exact ⟨SLe.bool rfl (by simp_all), rfl⟩ | exact ⟨SLe.sl rfl (by simp_all), rfl⟩), (by first | exact ⟨SLe.eq rfl, rfl⟩ | exact rfl | exact ⟨SLe.nil rfl, rfl⟩ | exact ⟨SLe.int rfl (by omega), rfl⟩ | exact ⟨SLe.bool rfl (by simp_all), rfl⟩ | exact ⟨SLe.sl rfl (by simp_all), rfl⟩), trivial⟩ ⟨⟨_, rfl, ⟨(by first | exact ⟨SLe.eq rfl, rfl⟩ | exact rfl | exact ⟨SLe.nil rfl, rfl⟩ | exact ⟨SLe.int rfl (by omega), rfl⟩ | exact ⟨SLe.bool rfl (by simp_all), rfl⟩ | exact ⟨SLe.sl rfl (by simp_all), rfl⟩), (by first | exact ⟨SLe.eq rfl, rfl⟩ | exact rfl | exact ⟨SLe.nil rfl, rfl⟩ | exact ⟨SLe.int rfl (by omega), rfl⟩ | exact ⟨SLe.bool rfl (by simp_all), rfl⟩ | exact ⟨SLe.sl rfl (by simp_all), rfl⟩), (by first | exact ⟨SLe.eq rfl, rfl⟩ | exact rfl | exact ⟨SLe.nil rfl, rfl⟩ | exact ⟨SLe.int rfl (by omega), rfl⟩ | exact ⟨SLe.bool rfl (by simp_all), rfl⟩ | exact ⟨SLe.sl rfl (by simp_all), rfl⟩), (by first | exact ⟨SLe.eq rfl, rfl⟩ | exact rfl | exact ⟨SLe.nil rfl, rfl⟩ | exact ⟨SLe.int rfl (by omega), rfl⟩ | exact ⟨SLe.bool rfl (by simp_all), rfl⟩ | exact ⟨SLe.sl rfl (by simp_all), rfl⟩), (by first | exact ⟨SLe.eq rfl, rfl⟩ | exact rfl | exact ⟨SLe.nil rfl, rfl⟩ | exact ⟨SLe.int rfl (by omega), rfl⟩ | exact ⟨SLe.bool rfl (by simp_all), rfl⟩ | exact ⟨SLe.sl rfl (by simp_all), rfl⟩), (by first | exact ⟨SLe.eq rfl, rfl⟩ | exact rfl | exact ⟨SLe.nil rfl, rfl⟩ | exact ⟨SLe.int rfl (by omega), rfl⟩ | exact ⟨SLe.bool rfl (by simp_all), rfl⟩ | exact ⟨SLe.sl rfl (by simp_all), rfl⟩), (by first | exact ⟨SLe.eq rfl, rfl⟩ | exact rfl | exact ⟨SLe.nil rfl, rfl⟩ | exact ⟨SLe.int rfl (by omega), rfl⟩ | exact ⟨SLe.bool rfl (by simp_all), rfl⟩ | exact ⟨SLe.sl rfl (by simp_all), rfl⟩), trivial⟩⟩, ⟨_, rfl, ⟨(by first | exact ⟨SLe.eq rfl, rfl⟩ | exact rfl | exact ⟨SLe.nil rfl, rfl⟩ | exact ⟨SLe.int rfl (by omega), rfl⟩ | exact ⟨SLe.bool rfl (by simp_all), rfl⟩ | exact ⟨SLe.sl rfl (by simp_all), rfl⟩), (by first | exact ⟨SLe.eq rfl, rfl⟩ | exact rfl | exact ⟨SLe.nil rfl, rfl⟩ | exact ⟨SLe.int rfl (by omega), rfl⟩ | exact ⟨SLe.bool rfl (by simp_all), rfl⟩ | exact ⟨SLe.sl rfl (by simp_all), rfl⟩), (by first | exact ⟨SLe.eq rfl, rfl⟩ | exact rfl | exact ⟨SLe.nil rfl, rfl⟩ | exact ⟨SLe.int rfl (by omega), rfl⟩ | exact ⟨SLe.bool rfl (by simp_all), rfl⟩ | exact ⟨SLe.sl rfl (by simp_all), rfl⟩), (by first | exact ⟨SLe.eq rfl, rfl⟩ | exact rfl | exact ⟨SLe.nil rfl, rfl⟩ | exact ⟨SLe.int rfl (by omega), rfl⟩ | exact ⟨SLe.bool rfl (by simp_all), rfl⟩ | exact ⟨SLe.sl rfl (by simp_all), rfl⟩), (by first | exact ⟨SLe.eq rfl, rfl⟩ | exact rfl | exact ⟨SLe.nil rfl, rfl⟩ | exact ⟨SLe.int rfl (by omega), rfl⟩ | exact ⟨SLe.bool rfl (by simp_all), rfl⟩ | exact ⟨SLe.sl rfl (by simp_all), rfl⟩), (by first | exact ⟨SLe.eq rfl, rfl⟩ | exact rfl | exact ⟨SLe.nil rfl, rfl⟩ | exact ⟨SLe.int rfl (by omega), rfl⟩ | exact ⟨SLe.bool rfl (by simp_all), rfl⟩ | exact ⟨SLe.sl rfl (by simp_all), rfl⟩), (by first | exact ⟨SLe.eq rfl, rfl⟩ | exact rfl | exact ⟨SLe.nil rfl, rfl⟩ | exact ⟨SLe.int rfl (by omega), rfl⟩ | exact ⟨SLe.bool rfl (by simp_all), rfl⟩ | exact ⟨SLe.sl rfl (by simp_all), rfl⟩), trivial⟩⟩, trivial⟩ trivial rfl rfl rfl rfl rfl
      · skip
        have hend : i = l.length := by rw [rr_length] at hb; have := of_decide_eq_false hb; simp at this; omega
        have hres : mAt c x0 l i = maxF c x0 l := by unfold mAt; rw [hend, List.take_length]
        refine AC.exit ?_
        refine thenQ_exit ?_
        refine thenQ_exit ?_
        refine blockQ_hit ?_
        refine thenQ_normal ?_
        refine AC.seq ?_
        refine AC.region ?_
        first | refine AO.pure (PureOp.loadBN (sz := 7) (SLe.eq rfl) rfl rfl rfl rfl (by kernel_rfl)) rfl rfl ?_ | refine AO.pure (PureOp.loadN (sz := 7) (SLe.eq rfl) rfl rfl (by kernel_rfl)) rfl rfl ?_ | refine AO.pure (PureOp.loadON (sz := 7) (i := _) (SLe.eq rfl) rfl rfl (by assumption) rfl (by kernel_rfl)) rfl rfl ?_ | refine AO.pure (PureOp.loadBS (sz := 7) (SLe.eq rfl) rfl rfl rfl (by kernel_rfl)) rfl rfl ?_
        refine AO.store (SLe.eq rfl) (SLe.eq rfl) rfl rfl rfl rfl rfl (by kernel_rfl) rfl rfl ?_
        refine AO.nil ?_
        refine thenQ_normal ?_
        refine AC.ret ?_
        refine ⟨rfl, _, ?_, ResOf.one (GetR.cell (sz := 7) (SLe.eq rfl) rfl rfl rfl rfl rfl (by kernel_rfl))⟩
        show D.agg _ = _
        rw [← hres]
        rfl

end Vis
end Eng
end Go.Proofs.Ytmmekdkllccmdaa
