/-
  Walk of the law VisitFarms.
-/
import Derived.Test.YtmmekdkllccmdabVisP
namespace Go.Proofs.Ytmmekdkllccmdab
open Go.RowKit Go.Sort
set_option linter.unusedVariables false
namespace Eng
namespace Vis
def fP (farm : Int) (x : Rep) : Bool := decide (x.f = farm)
theorem RepOK.filter {most : Nat} {l : List Rep} (h : RepOK most l) (p : Rep → Bool) : RepOK most (l.filter p) :=
  ⟨Nat.le_trans (List.length_filter_le _ _) h.len, fun x hx => h.all x (List.mem_filter.1 hx).1, nodup_filter p h.nod⟩
theorem filter_own {l : List Rep} {farm : Int} {p : Rep → Bool} (hp : ∀ x : Rep, p x = true → x.f = farm) : (l.filter (fP farm)).filter p = l.filter p := by
  rw [List.filter_filter]
  congr 1
  funext x
  rw [Bool.eq_iff_iff, Bool.and_eq_true]
  exact ⟨fun h => h.1, fun h => ⟨h, by unfold fP; simpa using hp x h⟩⟩
theorem lineS_own {l : List Rep} {farm : Int} (c1 : chkE l = 0) (c2 : chkE (l.filter (fP farm)) = 0) (line : Int) : lineS (l.filter (fP farm)) farm line = lineS l farm line := by
  unfold lineS
  rw [c1, c2, filter_own (p := atP farm line) (fun x hx => by unfold atP at hx; simp at hx; exact hx.1)]
  have : (l.filter (fP farm)).any (refP farm) = l.any (refP farm) := by
    rw [List.any_filter]
    congr 1
    funext x
    rw [Bool.eq_iff_iff, Bool.and_eq_true]
    exact ⟨fun h => h.2, fun h => ⟨by unfold refP at h; unfold fP; simp at h ⊢; exact h.1, h⟩⟩
  rw [this]
theorem refused_own (l : List Rep) (farm : Int) : (l.filter (fP farm)).any (refP farm) = l.any (refP farm) := by
  rw [List.any_filter]
  congr 1
  funext x
  rw [Bool.eq_iff_iff, Bool.and_eq_true]
  exact ⟨fun h => h.2, fun h => ⟨by unfold refP at h; unfold fP; simp at h ⊢; exact h.1, h⟩⟩
theorem lastS_own {l : List Rep} {farm : Int} (c1 : chkE l = 0) (c2 : chkE (l.filter (fP farm)) = 0) : lastS (l.filter (fP farm)) farm = lastS l farm := by
  unfold lastS
  rw [c1, c2]
  simp only [decide_true, if_true]
  rw [List.foldl_filter]
  congr 1
  funext m x
  unfold fP
  by_cases h : x.f = farm <;> simp [h]
theorem linesS_own {l : List Rep} {farm : Int} (c1 : chkE l = 0) (c2 : chkE (l.filter (fP farm)) = 0) : linesS (l.filter (fP farm)) farm = linesS l farm := by
  unfold linesS
  rw [c1, c2, filter_own (p := lnP farm) (fun x hx => by unfold lnP at hx; simp at hx; exact hx.1)]
theorem linesS_len (l : List Rep) (farm : Int) : (linesS l farm).length ≤ l.length := by
  unfold linesS
  split
  · unfold Lib.compact Lib.compactUpTo
    rw [List.length_map]
    refine Nat.le_trans (List.length_filter_le _ _) ?_
    simp only [List.length_range, List.length_mergeSort, List.length_map]
    exact List.length_filter_le _ _
  · simp
set_option maxRecDepth 100000 in
set_option maxHeartbeats 4000000 in
theorem walk_farms (a : Option Addr) (len cap : Nat) (w : World) (h : Keep.IntsAt w a len cap) : Calls Try.prog 5 #[.slice a len cap] w fun e w' => e = .returned (.bool true) ∧ Below w.heap.size w w' := by
  obtain ⟨hS, hsrc⟩ := src_of h
  refine law_of (args := [.d (.v (.slice a len cap))]) (vals := [.slice a len cap]) Try.func5 rfl rfl rfl rfl rfl hS rfl (fun i s u hs hu => ?_) ?_
  · match i, hs, hu with
    | 0, hs, hu => simp at hs hu; subst hs hu; exact .d _ _ (.v _)
    | i + 1, hs, hu => simp at hs
  refine AC.seq ?_
  refine AC.region ?_
  first | refine AO.pure (PureOp.assignD (SLe.eq rfl)) rfl rfl ?_ | refine AO.pure (PureOp.assignB (SLe.eq rfl)) rfl rfl ?_ | refine AO.pure (PureOp.assignT (SLe.eq rfl)) rfl rfl ?_ | refine AO.pure (PureOp.assignO (SLe.eq rfl)) rfl rfl ?_ | refine AO.pure (PureOp.assignP (SLe.eq rfl)) rfl rfl ?_ | refine AO.pure (PureOp.assignA (SLe.eq rfl)) rfl rfl ?_
  refine AO.nil ?_
  refine thenQ_normal ?_
  refine AC.seq ?_
  refine AC.region ?_
  first | refine AO.pure (PureOp.moveD (SLe.eq rfl)) rfl rfl ?_ | refine AO.pure (PureOp.moveB (SLe.eq rfl)) rfl rfl ?_ | refine AO.pure (PureOp.moveT (SLe.eq rfl)) rfl rfl ?_ | refine AO.pure (PureOp.moveO (SLe.eq rfl)) rfl rfl ?_ | refine AO.pure (PureOp.moveP (SLe.eq rfl)) rfl rfl ?_ | refine AO.pure (PureOp.moveA (SLe.eq rfl)) rfl rfl ?_
  refine AO.newT (SLe.eq rfl) hsrc (fun b hb => hb) (fun b hb => hb) rfl rfl rfl rfl ?_
  first | refine AO.pure (PureOp.assignD (SLe.eq rfl)) rfl rfl ?_ | refine AO.pure (PureOp.assignB (SLe.eq rfl)) rfl rfl ?_ | refine AO.pure (PureOp.assignT (SLe.eq rfl)) rfl rfl ?_ | refine AO.pure (PureOp.assignO (SLe.eq rfl)) rfl rfl ?_ | refine AO.pure (PureOp.assignP (SLe.eq rfl)) rfl rfl ?_ | refine AO.pure (PureOp.assignA (SLe.eq rfl)) rfl rfl ?_
  refine AO.nil ?_
  refine thenQ_normal ?_
  refine AC.seq ?_
  refine AC.region ?_
  first | refine AO.pure (PureOp.moveD (SLe.eq rfl)) rfl rfl ?_ | refine AO.pure (PureOp.moveB (SLe.eq rfl)) rfl rfl ?_ | refine AO.pure (PureOp.moveT (SLe.eq rfl)) rfl rfl ?_ | refine AO.pure (PureOp.moveO (SLe.eq rfl)) rfl rfl ?_ | refine AO.pure (PureOp.moveP (SLe.eq rfl)) rfl rfl ?_ | refine AO.pure (PureOp.moveA (SLe.eq rfl)) rfl rfl ?_
  refine AO.tcall (.tp (SLe.eq rfl) (.cons (SLe.eq rfl) (by first | exact .d _ | exact View.osr rfl rfl | exact .bx rfl rfl | exact .agg (by repeat (first | exact .nil | refine .cons (by first | exact .d _ | exact View.osr rfl rfl) ?_)) | exact .fn (by repeat (first | exact .nil | refine .cons (by first | exact .d _ | exact View.osr rfl rfl | exact .bx rfl rfl) ?_))) .nil)) (reports_c 8 (by omega)) rfl (by kernel_rfl) rfl ?_
  rintro _ ⟨l, rfl, hok⟩
  have hrl := rr_length l
  have hlen := hok.len
  have c1 := hok.chk (by omega)
  have c2 := fun f : Int => (hok.filter (fP f)).chk (by omega)
  have hl2 := fun f : Int => (hok.filter (fP f)).len
  have hb1 : l.length ≤ 4611686018427387903 := by omega
  have hb2 : ∀ f : Int, (l.filter (fP f)).length ≤ 4611686018427387903 := fun f => by have := hl2 f; omega
  have hb3 : l.length ≤ 4611686018427387904 := by omega
  have hb4 : ∀ f : Int, (l.filter (fP f)).length ≤ 4611686018427387904 := fun f => by have := hl2 f; omega
  have hb5 : ∀ f : Int, (linesS l f).length ≤ 4611686018427387903 := fun f => Nat.le_trans (linesS_len l f) hb1
  have hb6 : ∀ f : Int, (linesS (l.filter (fP f)) f).length ≤ 4611686018427387903 := fun f => Nat.le_trans (linesS_len _ f) (hb2 f)
  first | refine AO.pure (PureOp.assignD (SLe.eq rfl)) rfl rfl ?_ | refine AO.pure (PureOp.assignB (SLe.eq rfl)) rfl rfl ?_ | refine AO.pure (PureOp.assignT (SLe.eq rfl)) rfl rfl ?_ | refine AO.pure (PureOp.assignO (SLe.eq rfl)) rfl rfl ?_ | refine AO.pure (PureOp.assignP (SLe.eq rfl)) rfl rfl ?_ | refine AO.pure (PureOp.assignA (SLe.eq rfl)) rfl rfl ?_
  refine AO.nil ?_
  refine thenQ_normal ?_
  refine AC.seq ?_
  refine AC.seq ?_
  refine AC.region ?_
  first | refine AO.pure (PureOp.assignD (SLe.eq rfl)) rfl rfl ?_ | refine AO.pure (PureOp.assignB (SLe.eq rfl)) rfl rfl ?_ | refine AO.pure (PureOp.assignT (SLe.eq rfl)) rfl rfl ?_ | refine AO.pure (PureOp.assignO (SLe.eq rfl)) rfl rfl ?_ | refine AO.pure (PureOp.assignP (SLe.eq rfl)) rfl rfl ?_ | refine AO.pure (PureOp.assignA (SLe.eq rfl)) rfl rfl ?_
  refine AO.nil ?_
  refine thenQ_normal ?_
  refine AC.block ?_
  refine AC.loop (ι := Nat) (fun f => ⟨[(4, .d (.sl 7 (rr l))), (5, .d (iD (f : Int)))], [], [], 0, true, 73⟩) (fun f => 1 ≤ f ∧ f ≤ 4) (fun f => 4 - f) 1 ?_ ⟨Nat.le_refl 1, by omega⟩ ?_
  · refine Le.mk [] ⟨(by first | exact ⟨SLe.eq rfl, rfl⟩ | exact rfl | exact ⟨SLe.nil rfl, rfl⟩ | exact ⟨SLe.int rfl (by omega), rfl⟩ | exact ⟨SLe.bool rfl (by simp_all), rfl⟩ | exact ⟨SLe.sl rfl (by simp_all), rfl⟩), (by first | exact ⟨SLe.eq rfl, rfl⟩ | exact rfl | exact ⟨SLe.nil rfl, rfl⟩ | exact ⟨SLe.int rfl (by omega), rfl⟩ | exact ⟨SLe.bool rfl (by simp_all), rfl⟩ | exact ⟨SLe.sl rfl (by simp_all), rfl⟩), trivial⟩ trivial trivial rfl rfl rfl rfl rfl
  · rintro f ⟨hf1, hf2⟩
    refine AC.seq ?_
    refine AC.seq ?_
    refine AC.region ?_
    first | refine AO.pure (PureOp.moveD (SLe.eq rfl)) rfl rfl ?_ | refine AO.pure (PureOp.moveB (SLe.eq rfl)) rfl rfl ?_ | refine AO.pure (PureOp.moveT (SLe.eq rfl)) rfl rfl ?_ | refine AO.pure (PureOp.moveO (SLe.eq rfl)) rfl rfl ?_ | refine AO.pure (PureOp.moveP (SLe.eq rfl)) rfl rfl ?_ | refine AO.pure (PureOp.moveA (SLe.eq rfl)) rfl rfl ?_
    refine AO.pure (PureOp.leq (SLe.eq rfl) (SLe.eq rfl)) rfl rfl ?_
    refine AO.nil ?_
    refine thenQ_normal ?_
    refine AC.cond (SLe.eq rfl) (fun hb => ?_) (fun hb => ?_)
    · skip
      have hf3 : f ≤ 3 := by have := of_decide_eq_true hb; omega
      refine AC.skip ?_
      refine thenQ_normal ?_
      refine AC.seq ?_
      refine AC.block ?_
      refine AC.seq ?_
      refine AC.region ?_
      first | refine AO.pure (PureOp.assignD (SLe.eq rfl)) rfl rfl ?_ | refine AO.pure (PureOp.assignB (SLe.eq rfl)) rfl rfl ?_ | refine AO.pure (PureOp.assignT (SLe.eq rfl)) rfl rfl ?_ | refine AO.pure (PureOp.assignO (SLe.eq rfl)) rfl rfl ?_ | refine AO.pure (PureOp.assignP (SLe.eq rfl)) rfl rfl ?_ | refine AO.pure (PureOp.assignA (SLe.eq rfl)) rfl rfl ?_
      refine AO.nil ?_
      refine thenQ_normal ?_
      refine AC.seq ?_
      refine AC.seq ?_
      refine AC.region ?_
      first | refine AO.pure (PureOp.moveD (SLe.eq rfl)) rfl rfl ?_ | refine AO.pure (PureOp.moveB (SLe.eq rfl)) rfl rfl ?_ | refine AO.pure (PureOp.moveT (SLe.eq rfl)) rfl rfl ?_ | refine AO.pure (PureOp.moveO (SLe.eq rfl)) rfl rfl ?_ | refine AO.pure (PureOp.moveP (SLe.eq rfl)) rfl rfl ?_ | refine AO.pure (PureOp.moveA (SLe.eq rfl)) rfl rfl ?_
      first | refine AO.pure (PureOp.len (e := 32) (s' := 7) (SLe.eq rfl) (by kernel_rfl)) rfl rfl ?_ | refine AO.pure (PureOp.lenR (e := 32) (s' := 7) (SLe.eq rfl) rfl rfl (by kernel_rfl)) rfl rfl ?_ | refine AO.pure (PureOp.lenNil (e := 32) (s' := 7) (SLe.eq rfl) (by kernel_rfl)) rfl rfl ?_
      first | refine AO.pure (PureOp.moveD (SLe.eq rfl)) rfl rfl ?_ | refine AO.pure (PureOp.moveB (SLe.eq rfl)) rfl rfl ?_ | refine AO.pure (PureOp.moveT (SLe.eq rfl)) rfl rfl ?_ | refine AO.pure (PureOp.moveO (SLe.eq rfl)) rfl rfl ?_ | refine AO.pure (PureOp.moveP (SLe.eq rfl)) rfl rfl ?_ | refine AO.pure (PureOp.moveA (SLe.eq rfl)) rfl rfl ?_
      refine AO.nil ?_
      refine thenQ_normal ?_
      refine AC.block ?_
      refine AC.le (Le.ownNil 6 32 7 rfl rfl) ?_
      refine AC.loop (ι := Nat) (fun i => ⟨[(4, .d (.sl 7 (rr l))), (5, .d (iD (f : Int))), (6, .os 0), (18, .d (.sl 7 (rr l))), (19, .d (iD ((rr l).length : Int))), (20, .d (iD (i : Int)))], [], [(0, ⟨32, 7, rr ((l.take i).filter (fP f))⟩)], 1, true, 73⟩) (fun i => i ≤ l.length) (fun i => l.length - i) 0 ?_ (Nat.zero_le _) ?_
      · refine Le.mk [(0, 0)] ⟨(by first | exact ⟨SLe.eq rfl, rfl⟩ | exact rfl | exact ⟨SLe.nil rfl, rfl⟩ | exact ⟨SLe.int rfl (by omega), rfl⟩ | exact ⟨SLe.bool rfl (by simp_all), rfl⟩ | exact ⟨SLe.sl rfl (by simp_all), rfl⟩), (by first | exact ⟨SLe.eq rfl, rfl⟩ | exact rfl | exact ⟨SLe.nil rfl, rfl⟩ | exact ⟨SLe.int rfl (by omega), rfl⟩ | exact ⟨SLe.bool rfl (by simp_all), rfl⟩ | exact ⟨SLe.sl rfl (by simp_all), rfl⟩), (by first | exact ⟨SLe.eq rfl, rfl⟩ | exact rfl | exact ⟨SLe.nil rfl, rfl⟩ | exact ⟨SLe.int rfl (by omega), rfl⟩ | exact ⟨SLe.bool rfl (by simp_all), rfl⟩ | exact ⟨SLe.sl rfl (by simp_all), rfl⟩), (by first | exact ⟨SLe.eq rfl, rfl⟩ | exact rfl | exact ⟨SLe.nil rfl, rfl⟩ | exact ⟨SLe.int rfl (by omega), rfl⟩ | exact ⟨SLe.bool rfl (by simp_all), rfl⟩ | exact ⟨SLe.sl rfl (by simp_all), rfl⟩), (by first | exact ⟨SLe.eq rfl, rfl⟩ | exact rfl | exact ⟨SLe.nil rfl, rfl⟩ | exact ⟨SLe.int rfl (by omega), rfl⟩ | exact ⟨SLe.bool rfl (by simp_all), rfl⟩ | exact ⟨SLe.sl rfl (by simp_all), rfl⟩), (by first | exact ⟨SLe.eq rfl, rfl⟩ | exact rfl | exact ⟨SLe.nil rfl, rfl⟩ | exact ⟨SLe.int rfl (by omega), rfl⟩ | exact ⟨SLe.bool rfl (by simp_all), rfl⟩ | exact ⟨SLe.sl rfl (by simp_all), rfl⟩), trivial⟩ trivial ⟨⟨_, rfl, rfl⟩, trivial⟩ rfl rfl rfl rfl rfl
      · rintro i hi
        refine AC.seq ?_
        refine AC.region ?_
        refine AO.pure (PureOp.lss (SLe.eq rfl) (SLe.eq rfl)) rfl rfl ?_
        refine AO.nil ?_
        refine thenQ_normal ?_
        refine AC.seq ?_
        refine AC.cond (SLe.eq rfl) (fun hb => ?_) (fun hb => ?_)
        · skip
          obtain ⟨x, hx, hrow⟩ := rr_at hb
          have hlt := (List.getElem?_eq_some_iff.1 hx).1
          have hm := filt_succ (fP f) hx
          have hsl := filt_len l (fP f) i
          refine AC.skip ?_
          refine thenQ_normal ?_
          refine AC.seq ?_
          refine AC.block ?_
          refine AC.seq ?_
          refine AC.region ?_
          first | refine AO.pure (PureOp.idx (e := 32) (sz := 7) (SLe.eq rfl) (SLe.eq rfl) rfl hrow (by kernel_rfl)) rfl rfl ?_ | refine AO.pure (PureOp.idxR (e := 32) (sz := 7) (SLe.eq rfl) rfl (SLe.eq rfl) rfl (by simp; omega) rfl (by kernel_rfl)) rfl rfl ?_
          first | refine AO.pure (PureOp.loadBN (sz := 7) (SLe.eq rfl) rfl rfl rfl rfl (by kernel_rfl)) rfl rfl ?_ | refine AO.pure (PureOp.loadN (sz := 7) (SLe.eq rfl) rfl rfl (by kernel_rfl)) rfl rfl ?_ | refine AO.pure (PureOp.loadON (sz := 7) (i := _) (SLe.eq rfl) rfl rfl (by assumption) rfl (by kernel_rfl)) rfl rfl ?_ | refine AO.pure (PureOp.loadBS (sz := 7) (SLe.eq rfl) rfl rfl rfl (by kernel_rfl)) rfl rfl ?_
          refine AO.alloc (z := .agg #[.int .i64 0, .int .i64 0, .int .i64 0, .int .i64 0, .int .i64 0, .int .i64 0, .int .i64 0]) (by kernel_rfl) rfl rfl rfl ?_
          refine AO.store (SLe.eq rfl) (SLe.eq rfl) rfl rfl rfl rfl rfl (by kernel_rfl) rfl rfl ?_
          refine AO.nil ?_
          refine thenQ_normal ?_
          refine AC.seq ?_
          refine AC.region ?_
          first | refine AO.pure (PureOp.fldB (k := 1) (SLe.eq rfl) (by kernel_rfl)) rfl rfl ?_ | refine AO.pure (PureOp.fld (k := 1) (SLe.eq rfl) (by kernel_rfl)) rfl rfl ?_ | refine AO.pure (PureOp.fldO (k := 1) (SLe.eq rfl) (by kernel_rfl)) rfl rfl ?_
          first | refine AO.pure (PureOp.loadB1 (SLe.eq rfl) rfl rfl (by kernel_rfl)) rfl rfl ?_ | refine AO.pure (PureOp.load1 (SLe.eq rfl) rfl (by kernel_rfl)) rfl rfl ?_ | refine AO.pure (PureOp.loadO1 (i := _) (j := _) (SLe.eq rfl) rfl rfl (by assumption) rfl (by kernel_rfl)) rfl rfl ?_
          first | refine AO.pure (PureOp.moveD (SLe.eq rfl)) rfl rfl ?_ | refine AO.pure (PureOp.moveB (SLe.eq rfl)) rfl rfl ?_ | refine AO.pure (PureOp.moveT (SLe.eq rfl)) rfl rfl ?_ | refine AO.pure (PureOp.moveO (SLe.eq rfl)) rfl rfl ?_ | refine AO.pure (PureOp.moveP (SLe.eq rfl)) rfl rfl ?_ | refine AO.pure (PureOp.moveA (SLe.eq rfl)) rfl rfl ?_
          refine AO.pure (PureOp.eql (SLe.eq rfl) (SLe.eq rfl)) rfl rfl ?_
          refine AO.nil ?_
          refine thenQ_normal ?_
          refine AC.cond (SLe.eq rfl) (fun hb => ?_) (fun hb => ?_)
          · skip
            have hm1 := hm.trans (congrArg _ (if_pos hb))
            refine AC.region ?_
            first | refine AO.pure (PureOp.moveD (SLe.eq rfl)) rfl rfl ?_ | refine AO.pure (PureOp.moveB (SLe.eq rfl)) rfl rfl ?_ | refine AO.pure (PureOp.moveT (SLe.eq rfl)) rfl rfl ?_ | refine AO.pure (PureOp.moveO (SLe.eq rfl)) rfl rfl ?_ | refine AO.pure (PureOp.moveP (SLe.eq rfl)) rfl rfl ?_ | refine AO.pure (PureOp.moveA (SLe.eq rfl)) rfl rfl ?_
            first | refine AO.pure (PureOp.loadBN (sz := 7) (SLe.eq rfl) rfl rfl rfl rfl (by kernel_rfl)) rfl rfl ?_ | refine AO.pure (PureOp.loadN (sz := 7) (SLe.eq rfl) rfl rfl (by kernel_rfl)) rfl rfl ?_ | refine AO.pure (PureOp.loadON (sz := 7) (i := _) (SLe.eq rfl) rfl rfl (by assumption) rfl (by kernel_rfl)) rfl rfl ?_ | refine AO.pure (PureOp.loadBS (sz := 7) (SLe.eq rfl) rfl rfl rfl (by kernel_rfl)) rfl rfl ?_
            refine AO.pure (PureOp.buildSlice (e := 32) (sz := 7) (z := .agg #[.int .i64 0, .int .i64 0, .int .i64 0, .int .i64 0, .int .i64 0, .int .i64 0, .int .i64 0]) (by kernel_rfl) (by kernel_rfl) rfl rfl rfl (.cons (SLe.eq rfl) rfl .nil) rfl rfl rfl rfl) rfl rfl ?_
            refine AO.append (e := 32) (sz := 7) (bs := 56) (SLe.eq rfl) rfl (by first | exact SLe.eq rfl | exact SLe.nil rfl) (by kernel_rfl) (by simp only [List.length_cons, List.length_nil, rr_length]; omega) rfl ?_
            first | refine AO.pure (PureOp.assignD (SLe.eq rfl)) rfl rfl ?_ | refine AO.pure (PureOp.assignB (SLe.eq rfl)) rfl rfl ?_ | refine AO.pure (PureOp.assignT (SLe.eq rfl)) rfl rfl ?_ | refine AO.pure (PureOp.assignO (SLe.eq rfl)) rfl rfl ?_ | refine AO.pure (PureOp.assignP (SLe.eq rfl)) rfl rfl ?_ | refine AO.pure (PureOp.assignA (SLe.eq rfl)) rfl rfl ?_
            refine AO.nil ?_
            refine blockQ_normal ?_
            refine thenQ_normal ?_
            refine AC.region ?_
            refine AO.pure (PureOp.add (SLe.eq rfl) (SLe.eq rfl) (by omega) (by omega)) rfl rfl ?_
            first | refine AO.pure (PureOp.moveD (SLe.eq rfl)) rfl rfl ?_ | refine AO.pure (PureOp.moveB (SLe.eq rfl)) rfl rfl ?_ | refine AO.pure (PureOp.moveT (SLe.eq rfl)) rfl rfl ?_ | refine AO.pure (PureOp.moveO (SLe.eq rfl)) rfl rfl ?_ | refine AO.pure (PureOp.moveP (SLe.eq rfl)) rfl rfl ?_ | refine AO.pure (PureOp.moveA (SLe.eq rfl)) rfl rfl ?_
            refine AO.nil ?_
            refine thenQ_normal ?_
            refine ⟨i + 1, hlt, (by omega), ?_⟩
            rw [hm1]
            refine Le.mk [(0, 2)] ⟨(by first | exact ⟨SLe.eq rfl, rfl⟩ | exact rfl | exact ⟨SLe.nil rfl, rfl⟩ | exact ⟨SLe.int rfl (by omega), rfl⟩ | exact ⟨SLe.bool rfl (by simp_all), rfl⟩ | exact ⟨SLe.sl rfl (by simp_all), rfl⟩), (by first | exact ⟨SLe.eq rfl, rfl⟩ | exact rfl | exact ⟨SLe.nil rfl, rfl⟩ | exact ⟨SLe.int rfl (by omega), rfl⟩ | exact ⟨SLe.bool rfl (by simp_all), rfl⟩ | exact ⟨SLe.sl rfl (by simp_all), rfl⟩), (by first | exact ⟨SLe.eq rfl, rfl⟩ | exact rfl | exact ⟨SLe.nil rfl, rfl⟩ | exact ⟨SLe.int rfl (by omega), rfl⟩ | exact ⟨SLe.bool rfl (by simp_all), rfl⟩ | exact ⟨SLe.sl rfl (by simp_all), rfl⟩), (by first | exact ⟨SLe.eq rfl, rfl⟩ | exact rfl | exact ⟨SLe.nil rfl, rfl⟩ | exact ⟨SLe.int rfl (by omega), rfl⟩ | exact ⟨SLe.bool rfl (by simp_all), rfl⟩ | exact ⟨SLe.sl rfl (by simp_all), rfl⟩), (by first | exact ⟨SLe.eq rfl, rfl⟩ | exact rfl | exact ⟨SLe.nil rfl, rfl⟩ | exact ⟨SLe.int rfl (by omega), rfl⟩ | exact ⟨SLe.bool rfl (by simp_all), rfl⟩ | exact ⟨SLe.sl rfl (by simp_all), rfl⟩), (by first | exact ⟨SLe.eq rfl, rfl⟩ | exact rfl | exact ⟨SLe.nil rfl, rfl⟩ | exact ⟨SLe.int rfl (by omega), rfl⟩ | exact ⟨SLe.bool rfl (by simp_all), rfl⟩ | exact ⟨SLe.sl rfl (by simp_all), rfl⟩), trivial⟩ trivial ⟨⟨_, rfl, (by first | exact rr_snoc _ _ | (symm; exact (rr_snoc _ _).symm) | rfl)⟩, trivial⟩ rfl rfl rfl rfl rfl
          · skip
            have hm1 := hm.trans ((congrArg _ (if_neg (show ¬ fP f x = true from by unfold fP; rw [hb]; decide))).trans (List.append_nil _))
            refine AC.skip ?_
            refine blockQ_normal ?_
            refine thenQ_normal ?_
            refine AC.region ?_
            refine AO.pure (PureOp.add (SLe.eq rfl) (SLe.eq rfl) (by omega) (by omega)) rfl rfl ?_
            first | refine AO.pure (PureOp.moveD (SLe.eq rfl)) rfl rfl ?_ | refine AO.pure (PureOp.moveB (SLe.eq rfl)) rfl rfl ?_ | refine AO.pure (PureOp.moveT (SLe.eq rfl)) rfl rfl ?_ | refine AO.pure (PureOp.moveO (SLe.eq rfl)) rfl rfl ?_ | refine AO.pure (PureOp.moveP (SLe.eq rfl)) rfl rfl ?_ | refine AO.pure (PureOp.moveA (SLe.eq rfl)) rfl rfl ?_
            refine AO.nil ?_
            refine thenQ_normal ?_
            refine ⟨i + 1, hlt, (by omega), ?_⟩
            rw [hm1]
            refine Le.mk [(0, 0)] ⟨(by first | exact ⟨SLe.eq rfl, rfl⟩ | exact rfl | exact ⟨SLe.nil rfl, rfl⟩ | exact ⟨SLe.int rfl (by omega), rfl⟩ | exact ⟨SLe.bool rfl (by simp_all), rfl⟩ | exact ⟨SLe.sl rfl (by simp_all), rfl⟩), (by first | exact ⟨SLe.eq rfl, rfl⟩ | exact rfl | exact ⟨SLe.nil rfl, rfl⟩ | exact ⟨SLe.int rfl (by omega), rfl⟩ | exact ⟨SLe.bool rfl (by simp_all), rfl⟩ | exact ⟨SLe.sl rfl (by simp_all), rfl⟩), (by first | exact ⟨SLe.eq rfl, rfl⟩ | exact rfl | exact ⟨SLe.nil rfl, rfl⟩ | exact ⟨SLe.int rfl (by omega), rfl⟩ | exact ⟨SLe.bool rfl (by simp_all), rfl⟩ | exact ⟨SLe.sl rfl (by simp_all), rfl⟩), (by first | exact ⟨SLe.eq rfl, rfl⟩ | exact rfl | exact ⟨SLe.nil rfl, rfl⟩ | exact ⟨SLe.int rfl (by omega), rfl⟩ | exact ⟨SLe.bool rfl (by simp_all), rfl⟩ | exact ⟨SLe.sl rfl (by simp_all), rfl⟩), (by first | exact ⟨SLe.eq rfl, rfl⟩ | exact rfl | exact ⟨SLe.nil rfl, rfl⟩ | exact ⟨SLe.int rfl (by omega), rfl⟩ | exact ⟨SLe.bool rfl (by simp_all), rfl⟩ | exact ⟨SLe.sl rfl (by simp_all), rfl⟩), (by first | exact ⟨SLe.eq rfl, rfl⟩ | exact rfl | exact ⟨SLe.nil rfl, rfl⟩ | exact ⟨SLe.int rfl (by omega), rfl⟩ | exact ⟨SLe.bool rfl (by simp_all), rfl⟩ | exact ⟨SLe.sl rfl (by simp_all), rfl⟩), trivial⟩ trivial ⟨⟨_, rfl, (by first | exact rr_snoc _ _ | (symm; exact (rr_snoc _ _).symm) | rfl)⟩, trivial⟩ rfl rfl rfl rfl rfl
        · skip
          have hend : l.take i = l := by rw [rr_length] at hb; have := of_decide_eq_false hb; rw [List.take_of_length_le]; omega
          rw [hend]
          refine AC.exit ?_
          refine thenQ_exit ?_
          refine thenQ_exit ?_
          refine blockQ_hit ?_
          refine thenQ_normal ?_
          refine AC.seq ?_
          refine AC.seq ?_
          refine AC.region ?_
          first | refine AO.pure (PureOp.assignD (SLe.eq rfl)) rfl rfl ?_ | refine AO.pure (PureOp.assignB (SLe.eq rfl)) rfl rfl ?_ | refine AO.pure (PureOp.assignT (SLe.eq rfl)) rfl rfl ?_ | refine AO.pure (PureOp.assignO (SLe.eq rfl)) rfl rfl ?_ | refine AO.pure (PureOp.assignP (SLe.eq rfl)) rfl rfl ?_ | refine AO.pure (PureOp.assignA (SLe.eq rfl)) rfl rfl ?_
          refine AO.nil ?_
          refine thenQ_normal ?_
          refine AC.block ?_
          refine AC.loop (ι := Nat) (fun line => ⟨[(4, .d (.sl 7 (rr l))), (5, .d (iD (f : Int))), (6, .os 0), (9, .d (iD (line : Int)))], [], [(0, ⟨32, 7, rr (l.filter (fP f))⟩)], 1, true, 73⟩) (fun line => line ≤ 3) (fun line => 3 - line) 0 ?_ (Nat.zero_le _) ?_
          · refine Le.mk [(0, 0)] ⟨(by first | exact ⟨SLe.eq rfl, rfl⟩ | exact rfl | exact ⟨SLe.nil rfl, rfl⟩ | exact ⟨SLe.int rfl (by omega), rfl⟩ | exact ⟨SLe.bool rfl (by simp_all), rfl⟩ | exact ⟨SLe.sl rfl (by simp_all), rfl⟩), (by first | exact ⟨SLe.eq rfl, rfl⟩ | exact rfl | exact ⟨SLe.nil rfl, rfl⟩ | exact ⟨SLe.int rfl (by omega), rfl⟩ | exact ⟨SLe.bool rfl (by simp_all), rfl⟩ | exact ⟨SLe.sl rfl (by simp_all), rfl⟩), (by first | exact ⟨SLe.eq rfl, rfl⟩ | exact rfl | exact ⟨SLe.nil rfl, rfl⟩ | exact ⟨SLe.int rfl (by omega), rfl⟩ | exact ⟨SLe.bool rfl (by simp_all), rfl⟩ | exact ⟨SLe.sl rfl (by simp_all), rfl⟩), (by first | exact ⟨SLe.eq rfl, rfl⟩ | exact rfl | exact ⟨SLe.nil rfl, rfl⟩ | exact ⟨SLe.int rfl (by omega), rfl⟩ | exact ⟨SLe.bool rfl (by simp_all), rfl⟩ | exact ⟨SLe.sl rfl (by simp_all), rfl⟩), trivial⟩ trivial ⟨⟨_, rfl, rfl⟩, trivial⟩ rfl rfl rfl rfl rfl
          · rintro line hln
            refine AC.seq ?_
            refine AC.seq ?_
            refine AC.region ?_
            first | refine AO.pure (PureOp.moveD (SLe.eq rfl)) rfl rfl ?_ | refine AO.pure (PureOp.moveB (SLe.eq rfl)) rfl rfl ?_ | refine AO.pure (PureOp.moveT (SLe.eq rfl)) rfl rfl ?_ | refine AO.pure (PureOp.moveO (SLe.eq rfl)) rfl rfl ?_ | refine AO.pure (PureOp.moveP (SLe.eq rfl)) rfl rfl ?_ | refine AO.pure (PureOp.moveA (SLe.eq rfl)) rfl rfl ?_
            refine AO.pure (PureOp.lss (SLe.eq rfl) (SLe.eq rfl)) rfl rfl ?_
            refine AO.nil ?_
            refine thenQ_normal ?_
            refine AC.cond (SLe.eq rfl) (fun hb => ?_) (fun hb => ?_)
            · skip
              have hl3 : line < 3 := by have := of_decide_eq_true hb; omega
              refine AC.skip ?_
              refine thenQ_normal ?_
              refine AC.seq ?_
              refine AC.block ?_
              refine AC.seq ?_
              refine AC.region ?_
              first | refine AO.pure (PureOp.moveD (SLe.eq rfl)) rfl rfl ?_ | refine AO.pure (PureOp.moveB (SLe.eq rfl)) rfl rfl ?_ | refine AO.pure (PureOp.moveT (SLe.eq rfl)) rfl rfl ?_ | refine AO.pure (PureOp.moveO (SLe.eq rfl)) rfl rfl ?_ | refine AO.pure (PureOp.moveP (SLe.eq rfl)) rfl rfl ?_ | refine AO.pure (PureOp.moveA (SLe.eq rfl)) rfl rfl ?_
              first | refine AO.pure (PureOp.moveD (SLe.eq rfl)) rfl rfl ?_ | refine AO.pure (PureOp.moveB (SLe.eq rfl)) rfl rfl ?_ | refine AO.pure (PureOp.moveT (SLe.eq rfl)) rfl rfl ?_ | refine AO.pure (PureOp.moveO (SLe.eq rfl)) rfl rfl ?_ | refine AO.pure (PureOp.moveP (SLe.eq rfl)) rfl rfl ?_ | refine AO.pure (PureOp.moveA (SLe.eq rfl)) rfl rfl ?_
              first | refine AO.pure (PureOp.moveD (SLe.eq rfl)) rfl rfl ?_ | refine AO.pure (PureOp.moveB (SLe.eq rfl)) rfl rfl ?_ | refine AO.pure (PureOp.moveT (SLe.eq rfl)) rfl rfl ?_ | refine AO.pure (PureOp.moveO (SLe.eq rfl)) rfl rfl ?_ | refine AO.pure (PureOp.moveP (SLe.eq rfl)) rfl rfl ?_ | refine AO.pure (PureOp.moveA (SLe.eq rfl)) rfl rfl ?_
              refine AO.pure (PureOp.pcall (.cons (SLe.eq rfl) (by first | exact .d _ | exact View.osr rfl rfl | exact .bx rfl rfl | exact .agg (by repeat (first | exact .nil | refine .cons (by first | exact .d _ | exact View.osr rfl rfl) ?_)) | exact .fn (by repeat (first | exact .nil | refine .cons (by first | exact .d _ | exact View.osr rfl rfl | exact .bx rfl rfl) ?_))) (.cons (SLe.eq rfl) (by first | exact .d _ | exact View.osr rfl rfl | exact .bx rfl rfl | exact .agg (by repeat (first | exact .nil | refine .cons (by first | exact .d _ | exact View.osr rfl rfl) ?_)) | exact .fn (by repeat (first | exact .nil | refine .cons (by first | exact .d _ | exact View.osr rfl rfl | exact .bx rfl rfl) ?_))) (.cons (SLe.eq rfl) (by first | exact .d _ | exact View.osr rfl rfl | exact .bx rfl rfl | exact .agg (by repeat (first | exact .nil | refine .cons (by first | exact .d _ | exact View.osr rfl rfl) ?_)) | exact .fn (by repeat (first | exact .nil | refine .cons (by first | exact .d _ | exact View.osr rfl rfl | exact .bx rfl rfl) ?_))) .nil))) (line_any l f line hb1) (by kernel_rfl)) rfl rfl ?_
              first | refine AO.pure (PureOp.moveD (SLe.eq rfl)) rfl rfl ?_ | refine AO.pure (PureOp.moveB (SLe.eq rfl)) rfl rfl ?_ | refine AO.pure (PureOp.moveT (SLe.eq rfl)) rfl rfl ?_ | refine AO.pure (PureOp.moveO (SLe.eq rfl)) rfl rfl ?_ | refine AO.pure (PureOp.moveP (SLe.eq rfl)) rfl rfl ?_ | refine AO.pure (PureOp.moveA (SLe.eq rfl)) rfl rfl ?_
              first | refine AO.pure (PureOp.moveD (SLe.eq rfl)) rfl rfl ?_ | refine AO.pure (PureOp.moveB (SLe.eq rfl)) rfl rfl ?_ | refine AO.pure (PureOp.moveT (SLe.eq rfl)) rfl rfl ?_ | refine AO.pure (PureOp.moveO (SLe.eq rfl)) rfl rfl ?_ | refine AO.pure (PureOp.moveP (SLe.eq rfl)) rfl rfl ?_ | refine AO.pure (PureOp.moveA (SLe.eq rfl)) rfl rfl ?_
              first | refine AO.pure (PureOp.moveD (SLe.eq rfl)) rfl rfl ?_ | refine AO.pure (PureOp.moveB (SLe.eq rfl)) rfl rfl ?_ | refine AO.pure (PureOp.moveT (SLe.eq rfl)) rfl rfl ?_ | refine AO.pure (PureOp.moveO (SLe.eq rfl)) rfl rfl ?_ | refine AO.pure (PureOp.moveP (SLe.eq rfl)) rfl rfl ?_ | refine AO.pure (PureOp.moveA (SLe.eq rfl)) rfl rfl ?_
              refine AO.pure (PureOp.pcall (.cons (SLe.eq rfl) (by first | exact .d _ | exact View.osr rfl rfl | exact .bx rfl rfl | exact .agg (by repeat (first | exact .nil | refine .cons (by first | exact .d _ | exact View.osr rfl rfl) ?_)) | exact .fn (by repeat (first | exact .nil | refine .cons (by first | exact .d _ | exact View.osr rfl rfl | exact .bx rfl rfl) ?_))) (.cons (SLe.eq rfl) (by first | exact .d _ | exact View.osr rfl rfl | exact .bx rfl rfl | exact .agg (by repeat (first | exact .nil | refine .cons (by first | exact .d _ | exact View.osr rfl rfl) ?_)) | exact .fn (by repeat (first | exact .nil | refine .cons (by first | exact .d _ | exact View.osr rfl rfl | exact .bx rfl rfl) ?_))) (.cons (SLe.eq rfl) (by first | exact .d _ | exact View.osr rfl rfl | exact .bx rfl rfl | exact .agg (by repeat (first | exact .nil | refine .cons (by first | exact .d _ | exact View.osr rfl rfl) ?_)) | exact .fn (by repeat (first | exact .nil | refine .cons (by first | exact .d _ | exact View.osr rfl rfl | exact .bx rfl rfl) ?_))) .nil))) (line_any (l.filter (fP f)) f line (hb2 f)) (by kernel_rfl)) rfl rfl ?_
              refine AO.pure (PureOp.neqA (ks := [false, false, false]) (by kernel_rfl) (SLe.eq rfl) (SLe.eq rfl) rfl) rfl rfl ?_
              refine AO.nil ?_
              refine thenQ_normal ?_
              refine AC.cond (SLe.eq rfl) (fun hb => ?_) (fun hb => ?_)
              · skip
                rw [lineS_own c1 (c2 f)] at hb
                simp at hb
              · skip
                refine AC.skip ?_
                refine blockQ_normal ?_
                refine thenQ_normal ?_
                refine AC.region ?_
                first | refine AO.pure (PureOp.moveD (SLe.eq rfl)) rfl rfl ?_ | refine AO.pure (PureOp.moveB (SLe.eq rfl)) rfl rfl ?_ | refine AO.pure (PureOp.moveT (SLe.eq rfl)) rfl rfl ?_ | refine AO.pure (PureOp.moveO (SLe.eq rfl)) rfl rfl ?_ | refine AO.pure (PureOp.moveP (SLe.eq rfl)) rfl rfl ?_ | refine AO.pure (PureOp.moveA (SLe.eq rfl)) rfl rfl ?_
                refine AO.pure (PureOp.add (SLe.eq rfl) (SLe.eq rfl) (by omega) (by omega)) rfl rfl ?_
                first | refine AO.pure (PureOp.assignD (SLe.eq rfl)) rfl rfl ?_ | refine AO.pure (PureOp.assignB (SLe.eq rfl)) rfl rfl ?_ | refine AO.pure (PureOp.assignT (SLe.eq rfl)) rfl rfl ?_ | refine AO.pure (PureOp.assignO (SLe.eq rfl)) rfl rfl ?_ | refine AO.pure (PureOp.assignP (SLe.eq rfl)) rfl rfl ?_ | refine AO.pure (PureOp.assignA (SLe.eq rfl)) rfl rfl ?_
                refine AO.nil ?_
                refine thenQ_normal ?_
                refine ⟨line + 1, (by omega), (by omega), ?_⟩
                refine Le.mk [(0, 0)] ⟨(by first | exact ⟨SLe.eq rfl, rfl⟩ | exact rfl | exact ⟨SLe.nil rfl, rfl⟩ | exact ⟨SLe.int rfl (by omega), rfl⟩ | exact ⟨SLe.bool rfl (by simp_all), rfl⟩ | exact ⟨SLe.sl rfl (by simp_all), rfl⟩), (by first | exact ⟨SLe.eq rfl, rfl⟩ | exact rfl | exact ⟨SLe.nil rfl, rfl⟩ | exact ⟨SLe.int rfl (by omega), rfl⟩ | exact ⟨SLe.bool rfl (by simp_all), rfl⟩ | exact ⟨SLe.sl rfl (by simp_all), rfl⟩), (by first | exact ⟨SLe.eq rfl, rfl⟩ | exact rfl | exact ⟨SLe.nil rfl, rfl⟩ | exact ⟨SLe.int rfl (by omega), rfl⟩ | exact ⟨SLe.bool rfl (by simp_all), rfl⟩ | exact ⟨SLe.sl rfl (by simp_all), rfl⟩), (by first | exact ⟨SLe.eq rfl, rfl⟩ | exact rfl | exact ⟨SLe.nil rfl, rfl⟩ | exact ⟨SLe.int rfl (by omega), rfl⟩ | exact ⟨SLe.bool rfl (by simp_all), rfl⟩ | exact ⟨SLe.sl rfl (by simp_all), rfl⟩), trivial⟩ trivial ⟨⟨_, rfl, rfl⟩, trivial⟩ rfl rfl rfl rfl rfl
            · skip
              refine AC.exit ?_
              refine thenQ_exit ?_
              refine thenQ_exit ?_
              refine blockQ_hit ?_
              refine thenQ_normal ?_
              refine AC.seq ?_
              refine AC.region ?_
              first | refine AO.pure (PureOp.moveD (SLe.eq rfl)) rfl rfl ?_ | refine AO.pure (PureOp.moveB (SLe.eq rfl)) rfl rfl ?_ | refine AO.pure (PureOp.moveT (SLe.eq rfl)) rfl rfl ?_ | refine AO.pure (PureOp.moveO (SLe.eq rfl)) rfl rfl ?_ | refine AO.pure (PureOp.moveP (SLe.eq rfl)) rfl rfl ?_ | refine AO.pure (PureOp.moveA (SLe.eq rfl)) rfl rfl ?_
              first | refine AO.pure (PureOp.moveD (SLe.eq rfl)) rfl rfl ?_ | refine AO.pure (PureOp.moveB (SLe.eq rfl)) rfl rfl ?_ | refine AO.pure (PureOp.moveT (SLe.eq rfl)) rfl rfl ?_ | refine AO.pure (PureOp.moveO (SLe.eq rfl)) rfl rfl ?_ | refine AO.pure (PureOp.moveP (SLe.eq rfl)) rfl rfl ?_ | refine AO.pure (PureOp.moveA (SLe.eq rfl)) rfl rfl ?_
              refine AO.pure (PureOp.pcall (.cons (SLe.eq rfl) (by first | exact .d _ | exact View.osr rfl rfl | exact .bx rfl rfl | exact .agg (by repeat (first | exact .nil | refine .cons (by first | exact .d _ | exact View.osr rfl rfl) ?_)) | exact .fn (by repeat (first | exact .nil | refine .cons (by first | exact .d _ | exact View.osr rfl rfl | exact .bx rfl rfl) ?_))) (.cons (SLe.eq rfl) (by first | exact .d _ | exact View.osr rfl rfl | exact .bx rfl rfl | exact .agg (by repeat (first | exact .nil | refine .cons (by first | exact .d _ | exact View.osr rfl rfl) ?_)) | exact .fn (by repeat (first | exact .nil | refine .cons (by first | exact .d _ | exact View.osr rfl rfl | exact .bx rfl rfl) ?_))) .nil)) (last_any l f hb1) (by kernel_rfl)) rfl rfl ?_
              first | refine AO.pure (PureOp.moveD (SLe.eq rfl)) rfl rfl ?_ | refine AO.pure (PureOp.moveB (SLe.eq rfl)) rfl rfl ?_ | refine AO.pure (PureOp.moveT (SLe.eq rfl)) rfl rfl ?_ | refine AO.pure (PureOp.moveO (SLe.eq rfl)) rfl rfl ?_ | refine AO.pure (PureOp.moveP (SLe.eq rfl)) rfl rfl ?_ | refine AO.pure (PureOp.moveA (SLe.eq rfl)) rfl rfl ?_
              first | refine AO.pure (PureOp.moveD (SLe.eq rfl)) rfl rfl ?_ | refine AO.pure (PureOp.moveB (SLe.eq rfl)) rfl rfl ?_ | refine AO.pure (PureOp.moveT (SLe.eq rfl)) rfl rfl ?_ | refine AO.pure (PureOp.moveO (SLe.eq rfl)) rfl rfl ?_ | refine AO.pure (PureOp.moveP (SLe.eq rfl)) rfl rfl ?_ | refine AO.pure (PureOp.moveA (SLe.eq rfl)) rfl rfl ?_
              refine AO.pure (PureOp.pcall (.cons (SLe.eq rfl) (by first | exact .d _ | exact View.osr rfl rfl | exact .bx rfl rfl | exact .agg (by repeat (first | exact .nil | refine .cons (by first | exact .d _ | exact View.osr rfl rfl) ?_)) | exact .fn (by repeat (first | exact .nil | refine .cons (by first | exact .d _ | exact View.osr rfl rfl | exact .bx rfl rfl) ?_))) (.cons (SLe.eq rfl) (by first | exact .d _ | exact View.osr rfl rfl | exact .bx rfl rfl | exact .agg (by repeat (first | exact .nil | refine .cons (by first | exact .d _ | exact View.osr rfl rfl) ?_)) | exact .fn (by repeat (first | exact .nil | refine .cons (by first | exact .d _ | exact View.osr rfl rfl | exact .bx rfl rfl) ?_))) .nil)) (last_any (l.filter (fP f)) f (hb2 f)) (by kernel_rfl)) rfl rfl ?_
              refine AO.pure (PureOp.neq (SLe.eq rfl) (SLe.eq rfl)) rfl rfl ?_
              first | refine AO.pure (PureOp.moveD (SLe.eq rfl)) rfl rfl ?_ | refine AO.pure (PureOp.moveB (SLe.eq rfl)) rfl rfl ?_ | refine AO.pure (PureOp.moveT (SLe.eq rfl)) rfl rfl ?_ | refine AO.pure (PureOp.moveO (SLe.eq rfl)) rfl rfl ?_ | refine AO.pure (PureOp.moveP (SLe.eq rfl)) rfl rfl ?_ | refine AO.pure (PureOp.moveA (SLe.eq rfl)) rfl rfl ?_
              first | refine AO.guarded rfl rfl (fun hG => PureOp.moveD (SLe.eq rfl)) rfl rfl ?_ | refine AO.guarded rfl rfl (fun hG => PureOp.moveB (SLe.eq rfl)) rfl rfl ?_ | refine AO.guarded rfl rfl (fun hG => PureOp.moveT (SLe.eq rfl)) rfl rfl ?_ | refine AO.guarded rfl rfl (fun hG => PureOp.moveO (SLe.eq rfl)) rfl rfl ?_ | refine AO.guarded rfl rfl (fun hG => PureOp.moveP (SLe.eq rfl)) rfl rfl ?_ | refine AO.guarded rfl rfl (fun hG => PureOp.moveA (SLe.eq rfl)) rfl rfl ?_
              first | refine AO.guarded rfl rfl (fun hG => PureOp.moveD (SLe.eq rfl)) rfl rfl ?_ | refine AO.guarded rfl rfl (fun hG => PureOp.moveB (SLe.eq rfl)) rfl rfl ?_ | refine AO.guarded rfl rfl (fun hG => PureOp.moveT (SLe.eq rfl)) rfl rfl ?_ | refine AO.guarded rfl rfl (fun hG => PureOp.moveO (SLe.eq rfl)) rfl rfl ?_ | refine AO.guarded rfl rfl (fun hG => PureOp.moveP (SLe.eq rfl)) rfl rfl ?_ | refine AO.guarded rfl rfl (fun hG => PureOp.moveA (SLe.eq rfl)) rfl rfl ?_
              refine AO.guarded rfl rfl (fun hG => PureOp.pcall (.cons (SLe.cnd rfl (by first | exact hG | (simp only [Bool.and_eq_true, beq_iff_eq] at hG ⊢; simp [hG]) | simp_all)) (by first | exact .d _ | exact View.osr rfl rfl | exact .bx rfl rfl | exact .agg (by repeat (first | exact .nil | refine .cons (by first | exact .d _ | exact View.osr rfl rfl) ?_)) | exact .fn (by repeat (first | exact .nil | refine .cons (by first | exact .d _ | exact View.osr rfl rfl | exact .bx rfl rfl) ?_))) (.cons (SLe.cnd rfl (by first | exact hG | (simp only [Bool.and_eq_true, beq_iff_eq] at hG ⊢; simp [hG]) | simp_all)) (by first | exact .d _ | exact View.osr rfl rfl | exact .bx rfl rfl | exact .agg (by repeat (first | exact .nil | refine .cons (by first | exact .d _ | exact View.osr rfl rfl) ?_)) | exact .fn (by repeat (first | exact .nil | refine .cons (by first | exact .d _ | exact View.osr rfl rfl | exact .bx rfl rfl) ?_))) .nil)) (refused_any l f hb3) (by kernel_rfl)) rfl rfl ?_
              first | refine AO.guarded rfl rfl (fun hG => PureOp.moveD (SLe.eq rfl)) rfl rfl ?_ | refine AO.guarded rfl rfl (fun hG => PureOp.moveB (SLe.eq rfl)) rfl rfl ?_ | refine AO.guarded rfl rfl (fun hG => PureOp.moveT (SLe.eq rfl)) rfl rfl ?_ | refine AO.guarded rfl rfl (fun hG => PureOp.moveO (SLe.eq rfl)) rfl rfl ?_ | refine AO.guarded rfl rfl (fun hG => PureOp.moveP (SLe.eq rfl)) rfl rfl ?_ | refine AO.guarded rfl rfl (fun hG => PureOp.moveA (SLe.eq rfl)) rfl rfl ?_
              first | refine AO.guarded rfl rfl (fun hG => PureOp.moveD (SLe.eq rfl)) rfl rfl ?_ | refine AO.guarded rfl rfl (fun hG => PureOp.moveB (SLe.eq rfl)) rfl rfl ?_ | refine AO.guarded rfl rfl (fun hG => PureOp.moveT (SLe.eq rfl)) rfl rfl ?_ | refine AO.guarded rfl rfl (fun hG => PureOp.moveO (SLe.eq rfl)) rfl rfl ?_ | refine AO.guarded rfl rfl (fun hG => PureOp.moveP (SLe.eq rfl)) rfl rfl ?_ | refine AO.guarded rfl rfl (fun hG => PureOp.moveA (SLe.eq rfl)) rfl rfl ?_
              refine AO.guarded rfl rfl (fun hG => PureOp.pcall (.cons (SLe.cnd rfl (by first | exact hG | (simp only [Bool.and_eq_true, beq_iff_eq] at hG ⊢; simp [hG]) | simp_all)) (by first | exact .d _ | exact View.osr rfl rfl | exact .bx rfl rfl | exact .agg (by repeat (first | exact .nil | refine .cons (by first | exact .d _ | exact View.osr rfl rfl) ?_)) | exact .fn (by repeat (first | exact .nil | refine .cons (by first | exact .d _ | exact View.osr rfl rfl | exact .bx rfl rfl) ?_))) (.cons (SLe.cnd rfl (by first | exact hG | (simp only [Bool.and_eq_true, beq_iff_eq] at hG ⊢; simp [hG]) | simp_all)) (by first | exact .d _ | exact View.osr rfl rfl | exact .bx rfl rfl | exact .agg (by repeat (first | exact .nil | refine .cons (by first | exact .d _ | exact View.osr rfl rfl) ?_)) | exact .fn (by repeat (first | exact .nil | refine .cons (by first | exact .d _ | exact View.osr rfl rfl | exact .bx rfl rfl) ?_))) .nil)) (refused_any (l.filter (fP f)) f (hb4 f)) (by kernel_rfl)) rfl rfl ?_
              refine AO.guarded rfl rfl (fun hG => PureOp.neqB (SLe.cnd rfl (by first | exact hG | (simp only [Bool.and_eq_true, beq_iff_eq] at hG ⊢; simp [hG]) | simp_all)) (SLe.cnd rfl (by first | exact hG | (simp only [Bool.and_eq_true, beq_iff_eq] at hG ⊢; simp [hG]) | simp_all)) (by kernel_rfl)) rfl rfl ?_
              refine AO.pure (PureOp.pickOr (SLe.eq rfl) rfl rfl (by intro h; simp_all)) rfl rfl ?_
              first | refine AO.pure (PureOp.moveD (SLe.eq rfl)) rfl rfl ?_ | refine AO.pure (PureOp.moveB (SLe.eq rfl)) rfl rfl ?_ | refine AO.pure (PureOp.moveT (SLe.eq rfl)) rfl rfl ?_ | refine AO.pure (PureOp.moveO (SLe.eq rfl)) rfl rfl ?_ | refine AO.pure (PureOp.moveP (SLe.eq rfl)) rfl rfl ?_ | refine AO.pure (PureOp.moveA (SLe.eq rfl)) rfl rfl ?_
              first | refine AO.guarded rfl rfl (fun hG => PureOp.moveD (SLe.eq rfl)) rfl rfl ?_ | refine AO.guarded rfl rfl (fun hG => PureOp.moveB (SLe.eq rfl)) rfl rfl ?_ | refine AO.guarded rfl rfl (fun hG => PureOp.moveT (SLe.eq rfl)) rfl rfl ?_ | refine AO.guarded rfl rfl (fun hG => PureOp.moveO (SLe.eq rfl)) rfl rfl ?_ | refine AO.guarded rfl rfl (fun hG => PureOp.moveP (SLe.eq rfl)) rfl rfl ?_ | refine AO.guarded rfl rfl (fun hG => PureOp.moveA (SLe.eq rfl)) rfl rfl ?_
              first | refine AO.guarded rfl rfl (fun hG => PureOp.moveD (SLe.eq rfl)) rfl rfl ?_ | refine AO.guarded rfl rfl (fun hG => PureOp.moveB (SLe.eq rfl)) rfl rfl ?_ | refine AO.guarded rfl rfl (fun hG => PureOp.moveT (SLe.eq rfl)) rfl rfl ?_ | refine AO.guarded rfl rfl (fun hG => PureOp.moveO (SLe.eq rfl)) rfl rfl ?_ | refine AO.guarded rfl rfl (fun hG => PureOp.moveP (SLe.eq rfl)) rfl rfl ?_ | refine AO.guarded rfl rfl (fun hG => PureOp.moveA (SLe.eq rfl)) rfl rfl ?_
              refine AO.guarded rfl rfl (fun hG => PureOp.pcall (.cons (SLe.cnd rfl (by first | exact hG | (simp only [Bool.and_eq_true, beq_iff_eq] at hG ⊢; simp [hG]) | simp_all)) (by first | exact .d _ | exact View.osr rfl rfl | exact .bx rfl rfl | exact .agg (by repeat (first | exact .nil | refine .cons (by first | exact .d _ | exact View.osr rfl rfl) ?_)) | exact .fn (by repeat (first | exact .nil | refine .cons (by first | exact .d _ | exact View.osr rfl rfl | exact .bx rfl rfl) ?_))) (.cons (SLe.cnd rfl (by first | exact hG | (simp only [Bool.and_eq_true, beq_iff_eq] at hG ⊢; simp [hG]) | simp_all)) (by first | exact .d _ | exact View.osr rfl rfl | exact .bx rfl rfl | exact .agg (by repeat (first | exact .nil | refine .cons (by first | exact .d _ | exact View.osr rfl rfl) ?_)) | exact .fn (by repeat (first | exact .nil | refine .cons (by first | exact .d _ | exact View.osr rfl rfl | exact .bx rfl rfl) ?_))) .nil)) (lines_any l f hb1) (by kernel_rfl)) rfl rfl ?_
              first | refine AO.guarded rfl rfl (fun hG => PureOp.moveD (SLe.eq rfl)) rfl rfl ?_ | refine AO.guarded rfl rfl (fun hG => PureOp.moveB (SLe.eq rfl)) rfl rfl ?_ | refine AO.guarded rfl rfl (fun hG => PureOp.moveT (SLe.eq rfl)) rfl rfl ?_ | refine AO.guarded rfl rfl (fun hG => PureOp.moveO (SLe.eq rfl)) rfl rfl ?_ | refine AO.guarded rfl rfl (fun hG => PureOp.moveP (SLe.eq rfl)) rfl rfl ?_ | refine AO.guarded rfl rfl (fun hG => PureOp.moveA (SLe.eq rfl)) rfl rfl ?_
              first | refine AO.guarded rfl rfl (fun hG => PureOp.moveD (SLe.eq rfl)) rfl rfl ?_ | refine AO.guarded rfl rfl (fun hG => PureOp.moveB (SLe.eq rfl)) rfl rfl ?_ | refine AO.guarded rfl rfl (fun hG => PureOp.moveT (SLe.eq rfl)) rfl rfl ?_ | refine AO.guarded rfl rfl (fun hG => PureOp.moveO (SLe.eq rfl)) rfl rfl ?_ | refine AO.guarded rfl rfl (fun hG => PureOp.moveP (SLe.eq rfl)) rfl rfl ?_ | refine AO.guarded rfl rfl (fun hG => PureOp.moveA (SLe.eq rfl)) rfl rfl ?_
              refine AO.guarded rfl rfl (fun hG => PureOp.pcall (.cons (SLe.cnd rfl (by first | exact hG | (simp only [Bool.and_eq_true, beq_iff_eq] at hG ⊢; simp [hG]) | simp_all)) (by first | exact .d _ | exact View.osr rfl rfl | exact .bx rfl rfl | exact .agg (by repeat (first | exact .nil | refine .cons (by first | exact .d _ | exact View.osr rfl rfl) ?_)) | exact .fn (by repeat (first | exact .nil | refine .cons (by first | exact .d _ | exact View.osr rfl rfl | exact .bx rfl rfl) ?_))) (.cons (SLe.cnd rfl (by first | exact hG | (simp only [Bool.and_eq_true, beq_iff_eq] at hG ⊢; simp [hG]) | simp_all)) (by first | exact .d _ | exact View.osr rfl rfl | exact .bx rfl rfl | exact .agg (by repeat (first | exact .nil | refine .cons (by first | exact .d _ | exact View.osr rfl rfl) ?_)) | exact .fn (by repeat (first | exact .nil | refine .cons (by first | exact .d _ | exact View.osr rfl rfl | exact .bx rfl rfl) ?_))) .nil)) (lines_any (l.filter (fP f)) f (hb2 f)) (by kernel_rfl)) rfl rfl ?_
              refine AO.guarded rfl rfl (fun hG => PureOp.pcall (.cons (SLe.cnd rfl (by first | exact hG | (simp only [Bool.and_eq_true, beq_iff_eq] at hG ⊢; simp [hG]) | simp_all)) (by first | exact .d _ | exact View.osr rfl rfl | exact .bx rfl rfl | exact .agg (by repeat (first | exact .nil | refine .cons (by first | exact .d _ | exact View.osr rfl rfl) ?_)) | exact .fn (by repeat (first | exact .nil | refine .cons (by first | exact .d _ | exact View.osr rfl rfl | exact .bx rfl rfl) ?_))) (.cons (SLe.cnd rfl (by first | exact hG | (simp only [Bool.and_eq_true, beq_iff_eq] at hG ⊢; simp [hG]) | simp_all)) (by first | exact .d _ | exact View.osr rfl rfl | exact .bx rfl rfl | exact .agg (by repeat (first | exact .nil | refine .cons (by first | exact .d _ | exact View.osr rfl rfl) ?_)) | exact .fn (by repeat (first | exact .nil | refine .cons (by first | exact .d _ | exact View.osr rfl rfl | exact .bx rfl rfl) ?_))) .nil)) (ints_any (linesS l f) (linesS (l.filter (fP f)) f) (hb5 f) (hb6 f)) (by kernel_rfl)) rfl rfl ?_
              refine AO.guarded rfl rfl (fun hG => PureOp.not (SLe.cnd rfl (by first | exact hG | (simp only [Bool.and_eq_true, beq_iff_eq] at hG ⊢; simp [hG]) | simp_all))) rfl rfl ?_
              refine AO.pure (PureOp.pickOr (SLe.eq rfl) rfl rfl (by intro h; simp_all)) rfl rfl ?_
              refine AO.nil ?_
              refine thenQ_normal ?_
              refine AC.cond (SLe.eq rfl) (fun hb => ?_) (fun hb => ?_)
              · skip
                rw [lastS_own c1 (c2 f), refused_own, linesS_own c1 (c2 f)] at hb
                simp at hb
              · skip
                refine AC.skip ?_
                refine blockQ_normal ?_
                refine thenQ_normal ?_
                refine AC.region ?_
                first | refine AO.pure (PureOp.moveD (SLe.eq rfl)) rfl rfl ?_ | refine AO.pure (PureOp.moveB (SLe.eq rfl)) rfl rfl ?_ | refine AO.pure (PureOp.moveT (SLe.eq rfl)) rfl rfl ?_ | refine AO.pure (PureOp.moveO (SLe.eq rfl)) rfl rfl ?_ | refine AO.pure (PureOp.moveP (SLe.eq rfl)) rfl rfl ?_ | refine AO.pure (PureOp.moveA (SLe.eq rfl)) rfl rfl ?_
                refine AO.pure (PureOp.add (SLe.eq rfl) (SLe.eq rfl) (by omega) (by omega)) rfl rfl ?_
                first | refine AO.pure (PureOp.assignD (SLe.eq rfl)) rfl rfl ?_ | refine AO.pure (PureOp.assignB (SLe.eq rfl)) rfl rfl ?_ | refine AO.pure (PureOp.assignT (SLe.eq rfl)) rfl rfl ?_ | refine AO.pure (PureOp.assignO (SLe.eq rfl)) rfl rfl ?_ | refine AO.pure (PureOp.assignP (SLe.eq rfl)) rfl rfl ?_ | refine AO.pure (PureOp.assignA (SLe.eq rfl)) rfl rfl ?_
                refine AO.nil ?_
                refine thenQ_normal ?_
                refine ⟨f + 1, ⟨by omega, by omega⟩, (by omega), ?_⟩
                refine Le.mk [] ⟨(by first | exact ⟨SLe.eq rfl, rfl⟩ | exact rfl | exact ⟨SLe.nil rfl, rfl⟩ | exact ⟨SLe.int rfl (by omega), rfl⟩ | exact ⟨SLe.bool rfl (by simp_all), rfl⟩ | exact ⟨SLe.sl rfl (by simp_all), rfl⟩), (by first | exact ⟨SLe.eq rfl, rfl⟩ | exact rfl | exact ⟨SLe.nil rfl, rfl⟩ | exact ⟨SLe.int rfl (by omega), rfl⟩ | exact ⟨SLe.bool rfl (by simp_all), rfl⟩ | exact ⟨SLe.sl rfl (by simp_all), rfl⟩), trivial⟩ trivial trivial rfl rfl rfl rfl rfl
    · skip
      refine AC.exit ?_
      refine thenQ_exit ?_
      refine thenQ_exit ?_
      refine blockQ_hit ?_
      refine thenQ_normal ?_
      refine AC.seq ?_
      refine AC.region ?_
      refine AO.pure (PureOp.pcall .nil (awake_any) (by kernel_rfl)) rfl rfl ?_
      first | refine AO.pure (PureOp.assignD (SLe.eq rfl)) rfl rfl ?_ | refine AO.pure (PureOp.assignB (SLe.eq rfl)) rfl rfl ?_ | refine AO.pure (PureOp.assignT (SLe.eq rfl)) rfl rfl ?_ | refine AO.pure (PureOp.assignO (SLe.eq rfl)) rfl rfl ?_ | refine AO.pure (PureOp.assignP (SLe.eq rfl)) rfl rfl ?_ | refine AO.pure (PureOp.assignA (SLe.eq rfl)) rfl rfl ?_
      refine AO.nil ?_
      refine thenQ_normal ?_
      refine AC.ret ?_
      refine ⟨rfl, _, ?_, ResOf.one (by first | exact GetR.flat (SLe.eq rfl) rfl | exact GetR.nil (SLe.eq rfl) | exact GetR.ownR (SLe.eq rfl) rfl rfl (by simp [flatRows, D.flat]) | exact GetR.any (SLe.eq rfl) | exact GetR.ownA (SLe.eq rfl) rfl rfl)⟩
      rfl

end Vis
end Eng
end Go.Proofs.Ytmmekdkllccmdab
