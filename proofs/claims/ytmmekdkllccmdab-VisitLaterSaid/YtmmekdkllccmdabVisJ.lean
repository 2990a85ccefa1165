/-
  Walk of the law VisitLater.
-/
import Derived.Test.YtmmekdkllccmdabVisP
namespace Go.Proofs.Ytmmekdkllccmdab
open Go.RowKit Go.Sort
set_option linter.unusedVariables false
namespace Eng
namespace Vis
/-- The later report. -/
structure LatOK (x : Rep) : Prop where
  n : x.n = 100
  d : x.d = 50
  k : x.k ≠ 4
  right : rightB x = true
theorem later_chk {l : List Rep} (hok : RepOK 7 l) {x : Rep} (hx : LatOK x) : chkE (x :: l) = 0 := by
  unfold chkE
  rw [if_neg (by have := hok.len; simp; omega)]
  refine chk_ok (x :: l) [] (fun y hy => ?_) ?_ (fun y _ h => by simp at h)
  · rcases List.mem_cons.1 hy with rfl | hy
    · exact hx.right
    · exact hok.right (by omega) hy
  · rw [List.map_cons, List.nodup_cons]
    refine ⟨fun h => ?_, hok.nod⟩
    obtain ⟨y, hy, e⟩ := List.mem_map.1 h
    have := hok.all y hy
    have := hx.n
    omega
theorem maxF_head {x : Rep} : ∀ {r : List Rep}, (∀ y ∈ r, ¬ cmpR y x > 0) → maxF cmpR x r = x
  | [], _ => rfl
  | y :: r, h => by
    show maxF cmpR (if decide (cmpR y x > 0) then y else x) r = x
    rw [if_neg (by simpa using h y (by simp))]
    exact maxF_head fun z hz => h z (by simp [hz])
theorem later_line {l : List Rep} (hok : RepOK 7 l) {x : Rep} (hx : LatOK x) (c1 : chkE l = 0) (farm line : Int) : lineS (x :: l) farm line = if l.any (refP farm) then ⟨4, 0, 0⟩ else if (decide (farm = x.f) && decide (line = x.l)) then ⟨x.k, x.a, x.b⟩ else lineS l farm line := by
  unfold lineS
  rw [later_chk hok hx, c1]
  have hr : (x :: l).any (refP farm) = l.any (refP farm) := by
    rw [List.any_cons]
    have : refP farm x = false := by unfold refP; simp [hx.k]
    rw [this, Bool.false_or]
  rw [hr]
  simp only [decide_true, if_true]
  split
  · rfl
  · by_cases hc : farm = x.f ∧ line = x.l
    · obtain ⟨rfl, rfl⟩ := hc
      have hf : (x :: l).filter (atP x.f x.l) = x :: l.filter (atP x.f x.l) := by rw [List.filter_cons, if_pos (by unfold atP; simp)]
      rw [hf, if_pos (by simp)]
      have hm : maxF cmpR x (l.filter (atP x.f x.l)) = x := maxF_head fun y hy => by
        have := hok.all y (List.mem_filter.1 hy).1
        have := hx.d
        rw [cmpR_pos]
        omega
      show (⟨_, _, _⟩ : Seen) = _
      rw [hm]
    · have hf : (x :: l).filter (atP farm line) = l.filter (atP farm line) := by
        rw [List.filter_cons, if_neg]
        intro h
        unfold atP at h
        simp at h
        exact hc ⟨h.1.symm, h.2.symm⟩
      rw [hf, if_neg (by simp only [Bool.and_eq_true, decide_eq_true_eq]; exact hc)]
theorem foldl_le (farm : Int) : ∀ (l : List Rep) (m : Int), (∀ x ∈ l, x.d ≤ m) → l.foldl (fun m x => if decide (x.f = farm) then (if m < x.d then x.d else m) else m) m = m
  | [], m, _ => rfl
  | y :: r, m, h => by
    simp only [List.foldl_cons]
    have e : (if decide (y.f = farm) = true then (if m < y.d then y.d else m) else m) = m := by
      have := h y (by simp)
      split
      · rw [if_neg (by omega)]
      · rfl
    rw [e]
    exact foldl_le farm r m fun x hx => h x (by simp [hx])
theorem later_last {l : List Rep} (hok : RepOK 7 l) {x : Rep} (hx : LatOK x) : lastS (x :: l) x.f = 50 := by
  unfold lastS
  rw [later_chk hok hx]
  simp only [decide_true, if_true, List.foldl_cons]
  rw [hx.d, if_pos (by decide), foldl_le x.f l 50 fun y hy => by have := hok.all y hy; omega]
theorem any_succ {l : List Rep} {i : Nat} {x : Rep} (farm : Int) (h : l[i]? = some x) : (l.take (i + 1)).any (refP farm) = ((l.take i).any (refP farm) || (decide (x.f = farm) && decide (x.k = 4))) := by
  rw [List.take_add_one, h, List.any_append]
  simp [refP]
set_option maxRecDepth 100000 in
set_option maxHeartbeats 4000000 in
theorem walk_later (a : Option Addr) (len cap : Nat) (w : World) (h : Keep.IntsAt w a len cap) : Calls Try.prog 3 #[.slice a len cap] w fun e w' => e = .returned (.bool true) ∧ Below w.heap.size w w' := by
  obtain ⟨hS, hsrc⟩ := src_of h
  refine law_of (args := [.d (.v (.slice a len cap))]) (vals := [.slice a len cap]) Try.func3 rfl rfl rfl rfl rfl hS rfl (fun i s u hs hu => ?_) ?_
  · match i, hs, hu with
    | 0, hs, hu => simp at hs hu; subst hs hu; exact .d _ _ (.v _)
    | i + 1, hs, hu => simp at hs
  refine AC.seq ?_
  refine AC.region ?_
  first | refine AO.pure (PureOp.assignD (SLe.eq rfl)) rfl rfl ?_ | refine AO.pure (PureOp.assignB (SLe.eq rfl)) rfl rfl ?_ | refine AO.pure (PureOp.assignT (SLe.eq rfl)) rfl rfl ?_ | refine AO.pure (PureOp.assignO (SLe.eq rfl)) rfl rfl ?_ | refine AO.pure (PureOp.assignP (SLe.eq rfl)) rfl rfl ?_ | refine AO.pure (PureOp.assignA (SLe.eq rfl)) rfl rfl ?_
  refine AO.nil ?_
  refine thenQ_normal ?_
  refine AC.seq ?_
  refine AC.region ?_
  first | refine AO.pure (PureOp.moveD (SLe.eq rfl)) rfl rfl ?_ | refine AO.pure (PureOp.moveB (SLe.eq rfl)) rfl rfl ?_ | refine AO.pure (PureOp.moveT (SLe.eq rfl)) rfl rfl ?_ | refine AO.pure (PureOp.moveO (SLe.eq rfl)) rfl rfl ?_ | refine AO.pure (PureOp.moveP (SLe.eq rfl)) rfl rfl ?_ | refine AO.pure (PureOp.moveA (SLe.eq rfl)) rfl rfl ?_
  refine AO.newT (SLe.eq rfl) hsrc (fun b hb => hb) (fun b hb => hb) rfl rfl rfl rfl ?_
  first | refine AO.pure (PureOp.assignD (SLe.eq rfl)) rfl rfl ?_ | refine AO.pure (PureOp.assignB (SLe.eq rfl)) rfl rfl ?_ | refine AO.pure (PureOp.assignT (SLe.eq rfl)) rfl rfl ?_ | refine AO.pure (PureOp.assignO (SLe.eq rfl)) rfl rfl ?_ | refine AO.pure (PureOp.assignP (SLe.eq rfl)) rfl rfl ?_ | refine AO.pure (PureOp.assignA (SLe.eq rfl)) rfl rfl ?_
  refine AO.nil ?_
  refine thenQ_normal ?_
  refine AC.seq ?_
  refine AC.region ?_
  first | refine AO.pure (PureOp.moveD (SLe.eq rfl)) rfl rfl ?_ | refine AO.pure (PureOp.moveB (SLe.eq rfl)) rfl rfl ?_ | refine AO.pure (PureOp.moveT (SLe.eq rfl)) rfl rfl ?_ | refine AO.pure (PureOp.moveO (SLe.eq rfl)) rfl rfl ?_ | refine AO.pure (PureOp.moveP (SLe.eq rfl)) rfl rfl ?_ | refine AO.pure (PureOp.moveA (SLe.eq rfl)) rfl rfl ?_
  refine AO.tcall (.tp (SLe.eq rfl) (.cons (SLe.eq rfl) (by first | exact .d _ | exact View.osr rfl rfl | exact .bx rfl rfl | exact .agg (by repeat (first | exact .nil | refine .cons (by first | exact .d _ | exact View.osr rfl rfl) ?_)) | exact .fn (by repeat (first | exact .nil | refine .cons (by first | exact .d _ | exact View.osr rfl rfl | exact .bx rfl rfl) ?_))) .nil)) (reports_c 7 (by omega)) rfl (by kernel_rfl) rfl ?_
  rintro _ ⟨l, rfl, hok⟩
  have hrl := rr_length l
  have hlen := hok.len
  have c1 := hok.chk (by omega)
  have hb1 : l.length ≤ 4611686018427387903 := by omega
  first | refine AO.pure (PureOp.assignD (SLe.eq rfl)) rfl rfl ?_ | refine AO.pure (PureOp.assignB (SLe.eq rfl)) rfl rfl ?_ | refine AO.pure (PureOp.assignT (SLe.eq rfl)) rfl rfl ?_ | refine AO.pure (PureOp.assignO (SLe.eq rfl)) rfl rfl ?_ | refine AO.pure (PureOp.assignP (SLe.eq rfl)) rfl rfl ?_ | refine AO.pure (PureOp.assignA (SLe.eq rfl)) rfl rfl ?_
  refine AO.nil ?_
  refine thenQ_normal ?_
  refine AC.seq ?_
  refine AC.region ?_
  first | refine AO.pure (PureOp.moveD (SLe.eq rfl)) rfl rfl ?_ | refine AO.pure (PureOp.moveB (SLe.eq rfl)) rfl rfl ?_ | refine AO.pure (PureOp.moveT (SLe.eq rfl)) rfl rfl ?_ | refine AO.pure (PureOp.moveO (SLe.eq rfl)) rfl rfl ?_ | refine AO.pure (PureOp.moveP (SLe.eq rfl)) rfl rfl ?_ | refine AO.pure (PureOp.moveA (SLe.eq rfl)) rfl rfl ?_
  refine AO.tcall (.tp (SLe.eq rfl) (.cons (SLe.eq rfl) (by first | exact .d _ | exact View.osr rfl rfl | exact .bx rfl rfl | exact .agg (by repeat (first | exact .nil | refine .cons (by first | exact .d _ | exact View.osr rfl rfl) ?_)) | exact .fn (by repeat (first | exact .nil | refine .cons (by first | exact .d _ | exact View.osr rfl rfl | exact .bx rfl rfl) ?_))) (.cons (SLe.eq rfl) (by first | exact .d _ | exact View.osr rfl rfl | exact .bx rfl rfl | exact .agg (by repeat (first | exact .nil | refine .cons (by first | exact .d _ | exact View.osr rfl rfl) ?_)) | exact .fn (by repeat (first | exact .nil | refine .cons (by first | exact .d _ | exact View.osr rfl rfl | exact .bx rfl rfl) ?_))) .nil))) (range_c _ _ (by omega) (by omega) (by omega) (by omega)) rfl (by kernel_rfl) rfl ?_
  rintro _ ⟨xf, rfl, hxf1, hxf2⟩
  first | refine AO.pure (PureOp.moveD (SLe.eq rfl)) rfl rfl ?_ | refine AO.pure (PureOp.moveB (SLe.eq rfl)) rfl rfl ?_ | refine AO.pure (PureOp.moveT (SLe.eq rfl)) rfl rfl ?_ | refine AO.pure (PureOp.moveO (SLe.eq rfl)) rfl rfl ?_ | refine AO.pure (PureOp.moveP (SLe.eq rfl)) rfl rfl ?_ | refine AO.pure (PureOp.moveA (SLe.eq rfl)) rfl rfl ?_
  refine AO.tcall (.tp (SLe.eq rfl) (.cons (SLe.eq rfl) (by first | exact .d _ | exact View.osr rfl rfl | exact .bx rfl rfl | exact .agg (by repeat (first | exact .nil | refine .cons (by first | exact .d _ | exact View.osr rfl rfl) ?_)) | exact .fn (by repeat (first | exact .nil | refine .cons (by first | exact .d _ | exact View.osr rfl rfl | exact .bx rfl rfl) ?_))) (.cons (SLe.eq rfl) (by first | exact .d _ | exact View.osr rfl rfl | exact .bx rfl rfl | exact .agg (by repeat (first | exact .nil | refine .cons (by first | exact .d _ | exact View.osr rfl rfl) ?_)) | exact .fn (by repeat (first | exact .nil | refine .cons (by first | exact .d _ | exact View.osr rfl rfl | exact .bx rfl rfl) ?_))) .nil))) (range_c _ _ (by omega) (by omega) (by omega) (by omega)) rfl (by kernel_rfl) rfl ?_
  rintro _ ⟨xk, rfl, hxk1, hxk2⟩
  first | refine AO.pure (PureOp.moveD (SLe.eq rfl)) rfl rfl ?_ | refine AO.pure (PureOp.moveB (SLe.eq rfl)) rfl rfl ?_ | refine AO.pure (PureOp.moveT (SLe.eq rfl)) rfl rfl ?_ | refine AO.pure (PureOp.moveO (SLe.eq rfl)) rfl rfl ?_ | refine AO.pure (PureOp.moveP (SLe.eq rfl)) rfl rfl ?_ | refine AO.pure (PureOp.moveA (SLe.eq rfl)) rfl rfl ?_
  refine AO.tcall (.tp (SLe.eq rfl) (.cons (SLe.eq rfl) (by first | exact .d _ | exact View.osr rfl rfl | exact .bx rfl rfl | exact .agg (by repeat (first | exact .nil | refine .cons (by first | exact .d _ | exact View.osr rfl rfl) ?_)) | exact .fn (by repeat (first | exact .nil | refine .cons (by first | exact .d _ | exact View.osr rfl rfl | exact .bx rfl rfl) ?_))) .nil)) (next_c _ (by omega)) rfl (by kernel_rfl) rfl ?_
  rintro _ ⟨xl, rfl, hxl1, hxl2⟩
  first | refine AO.pure (PureOp.build (z := .agg #[.int .i64 0, .int .i64 0, .int .i64 0, .int .i64 0, .int .i64 0, .int .i64 0, .int .i64 0]) (pl := [(0, 1), (1, 1), (2, 1), (3, 1), (4, 1), (5, 2)]) (by kernel_rfl) rfl (by kernel_rfl) (.cons (SLe.eq rfl) rfl (.cons (SLe.eq rfl) rfl (.cons (SLe.eq rfl) rfl (.cons (SLe.eq rfl) rfl (.cons (SLe.eq rfl) rfl .nil))))) rfl rfl) rfl rfl ?_ | refine AO.pure (PureOp.buildS (z := .agg #[.int .i64 0, .int .i64 0, .int .i64 0, .int .i64 0, .int .i64 0, .int .i64 0, .int .i64 0]) (pl := [(0, 1), (1, 1), (2, 1), (3, 1), (4, 1), (5, 2)]) (by kernel_rfl) rfl (by kernel_rfl) (.cons (SLe.eq rfl) rfl (.cons (SLe.eq rfl) rfl (.cons (SLe.eq rfl) rfl (.cons (SLe.eq rfl) rfl (.cons (SLe.eq rfl) rfl .nil))))) rfl) rfl rfl ?_
  refine AO.alloc (z := .agg #[.int .i64 0, .int .i64 0, .int .i64 0, .int .i64 0, .int .i64 0, .int .i64 0, .int .i64 0]) (by kernel_rfl) rfl rfl rfl ?_
  refine AO.store (SLe.eq rfl) (SLe.eq rfl) rfl rfl rfl rfl rfl (by kernel_rfl) rfl rfl ?_
  refine AO.nil ?_
  refine thenQ_normal ?_
  refine AC.seq ?_
  refine AC.seq ?_
  refine AC.region ?_
  first | refine AO.pure (PureOp.fldB (k := 3) (SLe.eq rfl) (by kernel_rfl)) rfl rfl ?_ | refine AO.pure (PureOp.fld (k := 3) (SLe.eq rfl) (by kernel_rfl)) rfl rfl ?_ | refine AO.pure (PureOp.fldO (k := 3) (SLe.eq rfl) (by kernel_rfl)) rfl rfl ?_
  first | refine AO.pure (PureOp.loadB1 (SLe.eq rfl) rfl rfl (by kernel_rfl)) rfl rfl ?_ | refine AO.pure (PureOp.load1 (SLe.eq rfl) rfl (by kernel_rfl)) rfl rfl ?_ | refine AO.pure (PureOp.loadO1 (i := _) (j := _) (SLe.eq rfl) rfl rfl (by assumption) rfl (by kernel_rfl)) rfl rfl ?_
  refine AO.pure (PureOp.eql (SLe.eq rfl) (SLe.eq rfl)) rfl rfl ?_
  refine AO.nil ?_
  refine thenQ_normal ?_
  refine AC.cond (SLe.eq rfl) (fun hb => ?_) (fun hb => ?_)
  · skip
    have hk1 := of_decide_eq_true hb
    refine AC.region ?_
    first | refine AO.pure (PureOp.moveD (SLe.eq rfl)) rfl rfl ?_ | refine AO.pure (PureOp.moveB (SLe.eq rfl)) rfl rfl ?_ | refine AO.pure (PureOp.moveT (SLe.eq rfl)) rfl rfl ?_ | refine AO.pure (PureOp.moveO (SLe.eq rfl)) rfl rfl ?_ | refine AO.pure (PureOp.moveP (SLe.eq rfl)) rfl rfl ?_ | refine AO.pure (PureOp.moveA (SLe.eq rfl)) rfl rfl ?_
    refine AO.tcall (.tp (SLe.eq rfl) (.cons (SLe.eq rfl) (by first | exact .d _ | exact View.osr rfl rfl | exact .bx rfl rfl | exact .agg (by repeat (first | exact .nil | refine .cons (by first | exact .d _ | exact View.osr rfl rfl) ?_)) | exact .fn (by repeat (first | exact .nil | refine .cons (by first | exact .d _ | exact View.osr rfl rfl | exact .bx rfl rfl) ?_))) .nil)) (measured_c _ (by omega) (by omega)) rfl (by kernel_rfl) rfl ?_
    rintro _ ⟨ma, mb, rfl, hm1, hm2, hm3, hm4⟩
    have hAB : (xk ≠ 1 → ma = 0 ∧ mb = 0) ∧ (xk = 1 → 0 ≤ ma ∧ ma ≤ 36 ∧ 0 ≤ mb ∧ mb ≤ 40) := ⟨fun h => absurd hk1 h, fun _ => ⟨hm1, by omega, hm3, by omega⟩⟩
    have hz : True := trivial
    first | refine AO.pure (PureOp.fldB (k := 5) (SLe.eq rfl) (by kernel_rfl)) rfl rfl ?_ | refine AO.pure (PureOp.fld (k := 5) (SLe.eq rfl) (by kernel_rfl)) rfl rfl ?_ | refine AO.pure (PureOp.fldO (k := 5) (SLe.eq rfl) (by kernel_rfl)) rfl rfl ?_
    refine AO.store (SLe.eq rfl) (SLe.eq rfl) rfl rfl rfl rfl rfl (by kernel_rfl) rfl rfl ?_
    refine AO.nil ?_
    refine thenQ_normal ?_
    refine AC.seq ?_
    have hlat : LatOK (⟨100, xf, 50, xk, xl, ma, mb⟩ : Rep) := ⟨rfl, rfl, (by show xk ≠ 4; omega), (by unfold rightB; simp only [decide_eq_true_eq]; omega)⟩
    have hb2 : ((⟨100, xf, 50, xk, xl, ma, mb⟩ : Rep) :: l).length ≤ 4611686018427387903 := by simp only [List.length_cons]; omega
    have hlate := fun f line : Int => later_line hok hlat c1 f line
    have hlast := later_last hok hlat
    refine AC.region ?_
    first | refine AO.pure (PureOp.loadBN (sz := 7) (SLe.eq rfl) rfl rfl rfl rfl (by kernel_rfl)) rfl rfl ?_ | refine AO.pure (PureOp.loadN (sz := 7) (SLe.eq rfl) rfl rfl (by kernel_rfl)) rfl rfl ?_ | refine AO.pure (PureOp.loadON (sz := 7) (i := _) (SLe.eq rfl) rfl rfl (by assumption) rfl (by kernel_rfl)) rfl rfl ?_ | refine AO.pure (PureOp.loadBS (sz := 7) (SLe.eq rfl) rfl rfl rfl (by kernel_rfl)) rfl rfl ?_
    refine AO.buildOwn (e := 32) (sz := 7) (z := .agg #[.int .i64 0, .int .i64 0, .int .i64 0, .int .i64 0, .int .i64 0, .int .i64 0, .int .i64 0]) (by kernel_rfl) (by kernel_rfl) rfl rfl rfl (.cons (SLe.eq rfl) rfl .nil) rfl rfl rfl rfl rfl rfl ?_
    first | refine AO.pure (PureOp.moveD (SLe.eq rfl)) rfl rfl ?_ | refine AO.pure (PureOp.moveB (SLe.eq rfl)) rfl rfl ?_ | refine AO.pure (PureOp.moveT (SLe.eq rfl)) rfl rfl ?_ | refine AO.pure (PureOp.moveO (SLe.eq rfl)) rfl rfl ?_ | refine AO.pure (PureOp.moveP (SLe.eq rfl)) rfl rfl ?_ | refine AO.pure (PureOp.moveA (SLe.eq rfl)) rfl rfl ?_
    refine AO.append (e := 32) (sz := 7) (bs := 56) (SLe.eq rfl) rfl (by first | exact SLe.eq rfl | exact SLe.nil rfl) (by kernel_rfl) (by simp only [List.length_cons, List.length_nil]; omega) rfl ?_
    first | refine AO.pure (PureOp.assignD (SLe.eq rfl)) rfl rfl ?_ | refine AO.pure (PureOp.assignB (SLe.eq rfl)) rfl rfl ?_ | refine AO.pure (PureOp.assignT (SLe.eq rfl)) rfl rfl ?_ | refine AO.pure (PureOp.assignO (SLe.eq rfl)) rfl rfl ?_ | refine AO.pure (PureOp.assignP (SLe.eq rfl)) rfl rfl ?_ | refine AO.pure (PureOp.assignA (SLe.eq rfl)) rfl rfl ?_
    refine AO.nil ?_
    refine thenQ_normal ?_
    refine AC.seq ?_
    refine AC.seq ?_
    refine AC.region ?_
    first | refine AO.pure (PureOp.assignD (SLe.eq rfl)) rfl rfl ?_ | refine AO.pure (PureOp.assignB (SLe.eq rfl)) rfl rfl ?_ | refine AO.pure (PureOp.assignT (SLe.eq rfl)) rfl rfl ?_ | refine AO.pure (PureOp.assignO (SLe.eq rfl)) rfl rfl ?_ | refine AO.pure (PureOp.assignP (SLe.eq rfl)) rfl rfl ?_ | refine AO.pure (PureOp.assignA (SLe.eq rfl)) rfl rfl ?_
    refine AO.nil ?_
    refine thenQ_normal ?_
    refine AC.block ?_
    refine AC.loop (ι := Nat) (fun f => ⟨[(4, .d (.sl 7 (rr l))), (5, .bx 0 0), (6, .os 0), (7, .d (iD (f : Int)))], [(0, [.d (iD 100), .d (iD xf), .d (iD 50), .d (iD xk), .d (iD xl), .d (iD ma), .d (iD mb)])], [(0, ⟨32, 7, rr ((⟨100, xf, 50, xk, xl, ma, mb⟩ : Rep) :: l)⟩)], 1, true, 96⟩) (fun f => 1 ≤ f ∧ f ≤ 4) (fun f => 4 - f) 1 ?_ ⟨Nat.le_refl 1, by omega⟩ ?_
    · refine Le.mk [(0, 2)] ⟨(by first | exact ⟨SLe.eq rfl, rfl⟩ | exact rfl | exact ⟨SLe.nil rfl, rfl⟩ | exact ⟨SLe.int rfl (by omega), rfl⟩ | exact ⟨SLe.bool rfl (by simp_all), rfl⟩ | exact ⟨SLe.sl rfl (by simp_all), rfl⟩), (by first | exact ⟨SLe.eq rfl, rfl⟩ | exact rfl | exact ⟨SLe.nil rfl, rfl⟩ | exact ⟨SLe.int rfl (by omega), rfl⟩ | exact ⟨SLe.bool rfl (by simp_all), rfl⟩ | exact ⟨SLe.sl rfl (by simp_all), rfl⟩), (by first | exact ⟨SLe.eq rfl, rfl⟩ | exact rfl | exact ⟨SLe.nil rfl, rfl⟩ | exact ⟨SLe.int rfl (by omega), rfl⟩ | exact ⟨SLe.bool rfl (by simp_all), rfl⟩ | exact ⟨SLe.sl rfl (by simp_all), rfl⟩), (by first | exact ⟨SLe.eq rfl, rfl⟩ | exact rfl | exact ⟨SLe.nil rfl, rfl⟩ | exact ⟨SLe.int rfl (by omega), rfl⟩ | exact ⟨SLe.bool rfl (by simp_all), rfl⟩ | exact ⟨SLe.sl rfl (by simp_all), rfl⟩), trivial⟩ ⟨⟨_, rfl, ⟨(by first | exact ⟨SLe.eq rfl, rfl⟩ | exact rfl | exact ⟨SLe.nil rfl, rfl⟩ | exact ⟨SLe.int rfl (by omega), rfl⟩ | exact ⟨SLe.bool rfl (by simp_all), rfl⟩ | exact ⟨SLe.sl rfl (by simp_all), rfl⟩), (by first | exact ⟨SLe.eq rfl, rfl⟩ | exact rfl | exact ⟨SLe.nil rfl, rfl⟩ | exact ⟨SLe.int rfl (by omega), rfl⟩ | exact ⟨SLe.bool rfl (by simp_all), rfl⟩ | exact ⟨SLe.sl rfl (by simp_all), rfl⟩), (by first | exact ⟨SLe.eq rfl, rfl⟩ | exact rfl | exact ⟨SLe.nil rfl, rfl⟩ | exact ⟨SLe.int rfl (by omega), rfl⟩ | exact ⟨SLe.bool rfl (by simp_all), rfl⟩ | exact ⟨SLe.sl rfl (by simp_all), rfl⟩), (by first | exact ⟨SLe.eq rfl, rfl⟩ | exact rfl | exact ⟨SLe.nil rfl, rfl⟩ | exact ⟨SLe.int rfl (by omega), rfl⟩ | exact ⟨SLe.bool rfl (by simp_all), rfl⟩ | exact ⟨SLe.sl rfl (by simp_all), rfl⟩), (by first | exact ⟨SLe.eq rfl, rfl⟩ | exact rfl | exact ⟨SLe.nil rfl, rfl⟩ | exact ⟨SLe.int rfl (by omega), rfl⟩ | exact ⟨SLe.bool rfl (by simp_all), rfl⟩ | exact ⟨SLe.sl rfl (by simp_all), rfl⟩), (by first | exact ⟨SLe.eq rfl, rfl⟩ | exact rfl | exact ⟨SLe.nil rfl, rfl⟩ | exact ⟨SLe.int rfl (by omega), rfl⟩ | exact ⟨SLe.bool rfl (by simp_all), rfl⟩ | exact ⟨SLe.sl rfl (by simp_all), rfl⟩), (by first | exact ⟨SLe.eq rfl, rfl⟩ | exact rfl | exact ⟨SLe.nil rfl, rfl⟩ | exact ⟨SLe.int rfl (by omega), rfl⟩ | exact ⟨SLe.bool rfl (by simp_all), rfl⟩ | exact ⟨SLe.sl rfl (by simp_all), rfl⟩), trivial⟩⟩, trivial⟩ ⟨⟨_, rfl, (by first | rfl | (subst hma hmb; rfl))⟩, trivial⟩ rfl rfl rfl rfl rfl
    · rintro f ⟨hf1, hf2⟩
      refine AC.seq ?_
      refine AC.seq ?_
      refine AC.region ?_
      first | refine AO.pure (PureOp.moveD (SLe.eq rfl)) rfl rfl ?_ | refine AO.pure (PureOp.moveB (SLe.eq rfl)) rfl rfl ?_ | refine AO.pure (PureOp.moveT (SLe.eq rfl)) rfl rfl ?_ | refine AO.pure (PureOp.moveO (SLe.eq rfl)) rfl rfl ?_ | refine AO.pure (PureOp.moveP (SLe.eq rfl)) rfl rfl ?_ | refine AO.pure (PureOp.moveA (SLe.eq rfl)) rfl rfl ?_
      refine AO.pure (PureOp.leq (SLe.eq rfl) (SLe.eq rfl)) rfl rfl ?_
      refine AO.nil ?_
      refine thenQ_normal ?_
      refine AC.cond (SLe.eq rfl) (fun hb => ?_) (fun hb => ?_)
      · skip
        have hf3 : f ≤ 3 := by have := of_decide_eq_true hb; omega
        refine AC.skip ?_
        refine thenQ_normal ?_
        refine AC.seq ?_
        refine AC.block ?_
        refine AC.seq ?_
        refine AC.region ?_
        first | refine AO.pure (PureOp.assignD (SLe.eq rfl)) rfl rfl ?_ | refine AO.pure (PureOp.assignB (SLe.eq rfl)) rfl rfl ?_ | refine AO.pure (PureOp.assignT (SLe.eq rfl)) rfl rfl ?_ | refine AO.pure (PureOp.assignO (SLe.eq rfl)) rfl rfl ?_ | refine AO.pure (PureOp.assignP (SLe.eq rfl)) rfl rfl ?_ | refine AO.pure (PureOp.assignA (SLe.eq rfl)) rfl rfl ?_
        refine AO.nil ?_
        refine thenQ_normal ?_
        refine AC.seq ?_
        refine AC.seq ?_
        refine AC.region ?_
        first | refine AO.pure (PureOp.moveD (SLe.eq rfl)) rfl rfl ?_ | refine AO.pure (PureOp.moveB (SLe.eq rfl)) rfl rfl ?_ | refine AO.pure (PureOp.moveT (SLe.eq rfl)) rfl rfl ?_ | refine AO.pure (PureOp.moveO (SLe.eq rfl)) rfl rfl ?_ | refine AO.pure (PureOp.moveP (SLe.eq rfl)) rfl rfl ?_ | refine AO.pure (PureOp.moveA (SLe.eq rfl)) rfl rfl ?_
        first | refine AO.pure (PureOp.len (e := 32) (s' := 7) (SLe.eq rfl) (by kernel_rfl)) rfl rfl ?_ | refine AO.pure (PureOp.lenR (e := 32) (s' := 7) (SLe.eq rfl) rfl rfl (by kernel_rfl)) rfl rfl ?_ | refine AO.pure (PureOp.lenNil (e := 32) (s' := 7) (SLe.eq rfl) (by kernel_rfl)) rfl rfl ?_
        first | refine AO.pure (PureOp.moveD (SLe.eq rfl)) rfl rfl ?_ | refine AO.pure (PureOp.moveB (SLe.eq rfl)) rfl rfl ?_ | refine AO.pure (PureOp.moveT (SLe.eq rfl)) rfl rfl ?_ | refine AO.pure (PureOp.moveO (SLe.eq rfl)) rfl rfl ?_ | refine AO.pure (PureOp.moveP (SLe.eq rfl)) rfl rfl ?_ | refine AO.pure (PureOp.moveA (SLe.eq rfl)) rfl rfl ?_
        refine AO.nil ?_
        refine thenQ_normal ?_
        refine AC.block ?_
        refine AC.loop (ι := Nat) (fun i => ⟨[(4, .d (.sl 7 (rr l))), (5, .bx 0 0), (6, .os 0), (7, .d (iD (f : Int))), (8, .d (bD ((l.take i).any (refP f)))), (38, .d (.sl 7 (rr l))), (39, .d (iD ((rr l).length : Int))), (40, .d (iD (i : Int)))], [(0, [.d (iD 100), .d (iD xf), .d (iD 50), .d (iD xk), .d (iD xl), .d (iD ma), .d (iD mb)])], [(0, ⟨32, 7, rr ((⟨100, xf, 50, xk, xl, ma, mb⟩ : Rep) :: l)⟩)], 1, true, 96⟩) (fun i => i ≤ l.length) (fun i => l.length - i) 0 ?_ (Nat.zero_le _) ?_
        · refine Le.mk [(0, 0)] ⟨(by first | exact ⟨SLe.eq rfl, rfl⟩ | exact rfl | exact ⟨SLe.nil rfl, rfl⟩ | exact ⟨SLe.int rfl (by omega), rfl⟩ | exact ⟨SLe.bool rfl (by simp_all), rfl⟩ | exact ⟨SLe.sl rfl (by simp_all), rfl⟩), (by first | exact ⟨SLe.eq rfl, rfl⟩ | exact rfl | exact ⟨SLe.nil rfl, rfl⟩ | exact ⟨SLe.int rfl (by omega), rfl⟩ | exact ⟨SLe.bool rfl (by simp_all), rfl⟩ | exact ⟨SLe.sl rfl (by simp_all), rfl⟩), (by first | exact ⟨SLe.eq rfl, rfl⟩ | exact rfl | exact ⟨SLe.nil rfl, rfl⟩ | exact ⟨SLe.int rfl (by omega), rfl⟩ | exact ⟨SLe.bool rfl (by simp_all), rfl⟩ | exact ⟨SLe.sl rfl (by simp_all), rfl⟩), (by first | exact ⟨SLe.eq rfl, rfl⟩ | exact rfl | exact ⟨SLe.nil rfl, rfl⟩ | exact ⟨SLe.int rfl (by omega), rfl⟩ | exact ⟨SLe.bool rfl (by simp_all), rfl⟩ | exact ⟨SLe.sl rfl (by simp_all), rfl⟩), (by first | exact ⟨SLe.eq rfl, rfl⟩ | exact rfl | exact ⟨SLe.nil rfl, rfl⟩ | exact ⟨SLe.int rfl (by omega), rfl⟩ | exact ⟨SLe.bool rfl (by simp_all), rfl⟩ | exact ⟨SLe.sl rfl (by simp_all), rfl⟩), (by first | exact ⟨SLe.eq rfl, rfl⟩ | exact rfl | exact ⟨SLe.nil rfl, rfl⟩ | exact ⟨SLe.int rfl (by omega), rfl⟩ | exact ⟨SLe.bool rfl (by simp_all), rfl⟩ | exact ⟨SLe.sl rfl (by simp_all), rfl⟩), (by first | exact ⟨SLe.eq rfl, rfl⟩ | exact rfl | exact ⟨SLe.nil rfl, rfl⟩ | exact ⟨SLe.int rfl (by omega), rfl⟩ | exact ⟨SLe.bool rfl (by simp_all), rfl⟩ | exact ⟨SLe.sl rfl (by simp_all), rfl⟩), (by first | exact ⟨SLe.eq rfl, rfl⟩ | exact rfl | exact ⟨SLe.nil rfl, rfl⟩ | exact ⟨SLe.int rfl (by omega), rfl⟩ | exact ⟨SLe.bool rfl (by simp_all), rfl⟩ | exact ⟨SLe.sl rfl (by simp_all), rfl⟩), trivial⟩ ⟨⟨_, rfl, ⟨(by first | exact ⟨SLe.eq rfl, rfl⟩ | exact rfl | exact ⟨SLe.nil rfl, rfl⟩ | exact ⟨SLe.int rfl (by omega), rfl⟩ | exact ⟨SLe.bool rfl (by simp_all), rfl⟩ | exact ⟨SLe.sl rfl (by simp_all), rfl⟩), (by first | exact ⟨SLe.eq rfl, rfl⟩ | exact rfl | exact ⟨SLe.nil rfl, rfl⟩ | exact ⟨SLe.int rfl (by omega), rfl⟩ | exact ⟨SLe.bool rfl (by simp_all), rfl⟩ | exact ⟨SLe.sl rfl (by simp_all), rfl⟩), (by first | exact ⟨SLe.eq rfl, rfl⟩ | exact rfl | exact ⟨SLe.nil rfl, rfl⟩ | exact ⟨SLe.int rfl (by omega), rfl⟩ | exact ⟨SLe.bool rfl (by simp_all), rfl⟩ | exact ⟨SLe.sl rfl (by simp_all), rfl⟩), (by first | exact ⟨SLe.eq rfl, rfl⟩ | exact rfl | exact ⟨SLe.nil rfl, rfl⟩ | exact ⟨SLe.int rfl (by omega), rfl⟩ | exact ⟨SLe.bool rfl (by simp_all), rfl⟩ | exact ⟨SLe.sl rfl (by simp_all), rfl⟩), (by first | exact ⟨SLe.eq rfl, rfl⟩ | exact rfl | exact ⟨SLe.nil rfl, rfl⟩ | exact ⟨SLe.int rfl (by omega), rfl⟩ | exact ⟨SLe.bool rfl (by simp_all), rfl⟩ | exact ⟨SLe.sl rfl (by simp_all), rfl⟩), (by first | exact ⟨SLe.eq rfl, rfl⟩ | exact rfl | exact ⟨SLe.nil rfl, rfl⟩ | exact ⟨SLe.int rfl (by omega), rfl⟩ | exact ⟨SLe.bool rfl (by simp_all), rfl⟩ | exact ⟨SLe.sl rfl (by simp_all), rfl⟩), (by first | exact ⟨SLe.eq rfl, rfl⟩ | exact rfl | exact ⟨SLe.nil rfl, rfl⟩ | exact ⟨SLe.int rfl (by omega), rfl⟩ | exact ⟨SLe.bool rfl (by simp_all), rfl⟩ | exact ⟨SLe.sl rfl (by simp_all), rfl⟩), trivial⟩⟩, trivial⟩ ⟨⟨_, rfl, rfl⟩, trivial⟩ rfl rfl rfl rfl rfl
        · rintro i hi
          refine AC.seq ?_
          refine AC.region ?_
          refine AO.pure (PureOp.lss (SLe.eq rfl) (SLe.eq rfl)) rfl rfl ?_
          refine AO.nil ?_
          refine thenQ_normal ?_
          refine AC.seq ?_
          refine AC.cond (SLe.eq rfl) (fun hb => ?_) (fun hb => ?_)
          · skip
            obtain ⟨x, hx, hrow⟩ := rr_at hb
            have hlt := (List.getElem?_eq_some_iff.1 hx).1
            have hm := any_succ f hx
            refine AC.skip ?_
            refine thenQ_normal ?_
            refine AC.seq ?_
            refine AC.block ?_
            refine AC.seq ?_
            refine AC.region ?_
            first | refine AO.pure (PureOp.idx (e := 32) (sz := 7) (SLe.eq rfl) (SLe.eq rfl) rfl hrow (by kernel_rfl)) rfl rfl ?_ | refine AO.pure (PureOp.idxR (e := 32) (sz := 7) (SLe.eq rfl) rfl (SLe.eq rfl) rfl (by simp; omega) rfl (by kernel_rfl)) rfl rfl ?_
            first | refine AO.pure (PureOp.loadBN (sz := 7) (SLe.eq rfl) rfl rfl rfl rfl (by kernel_rfl)) rfl rfl ?_ | refine AO.pure (PureOp.loadN (sz := 7) (SLe.eq rfl) rfl rfl (by kernel_rfl)) rfl rfl ?_ | refine AO.pure (PureOp.loadON (sz := 7) (i := _) (SLe.eq rfl) rfl rfl (by assumption) rfl (by kernel_rfl)) rfl rfl ?_ | refine AO.pure (PureOp.loadBS (sz := 7) (SLe.eq rfl) rfl rfl rfl (by kernel_rfl)) rfl rfl ?_
            refine AO.alloc (z := .agg #[.int .i64 0, .int .i64 0, .int .i64 0, .int .i64 0, .int .i64 0, .int .i64 0, .int .i64 0]) (by kernel_rfl) rfl rfl rfl ?_
            refine AO.store (SLe.eq rfl) (SLe.eq rfl) rfl rfl rfl rfl rfl (by kernel_rfl) rfl rfl ?_
            refine AO.nil ?_
            refine thenQ_normal ?_
            refine AC.region ?_
            first | refine AO.pure (PureOp.moveD (SLe.eq rfl)) rfl rfl ?_ | refine AO.pure (PureOp.moveB (SLe.eq rfl)) rfl rfl ?_ | refine AO.pure (PureOp.moveT (SLe.eq rfl)) rfl rfl ?_ | refine AO.pure (PureOp.moveO (SLe.eq rfl)) rfl rfl ?_ | refine AO.pure (PureOp.moveP (SLe.eq rfl)) rfl rfl ?_ | refine AO.pure (PureOp.moveA (SLe.eq rfl)) rfl rfl ?_
            first | refine AO.pure (PureOp.moveD (SLe.eq rfl)) rfl rfl ?_ | refine AO.pure (PureOp.moveB (SLe.eq rfl)) rfl rfl ?_ | refine AO.pure (PureOp.moveT (SLe.eq rfl)) rfl rfl ?_ | refine AO.pure (PureOp.moveO (SLe.eq rfl)) rfl rfl ?_ | refine AO.pure (PureOp.moveP (SLe.eq rfl)) rfl rfl ?_ | refine AO.pure (PureOp.moveA (SLe.eq rfl)) rfl rfl ?_
            first | refine AO.guarded rfl rfl (fun hG => PureOp.fldB (k := 1) (SLe.eq rfl) (by kernel_rfl)) rfl rfl ?_ | refine AO.guarded rfl rfl (fun hG => PureOp.fld (k := 1) (SLe.eq rfl) (by kernel_rfl)) rfl rfl ?_ | refine AO.guarded rfl rfl (fun hG => PureOp.fldO (k := 1) (SLe.eq rfl) (by kernel_rfl)) rfl rfl ?_
            first | refine AO.guarded rfl rfl (fun hG => PureOp.loadB1 (SLe.cnd rfl (by first | exact hG | (simp only [Bool.and_eq_true, beq_iff_eq] at hG ⊢; simp [hG]) | simp_all)) rfl rfl (by kernel_rfl)) rfl rfl ?_ | refine AO.guarded rfl rfl (fun hG => PureOp.load1 (SLe.cnd rfl (by first | exact hG | (simp only [Bool.and_eq_true, beq_iff_eq] at hG ⊢; simp [hG]) | simp_all)) rfl (by kernel_rfl)) rfl rfl ?_ | refine AO.guarded rfl rfl (fun hG => PureOp.loadO1 (i := _) (j := _) (SLe.cnd rfl (by first | exact hG | (simp only [Bool.and_eq_true, beq_iff_eq] at hG ⊢; simp [hG]) | simp_all)) rfl rfl (by assumption) rfl (by kernel_rfl)) rfl rfl ?_
            first | refine AO.guarded rfl rfl (fun hG => PureOp.moveD (SLe.eq rfl)) rfl rfl ?_ | refine AO.guarded rfl rfl (fun hG => PureOp.moveB (SLe.eq rfl)) rfl rfl ?_ | refine AO.guarded rfl rfl (fun hG => PureOp.moveT (SLe.eq rfl)) rfl rfl ?_ | refine AO.guarded rfl rfl (fun hG => PureOp.moveO (SLe.eq rfl)) rfl rfl ?_ | refine AO.guarded rfl rfl (fun hG => PureOp.moveP (SLe.eq rfl)) rfl rfl ?_ | refine AO.guarded rfl rfl (fun hG => PureOp.moveA (SLe.eq rfl)) rfl rfl ?_
            refine AO.guarded rfl rfl (fun hG => PureOp.eql (SLe.cnd rfl (by first | exact hG | (simp only [Bool.and_eq_true, beq_iff_eq] at hG ⊢; simp [hG]) | simp_all)) (SLe.cnd rfl (by first | exact hG | (simp only [Bool.and_eq_true, beq_iff_eq] at hG ⊢; simp [hG]) | simp_all))) rfl rfl ?_
            first | refine AO.guarded rfl rfl (fun hG => PureOp.moveD (SLe.cnd rfl (by first | exact hG | (simp only [Bool.and_eq_true, beq_iff_eq] at hG ⊢; simp [hG]) | simp_all))) rfl rfl ?_ | refine AO.guarded rfl rfl (fun hG => PureOp.moveB (SLe.cnd rfl (by first | exact hG | (simp only [Bool.and_eq_true, beq_iff_eq] at hG ⊢; simp [hG]) | simp_all))) rfl rfl ?_ | refine AO.guarded rfl rfl (fun hG => PureOp.moveT (SLe.cnd rfl (by first | exact hG | (simp only [Bool.and_eq_true, beq_iff_eq] at hG ⊢; simp [hG]) | simp_all))) rfl rfl ?_ | refine AO.guarded rfl rfl (fun hG => PureOp.moveO (SLe.cnd rfl (by first | exact hG | (simp only [Bool.and_eq_true, beq_iff_eq] at hG ⊢; simp [hG]) | simp_all))) rfl rfl ?_ | refine AO.guarded rfl rfl (fun hG => PureOp.moveP (SLe.cnd rfl (by first | exact hG | (simp only [Bool.and_eq_true, beq_iff_eq] at hG ⊢; simp [hG]) | simp_all))) rfl rfl ?_ | refine AO.guarded rfl rfl (fun hG => PureOp.moveA (SLe.cnd rfl (by first | exact hG | (simp only [Bool.and_eq_true, beq_iff_eq] at hG ⊢; simp [hG]) | simp_all))) rfl rfl ?_
            first | refine AO.guarded rfl rfl (fun hG => PureOp.fldB (k := 3) (SLe.eq rfl) (by kernel_rfl)) rfl rfl ?_ | refine AO.guarded rfl rfl (fun hG => PureOp.fld (k := 3) (SLe.eq rfl) (by kernel_rfl)) rfl rfl ?_ | refine AO.guarded rfl rfl (fun hG => PureOp.fldO (k := 3) (SLe.eq rfl) (by kernel_rfl)) rfl rfl ?_
            first | refine AO.guarded rfl rfl (fun hG => PureOp.loadB1 (SLe.cnd rfl (by first | exact hG | (simp only [Bool.and_eq_true, beq_iff_eq] at hG ⊢; simp [hG]) | simp_all)) rfl rfl (by kernel_rfl)) rfl rfl ?_ | refine AO.guarded rfl rfl (fun hG => PureOp.load1 (SLe.cnd rfl (by first | exact hG | (simp only [Bool.and_eq_true, beq_iff_eq] at hG ⊢; simp [hG]) | simp_all)) rfl (by kernel_rfl)) rfl rfl ?_ | refine AO.guarded rfl rfl (fun hG => PureOp.loadO1 (i := _) (j := _) (SLe.cnd rfl (by first | exact hG | (simp only [Bool.and_eq_true, beq_iff_eq] at hG ⊢; simp [hG]) | simp_all)) rfl rfl (by assumption) rfl (by kernel_rfl)) rfl rfl ?_
            refine AO.guarded rfl rfl (fun hG => PureOp.eql (SLe.cnd rfl (by first | exact hG | (simp only [Bool.and_eq_true, beq_iff_eq] at hG ⊢; simp [hG]) | simp_all)) (SLe.eq rfl)) rfl rfl ?_
            refine AO.guarded rfl rfl (fun hG => PureOp.pickAnd (SLe.cnd rfl (by first | exact hG | (simp only [Bool.and_eq_true, beq_iff_eq] at hG ⊢; simp [hG]) | simp_all)) rfl rfl (by intro h; first | (simp_all; done) | (simp_all; exact Decidable.imp_iff_not_or.1 (by assumption)))) rfl rfl ?_
            refine AO.pure (PureOp.pickOr (SLe.eq rfl) rfl rfl (by intro h; first | (simp_all; done) | (simp_all; exact Decidable.imp_iff_not_or.1 (by assumption)))) rfl rfl ?_
            first | refine AO.pure (PureOp.assignD (SLe.eq rfl)) rfl rfl ?_ | refine AO.pure (PureOp.assignB (SLe.eq rfl)) rfl rfl ?_ | refine AO.pure (PureOp.assignT (SLe.eq rfl)) rfl rfl ?_ | refine AO.pure (PureOp.assignO (SLe.eq rfl)) rfl rfl ?_ | refine AO.pure (PureOp.assignP (SLe.eq rfl)) rfl rfl ?_ | refine AO.pure (PureOp.assignA (SLe.eq rfl)) rfl rfl ?_
            refine AO.nil ?_
            refine blockQ_normal ?_
            refine thenQ_normal ?_
            refine AC.region ?_
            refine AO.pure (PureOp.add (SLe.eq rfl) (SLe.eq rfl) (by omega) (by omega)) rfl rfl ?_
            first | refine AO.pure (PureOp.moveD (SLe.eq rfl)) rfl rfl ?_ | refine AO.pure (PureOp.moveB (SLe.eq rfl)) rfl rfl ?_ | refine AO.pure (PureOp.moveT (SLe.eq rfl)) rfl rfl ?_ | refine AO.pure (PureOp.moveO (SLe.eq rfl)) rfl rfl ?_ | refine AO.pure (PureOp.moveP (SLe.eq rfl)) rfl rfl ?_ | refine AO.pure (PureOp.moveA (SLe.eq rfl)) rfl rfl ?_
            refine AO.nil ?_
            refine thenQ_normal ?_
            refine ⟨i + 1, hlt, (by omega), ?_⟩
            rw [hm]
            refine Le.mk [(0, 0)] ⟨(by first | exact ⟨SLe.eq rfl, rfl⟩ | exact rfl | exact ⟨SLe.nil rfl, rfl⟩ | exact ⟨SLe.int rfl (by omega), rfl⟩ | exact ⟨SLe.bool rfl (by simp_all), rfl⟩ | exact ⟨SLe.sl rfl (by simp_all), rfl⟩), (by first | exact ⟨SLe.eq rfl, rfl⟩ | exact rfl | exact ⟨SLe.nil rfl, rfl⟩ | exact ⟨SLe.int rfl (by omega), rfl⟩ | exact ⟨SLe.bool rfl (by simp_all), rfl⟩ | exact ⟨SLe.sl rfl (by simp_all), rfl⟩), (by first | exact ⟨SLe.eq rfl, rfl⟩ | exact rfl | exact ⟨SLe.nil rfl, rfl⟩ | exact ⟨SLe.int rfl (by omega), rfl⟩ | exact ⟨SLe.bool rfl (by simp_all), rfl⟩ | exact ⟨SLe.sl rfl (by simp_all), rfl⟩), (by first | exact ⟨SLe.eq rfl, rfl⟩ | exact rfl | exact ⟨SLe.nil rfl, rfl⟩ | exact ⟨SLe.int rfl (by omega), rfl⟩ | exact ⟨SLe.bool rfl (by simp_all), rfl⟩ | exact ⟨SLe.sl rfl (by simp_all), rfl⟩), (by first | exact ⟨SLe.eq rfl, rfl⟩ | exact rfl | exact ⟨SLe.nil rfl, rfl⟩ | exact ⟨SLe.int rfl (by omega), rfl⟩ | exact ⟨SLe.bool rfl (by simp_all), rfl⟩ | exact ⟨SLe.sl rfl (by simp_all), rfl⟩), (by first | exact ⟨SLe.eq rfl, rfl⟩ | exact rfl | exact ⟨SLe.nil rfl, rfl⟩ | exact ⟨SLe.int rfl (by omega), rfl⟩ | exact ⟨SLe.bool rfl (by simp_all), rfl⟩ | exact ⟨SLe.sl rfl (by simp_all), rfl⟩), (by first | exact ⟨SLe.eq rfl, rfl⟩ | exact rfl | exact ⟨SLe.nil rfl, rfl⟩ | exact ⟨SLe.int rfl (by omega), rfl⟩ | exact ⟨SLe.bool rfl (by simp_all), rfl⟩ | exact ⟨SLe.sl rfl (by simp_all), rfl⟩), (by first | exact ⟨SLe.eq rfl, rfl⟩ | exact rfl | exact ⟨SLe.nil rfl, rfl⟩ | exact ⟨SLe.int rfl (by omega), rfl⟩ | exact ⟨SLe.bool rfl (by simp_all), rfl⟩ | exact ⟨SLe.sl rfl (by simp_all), rfl⟩), trivial⟩ ⟨⟨_, rfl, ⟨(by first | exact ⟨SLe.eq rfl, rfl⟩ | exact rfl | exact ⟨SLe.nil rfl, rfl⟩ | exact ⟨SLe.int rfl (by omega), rfl⟩ | exact ⟨SLe.bool rfl (by simp_all), rfl⟩ | exact ⟨SLe.sl rfl (by simp_all), rfl⟩), (by first | exact ⟨SLe.eq rfl, rfl⟩ | exact rfl | exact ⟨SLe.nil rfl, rfl⟩ | exact ⟨SLe.int rfl (by omega), rfl⟩ | exact ⟨SLe.bool rfl (by simp_all), rfl⟩ | exact ⟨SLe.sl rfl (by simp_all), rfl⟩), (by first | exact ⟨SLe.eq rfl, rfl⟩ | exact rfl | exact ⟨SLe.nil rfl, rfl⟩ | exact ⟨SLe.int rfl (by omega), rfl⟩ | exact ⟨SLe.bool rfl (by simp_all), rfl⟩ | exact ⟨SLe.sl rfl (by simp_all), rfl⟩), (by first | exact ⟨SLe.eq rfl, rfl⟩ | exact rfl | exact ⟨SLe.nil rfl, rfl⟩ | exact ⟨SLe.int rfl (by omega), rfl⟩ | exact ⟨SLe.bool rfl (by simp_all), rfl⟩ | exact ⟨SLe.sl rfl (by simp_all), rfl⟩), (by first | exact ⟨SLe.eq rfl, rfl⟩ | exact rfl | exact ⟨SLe.nil rfl, rfl⟩ | exact ⟨SLe.int rfl (by omega), rfl⟩ | exact ⟨SLe.bool rfl (by simp_all), rfl⟩ | exact ⟨SLe.sl rfl (by simp_all), rfl⟩), (by first | exact ⟨SLe.eq rfl, rfl⟩ | exact rfl | exact ⟨SLe.nil rfl, rfl⟩ | exact ⟨SLe.int rfl (by omega), rfl⟩ | exact ⟨SLe.bool rfl (by simp_all), rfl⟩ | exact ⟨SLe.sl rfl (by simp_all), rfl⟩), (by first | exact ⟨SLe.eq rfl, rfl⟩ | exact rfl | exact ⟨SLe.nil rfl, rfl⟩ | exact ⟨SLe.int rfl (by omega), rfl⟩ | exact ⟨SLe.bool rfl (by simp_all), rfl⟩ | exact ⟨SLe.sl rfl (by simp_all), rfl⟩), trivial⟩⟩, trivial⟩ ⟨⟨_, rfl, rfl⟩, trivial⟩ rfl rfl rfl rfl rfl
          · skip
            have hend : l.take i = l := by rw [rr_length] at hb; have := of_decide_eq_false hb; rw [List.take_of_length_le]; omega
            rw [hend]
            refine AC.exit ?_
            refine thenQ_exit ?_
            refine thenQ_exit ?_
            refine blockQ_hit ?_
            refine thenQ_normal ?_
            refine AC.seq ?_
            refine AC.region ?_
            first | refine AO.pure (PureOp.assignD (SLe.eq rfl)) rfl rfl ?_ | refine AO.pure (PureOp.assignB (SLe.eq rfl)) rfl rfl ?_ | refine AO.pure (PureOp.assignT (SLe.eq rfl)) rfl rfl ?_ | refine AO.pure (PureOp.assignO (SLe.eq rfl)) rfl rfl ?_ | refine AO.pure (PureOp.assignP (SLe.eq rfl)) rfl rfl ?_ | refine AO.pure (PureOp.assignA (SLe.eq rfl)) rfl rfl ?_
            refine AO.nil ?_
            refine thenQ_normal ?_
            refine AC.block ?_
            refine AC.loop (ι := Nat) (fun line => ⟨[(4, .d (.sl 7 (rr l))), (5, .bx 0 0), (6, .os 0), (7, .d (iD (f : Int))), (8, .d (bD (l.any (refP f)))), (11, .d (iD (line : Int)))], [(0, [.d (iD 100), .d (iD xf), .d (iD 50), .d (iD xk), .d (iD xl), .d (iD ma), .d (iD mb)])], [(0, ⟨32, 7, rr ((⟨100, xf, 50, xk, xl, ma, mb⟩ : Rep) :: l)⟩)], 1, true, 96⟩) (fun line => line ≤ 3) (fun line => 3 - line) 0 ?_ (Nat.zero_le _) ?_
            · refine Le.mk [(0, 0)] ⟨(by first | exact ⟨SLe.eq rfl, rfl⟩ | exact rfl | exact ⟨SLe.nil rfl, rfl⟩ | exact ⟨SLe.int rfl (by omega), rfl⟩ | exact ⟨SLe.bool rfl (by simp_all), rfl⟩ | exact ⟨SLe.sl rfl (by simp_all), rfl⟩), (by first | exact ⟨SLe.eq rfl, rfl⟩ | exact rfl | exact ⟨SLe.nil rfl, rfl⟩ | exact ⟨SLe.int rfl (by omega), rfl⟩ | exact ⟨SLe.bool rfl (by simp_all), rfl⟩ | exact ⟨SLe.sl rfl (by simp_all), rfl⟩), (by first | exact ⟨SLe.eq rfl, rfl⟩ | exact rfl | exact ⟨SLe.nil rfl, rfl⟩ | exact ⟨SLe.int rfl (by omega), rfl⟩ | exact ⟨SLe.bool rfl (by simp_all), rfl⟩ | exact ⟨SLe.sl rfl (by simp_all), rfl⟩), (by first | exact ⟨SLe.eq rfl, rfl⟩ | exact rfl | exact ⟨SLe.nil rfl, rfl⟩ | exact ⟨SLe.int rfl (by omega), rfl⟩ | exact ⟨SLe.bool rfl (by simp_all), rfl⟩ | exact ⟨SLe.sl rfl (by simp_all), rfl⟩), (by first | exact ⟨SLe.eq rfl, rfl⟩ | exact rfl | exact ⟨SLe.nil rfl, rfl⟩ | exact ⟨SLe.int rfl (by omega), rfl⟩ | exact ⟨SLe.bool rfl (by simp_all), rfl⟩ | exact ⟨SLe.sl rfl (by simp_all), rfl⟩), (by first | exact ⟨SLe.eq rfl, rfl⟩ | exact rfl | exact ⟨SLe.nil rfl, rfl⟩ | exact ⟨SLe.int rfl (by omega), rfl⟩ | exact ⟨SLe.bool rfl (by simp_all), rfl⟩ | exact ⟨SLe.sl rfl (by simp_all), rfl⟩), trivial⟩ ⟨⟨_, rfl, ⟨(by first | exact ⟨SLe.eq rfl, rfl⟩ | exact rfl | exact ⟨SLe.nil rfl, rfl⟩ | exact ⟨SLe.int rfl (by omega), rfl⟩ | exact ⟨SLe.bool rfl (by simp_all), rfl⟩ | exact ⟨SLe.sl rfl (by simp_all), rfl⟩), (by first | exact ⟨SLe.eq rfl, rfl⟩ | exact rfl | exact ⟨SLe.nil rfl, rfl⟩ | exact ⟨SLe.int rfl (by omega), rfl⟩ | exact ⟨SLe.bool rfl (by simp_all), rfl⟩ | exact ⟨SLe.sl rfl (by simp_all), rfl⟩), (by first | exact ⟨SLe.eq rfl, rfl⟩ | exact rfl | exact ⟨SLe.nil rfl, rfl⟩ | exact ⟨SLe.int rfl (by omega), rfl⟩ | exact ⟨SLe.bool rfl (by simp_all), rfl⟩ | exact ⟨SLe.sl rfl (by simp_all), rfl⟩), (by first | exact ⟨SLe.eq rfl, rfl⟩ | exact rfl | exact ⟨SLe.nil rfl, rfl⟩ | exact ⟨SLe.int rfl (by omega), rfl⟩ | exact ⟨SLe.bool rfl (by simp_all), rfl⟩ | exact ⟨SLe.sl rfl (by simp_all), rfl⟩), (by first | exact ⟨SLe.eq rfl, rfl⟩ | exact rfl | exact ⟨SLe.nil rfl, rfl⟩ | exact ⟨SLe.int rfl (by omega), rfl⟩ | exact ⟨SLe.bool rfl (by simp_all), rfl⟩ | exact ⟨SLe.sl rfl (by simp_all), rfl⟩), (by first | exact ⟨SLe.eq rfl, rfl⟩ | exact rfl | exact ⟨SLe.nil rfl, rfl⟩ | exact ⟨SLe.int rfl (by omega), rfl⟩ | exact ⟨SLe.bool rfl (by simp_all), rfl⟩ | exact ⟨SLe.sl rfl (by simp_all), rfl⟩), (by first | exact ⟨SLe.eq rfl, rfl⟩ | exact rfl | exact ⟨SLe.nil rfl, rfl⟩ | exact ⟨SLe.int rfl (by omega), rfl⟩ | exact ⟨SLe.bool rfl (by simp_all), rfl⟩ | exact ⟨SLe.sl rfl (by simp_all), rfl⟩), trivial⟩⟩, trivial⟩ ⟨⟨_, rfl, rfl⟩, trivial⟩ rfl rfl rfl rfl rfl
            · rintro line hln
              refine AC.seq ?_
              refine AC.seq ?_
              refine AC.region ?_
              first | refine AO.pure (PureOp.moveD (SLe.eq rfl)) rfl rfl ?_ | refine AO.pure (PureOp.moveB (SLe.eq rfl)) rfl rfl ?_ | refine AO.pure (PureOp.moveT (SLe.eq rfl)) rfl rfl ?_ | refine AO.pure (PureOp.moveO (SLe.eq rfl)) rfl rfl ?_ | refine AO.pure (PureOp.moveP (SLe.eq rfl)) rfl rfl ?_ | refine AO.pure (PureOp.moveA (SLe.eq rfl)) rfl rfl ?_
              refine AO.pure (PureOp.lss (SLe.eq rfl) (SLe.eq rfl)) rfl rfl ?_
              refine AO.nil ?_
              refine thenQ_normal ?_
              refine AC.cond (SLe.eq rfl) (fun hb => ?_) (fun hb => ?_)
              · skip
                have hl3 : line < 3 := by have := of_decide_eq_true hb; omega
                refine AC.skip ?_
                refine thenQ_normal ?_
                refine AC.seq ?_
                refine AC.block ?_
                refine AC.seq ?_
                refine AC.region ?_
                first | refine AO.pure (PureOp.moveD (SLe.eq rfl)) rfl rfl ?_ | refine AO.pure (PureOp.moveB (SLe.eq rfl)) rfl rfl ?_ | refine AO.pure (PureOp.moveT (SLe.eq rfl)) rfl rfl ?_ | refine AO.pure (PureOp.moveO (SLe.eq rfl)) rfl rfl ?_ | refine AO.pure (PureOp.moveP (SLe.eq rfl)) rfl rfl ?_ | refine AO.pure (PureOp.moveA (SLe.eq rfl)) rfl rfl ?_
                first | refine AO.pure (PureOp.moveD (SLe.eq rfl)) rfl rfl ?_ | refine AO.pure (PureOp.moveB (SLe.eq rfl)) rfl rfl ?_ | refine AO.pure (PureOp.moveT (SLe.eq rfl)) rfl rfl ?_ | refine AO.pure (PureOp.moveO (SLe.eq rfl)) rfl rfl ?_ | refine AO.pure (PureOp.moveP (SLe.eq rfl)) rfl rfl ?_ | refine AO.pure (PureOp.moveA (SLe.eq rfl)) rfl rfl ?_
                first | refine AO.pure (PureOp.moveD (SLe.eq rfl)) rfl rfl ?_ | refine AO.pure (PureOp.moveB (SLe.eq rfl)) rfl rfl ?_ | refine AO.pure (PureOp.moveT (SLe.eq rfl)) rfl rfl ?_ | refine AO.pure (PureOp.moveO (SLe.eq rfl)) rfl rfl ?_ | refine AO.pure (PureOp.moveP (SLe.eq rfl)) rfl rfl ?_ | refine AO.pure (PureOp.moveA (SLe.eq rfl)) rfl rfl ?_
                refine AO.pure (PureOp.pcall (.cons (SLe.eq rfl) (by first | exact .d _ | exact View.osr rfl rfl | exact .bx rfl rfl | exact .agg (by repeat (first | exact .nil | refine .cons (by first | exact .d _ | exact View.osr rfl rfl) ?_)) | exact .fn (by repeat (first | exact .nil | refine .cons (by first | exact .d _ | exact View.osr rfl rfl | exact .bx rfl rfl) ?_))) (.cons (SLe.eq rfl) (by first | exact .d _ | exact View.osr rfl rfl | exact .bx rfl rfl | exact .agg (by repeat (first | exact .nil | refine .cons (by first | exact .d _ | exact View.osr rfl rfl) ?_)) | exact .fn (by repeat (first | exact .nil | refine .cons (by first | exact .d _ | exact View.osr rfl rfl | exact .bx rfl rfl) ?_))) (.cons (SLe.eq rfl) (by first | exact .d _ | exact View.osr rfl rfl | exact .bx rfl rfl | exact .agg (by repeat (first | exact .nil | refine .cons (by first | exact .d _ | exact View.osr rfl rfl) ?_)) | exact .fn (by repeat (first | exact .nil | refine .cons (by first | exact .d _ | exact View.osr rfl rfl | exact .bx rfl rfl) ?_))) .nil))) (line_any l f line hb1) (by kernel_rfl)) rfl rfl ?_
                refine AO.alloc (z := .agg #[.int .i64 0, .int .i64 0, .int .i64 0]) (by kernel_rfl) rfl rfl rfl ?_
                refine AO.store (SLe.eq rfl) (SLe.eq rfl) rfl rfl rfl rfl rfl (by kernel_rfl) rfl rfl ?_
                refine AO.nil ?_
                refine thenQ_normal ?_
                refine AC.seq ?_
                refine AC.seq ?_
                refine AC.region ?_
                first | refine AO.pure (PureOp.moveD (SLe.eq rfl)) rfl rfl ?_ | refine AO.pure (PureOp.moveB (SLe.eq rfl)) rfl rfl ?_ | refine AO.pure (PureOp.moveT (SLe.eq rfl)) rfl rfl ?_ | refine AO.pure (PureOp.moveO (SLe.eq rfl)) rfl rfl ?_ | refine AO.pure (PureOp.moveP (SLe.eq rfl)) rfl rfl ?_ | refine AO.pure (PureOp.moveA (SLe.eq rfl)) rfl rfl ?_
                first | refine AO.pure (PureOp.fldB (k := 1) (SLe.eq rfl) (by kernel_rfl)) rfl rfl ?_ | refine AO.pure (PureOp.fld (k := 1) (SLe.eq rfl) (by kernel_rfl)) rfl rfl ?_ | refine AO.pure (PureOp.fldO (k := 1) (SLe.eq rfl) (by kernel_rfl)) rfl rfl ?_
                first | refine AO.pure (PureOp.loadB1 (SLe.eq rfl) rfl rfl (by kernel_rfl)) rfl rfl ?_ | refine AO.pure (PureOp.load1 (SLe.eq rfl) rfl (by kernel_rfl)) rfl rfl ?_ | refine AO.pure (PureOp.loadO1 (i := _) (j := _) (SLe.eq rfl) rfl rfl (by assumption) rfl (by kernel_rfl)) rfl rfl ?_
                refine AO.pure (PureOp.eql (SLe.eq rfl) (SLe.eq rfl)) rfl rfl ?_
                first | refine AO.pure (PureOp.moveD (SLe.eq rfl)) rfl rfl ?_ | refine AO.pure (PureOp.moveB (SLe.eq rfl)) rfl rfl ?_ | refine AO.pure (PureOp.moveT (SLe.eq rfl)) rfl rfl ?_ | refine AO.pure (PureOp.moveO (SLe.eq rfl)) rfl rfl ?_ | refine AO.pure (PureOp.moveP (SLe.eq rfl)) rfl rfl ?_ | refine AO.pure (PureOp.moveA (SLe.eq rfl)) rfl rfl ?_
                first | refine AO.guarded rfl rfl (fun hG => PureOp.moveD (SLe.eq rfl)) rfl rfl ?_ | refine AO.guarded rfl rfl (fun hG => PureOp.moveB (SLe.eq rfl)) rfl rfl ?_ | refine AO.guarded rfl rfl (fun hG => PureOp.moveT (SLe.eq rfl)) rfl rfl ?_ | refine AO.guarded rfl rfl (fun hG => PureOp.moveO (SLe.eq rfl)) rfl rfl ?_ | refine AO.guarded rfl rfl (fun hG => PureOp.moveP (SLe.eq rfl)) rfl rfl ?_ | refine AO.guarded rfl rfl (fun hG => PureOp.moveA (SLe.eq rfl)) rfl rfl ?_
                first | refine AO.guarded rfl rfl (fun hG => PureOp.fldB (k := 4) (SLe.eq rfl) (by kernel_rfl)) rfl rfl ?_ | refine AO.guarded rfl rfl (fun hG => PureOp.fld (k := 4) (SLe.eq rfl) (by kernel_rfl)) rfl rfl ?_ | refine AO.guarded rfl rfl (fun hG => PureOp.fldO (k := 4) (SLe.eq rfl) (by kernel_rfl)) rfl rfl ?_
                first | refine AO.guarded rfl rfl (fun hG => PureOp.loadB1 (SLe.cnd rfl (by first | exact hG | (simp only [Bool.and_eq_true, beq_iff_eq] at hG ⊢; simp [hG]) | simp_all)) rfl rfl (by kernel_rfl)) rfl rfl ?_ | refine AO.guarded rfl rfl (fun hG => PureOp.load1 (SLe.cnd rfl (by first | exact hG | (simp only [Bool.and_eq_true, beq_iff_eq] at hG ⊢; simp [hG]) | simp_all)) rfl (by kernel_rfl)) rfl rfl ?_ | refine AO.guarded rfl rfl (fun hG => PureOp.loadO1 (i := _) (j := _) (SLe.cnd rfl (by first | exact hG | (simp only [Bool.and_eq_true, beq_iff_eq] at hG ⊢; simp [hG]) | simp_all)) rfl rfl (by assumption) rfl (by kernel_rfl)) rfl rfl ?_
                refine AO.guarded rfl rfl (fun hG => PureOp.eql (SLe.cnd rfl (by first | exact hG | (simp only [Bool.and_eq_true, beq_iff_eq] at hG ⊢; simp [hG]) | simp_all)) (SLe.cnd rfl (by first | exact hG | (simp only [Bool.and_eq_true, beq_iff_eq] at hG ⊢; simp [hG]) | simp_all))) rfl rfl ?_
                refine AO.pure (PureOp.pickAnd (SLe.eq rfl) rfl rfl (by intro h; first | (simp_all; done) | (simp_all; exact Decidable.imp_iff_not_or.1 (by assumption)))) rfl rfl ?_
                refine AO.nil ?_
                refine thenQ_normal ?_
                refine AC.cond (SLe.eq rfl) (fun hb => ?_) (fun hb => ?_)
                · skip
                  have h74 := hb
                  refine AC.region ?_
                  first | refine AO.pure (PureOp.fldB (k := 3) (SLe.eq rfl) (by kernel_rfl)) rfl rfl ?_ | refine AO.pure (PureOp.fld (k := 3) (SLe.eq rfl) (by kernel_rfl)) rfl rfl ?_ | refine AO.pure (PureOp.fldO (k := 3) (SLe.eq rfl) (by kernel_rfl)) rfl rfl ?_
                  first | refine AO.pure (PureOp.loadB1 (SLe.eq rfl) rfl rfl (by kernel_rfl)) rfl rfl ?_ | refine AO.pure (PureOp.load1 (SLe.eq rfl) rfl (by kernel_rfl)) rfl rfl ?_ | refine AO.pure (PureOp.loadO1 (i := _) (j := _) (SLe.eq rfl) rfl rfl (by assumption) rfl (by kernel_rfl)) rfl rfl ?_
                  first | refine AO.pure (PureOp.fldB (k := 5) (SLe.eq rfl) (by kernel_rfl)) rfl rfl ?_ | refine AO.pure (PureOp.fld (k := 5) (SLe.eq rfl) (by kernel_rfl)) rfl rfl ?_ | refine AO.pure (PureOp.fldO (k := 5) (SLe.eq rfl) (by kernel_rfl)) rfl rfl ?_
                  first | refine AO.pure (PureOp.loadBN (sz := 2) (SLe.eq rfl) rfl rfl rfl rfl (by kernel_rfl)) rfl rfl ?_ | refine AO.pure (PureOp.loadN (sz := 2) (SLe.eq rfl) rfl rfl (by kernel_rfl)) rfl rfl ?_ | refine AO.pure (PureOp.loadON (sz := 2) (i := _) (SLe.eq rfl) rfl rfl (by assumption) rfl (by kernel_rfl)) rfl rfl ?_ | refine AO.pure (PureOp.loadBS (sz := 2) (SLe.eq rfl) rfl rfl rfl (by kernel_rfl)) rfl rfl ?_
                  first | refine AO.pure (PureOp.build (z := .agg #[.int .i64 0, .int .i64 0, .int .i64 0]) (pl := [(0, 1), (1, 2)]) (by kernel_rfl) rfl (by kernel_rfl) (.cons (SLe.eq rfl) rfl (.cons (SLe.eq rfl) rfl .nil)) rfl rfl) rfl rfl ?_ | refine AO.pure (PureOp.buildS (z := .agg #[.int .i64 0, .int .i64 0, .int .i64 0]) (pl := [(0, 1), (1, 2)]) (by kernel_rfl) rfl (by kernel_rfl) (.cons (SLe.eq rfl) rfl (.cons (SLe.eq rfl) rfl .nil)) rfl) rfl rfl ?_
                  refine AO.store (SLe.eq rfl) (SLe.eq rfl) rfl rfl rfl rfl rfl (by kernel_rfl) rfl rfl ?_
                  refine AO.nil ?_
                  refine thenQ_normal ?_
                  refine AC.seq ?_
                  refine AC.seq ?_
                  refine AC.region ?_
                  first | refine AO.pure (PureOp.moveD (SLe.eq rfl)) rfl rfl ?_ | refine AO.pure (PureOp.moveB (SLe.eq rfl)) rfl rfl ?_ | refine AO.pure (PureOp.moveT (SLe.eq rfl)) rfl rfl ?_ | refine AO.pure (PureOp.moveO (SLe.eq rfl)) rfl rfl ?_ | refine AO.pure (PureOp.moveP (SLe.eq rfl)) rfl rfl ?_ | refine AO.pure (PureOp.moveA (SLe.eq rfl)) rfl rfl ?_
                  refine AO.nil ?_
                  refine thenQ_normal ?_
                  refine AC.cond (SLe.eq rfl) (fun hb => ?_) (fun hb => ?_)
                  · skip
                    have h80 := hb
                    refine AC.region ?_
                    first | refine AO.pure (PureOp.build (z := .agg #[.int .i64 0, .int .i64 0, .int .i64 0]) (pl := [(0, 1), (1, 2)]) (by kernel_rfl) rfl (by kernel_rfl) (.cons (SLe.eq rfl) rfl .nil) rfl rfl) rfl rfl ?_ | refine AO.pure (PureOp.buildS (z := .agg #[.int .i64 0, .int .i64 0, .int .i64 0]) (pl := [(0, 1), (1, 2)]) (by kernel_rfl) rfl (by kernel_rfl) (.cons (SLe.eq rfl) rfl .nil) rfl) rfl rfl ?_
                    refine AO.store (SLe.eq rfl) (SLe.eq rfl) rfl rfl rfl rfl rfl (by kernel_rfl) rfl rfl ?_
                    refine AO.nil ?_
                    refine thenQ_normal ?_
                    refine AC.seq ?_
                    -- DRAWN region 24
                    refine AC.drawN 6 [] (by kernel_rfl) (by kernel_rfl) (by kernel_rfl) .nil (by kernel_rfl) ?_
                    first | refine PSeqN.pure (PureOp.moveD (SLe.eq rfl)) rfl rfl ?_ | refine PSeqN.pure (PureOp.moveB (SLe.eq rfl)) rfl rfl ?_ | refine PSeqN.pure (PureOp.moveT (SLe.eq rfl)) rfl rfl ?_ | refine PSeqN.pure (PureOp.moveO (SLe.eq rfl)) rfl rfl ?_ | refine PSeqN.pure (PureOp.moveP (SLe.eq rfl)) rfl rfl ?_ | refine PSeqN.pure (PureOp.moveA (SLe.eq rfl)) rfl rfl ?_
                    first | refine PSeqN.pure (PureOp.moveD (SLe.eq rfl)) rfl rfl ?_ | refine PSeqN.pure (PureOp.moveB (SLe.eq rfl)) rfl rfl ?_ | refine PSeqN.pure (PureOp.moveT (SLe.eq rfl)) rfl rfl ?_ | refine PSeqN.pure (PureOp.moveO (SLe.eq rfl)) rfl rfl ?_ | refine PSeqN.pure (PureOp.moveP (SLe.eq rfl)) rfl rfl ?_ | refine PSeqN.pure (PureOp.moveA (SLe.eq rfl)) rfl rfl ?_
                    first | refine PSeqN.pure (PureOp.moveD (SLe.eq rfl)) rfl rfl ?_ | refine PSeqN.pure (PureOp.moveB (SLe.eq rfl)) rfl rfl ?_ | refine PSeqN.pure (PureOp.moveT (SLe.eq rfl)) rfl rfl ?_ | refine PSeqN.pure (PureOp.moveO (SLe.eq rfl)) rfl rfl ?_ | refine PSeqN.pure (PureOp.moveP (SLe.eq rfl)) rfl rfl ?_ | refine PSeqN.pure (PureOp.moveA (SLe.eq rfl)) rfl rfl ?_
                    refine PSeqN.pure (PureOp.pcall (.cons (SLe.eq rfl) (by first | exact .d _ | exact View.osr rfl rfl | exact .bx rfl rfl | exact .agg (by repeat (first | exact .nil | refine .cons (by first | exact .d _ | exact View.osr rfl rfl) ?_)) | exact .fn (by repeat (first | exact .nil | refine .cons (by first | exact .d _ | exact View.osr rfl rfl | exact .bx rfl rfl) ?_))) (.cons (SLe.eq rfl) (by first | exact .d _ | exact View.osr rfl rfl | exact .bx rfl rfl | exact .agg (by repeat (first | exact .nil | refine .cons (by first | exact .d _ | exact View.osr rfl rfl) ?_)) | exact .fn (by repeat (first | exact .nil | refine .cons (by first | exact .d _ | exact View.osr rfl rfl | exact .bx rfl rfl) ?_))) (.cons (SLe.eq rfl) (by first | exact .d _ | exact View.osr rfl rfl | exact .bx rfl rfl | exact .agg (by repeat (first | exact .nil | refine .cons (by first | exact .d _ | exact View.osr rfl rfl) ?_)) | exact .fn (by repeat (first | exact .nil | refine .cons (by first | exact .d _ | exact View.osr rfl rfl | exact .bx rfl rfl) ?_))) .nil))) (line_any ((⟨100, xf, 50, xk, xl, ma, mb⟩ : Rep) :: l) f line hb2) (by kernel_rfl)) rfl rfl ?_
                    first | refine PSeqN.pure (PureOp.loadBN (sz := 3) (SLe.eq rfl) rfl rfl rfl rfl (by kernel_rfl)) rfl rfl ?_ | refine PSeqN.pure (PureOp.loadN (sz := 3) (SLe.eq rfl) rfl rfl (by kernel_rfl)) rfl rfl ?_ | refine PSeqN.pure (PureOp.loadON (sz := 3) (i := _) (SLe.eq rfl) rfl rfl (by assumption) rfl (by kernel_rfl)) rfl rfl ?_ | refine PSeqN.pure (PureOp.loadBS (sz := 3) (SLe.eq rfl) rfl rfl rfl (by kernel_rfl)) rfl rfl ?_
                    refine PSeqN.pure (PureOp.neqA (ks := [false, false, false]) (by kernel_rfl) (SLe.eq rfl) (SLe.eq rfl) rfl) rfl rfl ?_
                    refine PSeqN.nil ?_
                    refine AO.nil ?_
                    refine thenQ_normal ?_
                    refine AC.cond (SLe.eq rfl) (fun hb => ?_) (fun hb => ?_)
                    · skip
                      rw [hlate f line, h80, h74] at hb
                      simp at hb
                    · skip
                      refine AC.skip ?_
                      refine blockQ_normal ?_
                      refine thenQ_normal ?_
                      refine AC.region ?_
                      first | refine AO.pure (PureOp.moveD (SLe.eq rfl)) rfl rfl ?_ | refine AO.pure (PureOp.moveB (SLe.eq rfl)) rfl rfl ?_ | refine AO.pure (PureOp.moveT (SLe.eq rfl)) rfl rfl ?_ | refine AO.pure (PureOp.moveO (SLe.eq rfl)) rfl rfl ?_ | refine AO.pure (PureOp.moveP (SLe.eq rfl)) rfl rfl ?_ | refine AO.pure (PureOp.moveA (SLe.eq rfl)) rfl rfl ?_
                      refine AO.pure (PureOp.add (SLe.eq rfl) (SLe.eq rfl) (by omega) (by omega)) rfl rfl ?_
                      first | refine AO.pure (PureOp.assignD (SLe.eq rfl)) rfl rfl ?_ | refine AO.pure (PureOp.assignB (SLe.eq rfl)) rfl rfl ?_ | refine AO.pure (PureOp.assignT (SLe.eq rfl)) rfl rfl ?_ | refine AO.pure (PureOp.assignO (SLe.eq rfl)) rfl rfl ?_ | refine AO.pure (PureOp.assignP (SLe.eq rfl)) rfl rfl ?_ | refine AO.pure (PureOp.assignA (SLe.eq rfl)) rfl rfl ?_
                      refine AO.nil ?_
                      refine thenQ_normal ?_
                      refine ⟨line + 1, (by omega), (by omega), ?_⟩
                      refine Le.mk [(0, 0)] ⟨(by first | exact ⟨SLe.eq rfl, rfl⟩ | exact rfl | exact ⟨SLe.nil rfl, rfl⟩ | exact ⟨SLe.int rfl (by omega), rfl⟩ | exact ⟨SLe.bool rfl (by simp_all), rfl⟩ | exact ⟨SLe.sl rfl (by simp_all), rfl⟩), (by first | exact ⟨SLe.eq rfl, rfl⟩ | exact rfl | exact ⟨SLe.nil rfl, rfl⟩ | exact ⟨SLe.int rfl (by omega), rfl⟩ | exact ⟨SLe.bool rfl (by simp_all), rfl⟩ | exact ⟨SLe.sl rfl (by simp_all), rfl⟩), (by first | exact ⟨SLe.eq rfl, rfl⟩ | exact rfl | exact ⟨SLe.nil rfl, rfl⟩ | exact ⟨SLe.int rfl (by omega), rfl⟩ | exact ⟨SLe.bool rfl (by simp_all), rfl⟩ | exact ⟨SLe.sl rfl (by simp_all), rfl⟩), (by first | exact ⟨SLe.eq rfl, rfl⟩ | exact rfl | exact ⟨SLe.nil rfl, rfl⟩ | exact ⟨SLe.int rfl (by omega), rfl⟩ | exact ⟨SLe.bool rfl (by simp_all), rfl⟩ | exact ⟨SLe.sl rfl (by simp_all), rfl⟩), (by first | exact ⟨SLe.eq rfl, rfl⟩ | exact rfl | exact ⟨SLe.nil rfl, rfl⟩ | exact ⟨SLe.int rfl (by omega), rfl⟩ | exact ⟨SLe.bool rfl (by simp_all), rfl⟩ | exact ⟨SLe.sl rfl (by simp_all), rfl⟩), (by first | exact ⟨SLe.eq rfl, rfl⟩ | exact rfl | exact ⟨SLe.nil rfl, rfl⟩ | exact ⟨SLe.int rfl (by omega), rfl⟩ | exact ⟨SLe.bool rfl (by simp_all), rfl⟩ | exact ⟨SLe.sl rfl (by simp_all), rfl⟩), trivial⟩ ⟨⟨_, rfl, ⟨(by first | exact ⟨SLe.eq rfl, rfl⟩ | exact rfl | exact ⟨SLe.nil rfl, rfl⟩ | exact ⟨SLe.int rfl (by omega), rfl⟩ | exact ⟨SLe.bool rfl (by simp_all), rfl⟩ | exact ⟨SLe.sl rfl (by simp_all), rfl⟩), (by first | exact ⟨SLe.eq rfl, rfl⟩ | exact rfl | exact ⟨SLe.nil rfl, rfl⟩ | exact ⟨SLe.int rfl (by omega), rfl⟩ | exact ⟨SLe.bool rfl (by simp_all), rfl⟩ | exact ⟨SLe.sl rfl (by simp_all), rfl⟩), (by first | exact ⟨SLe.eq rfl, rfl⟩ | exact rfl | exact ⟨SLe.nil rfl, rfl⟩ | exact ⟨SLe.int rfl (by omega), rfl⟩ | exact ⟨SLe.bool rfl (by simp_all), rfl⟩ | exact ⟨SLe.sl rfl (by simp_all), rfl⟩), (by first | exact ⟨SLe.eq rfl, rfl⟩ | exact rfl | exact ⟨SLe.nil rfl, rfl⟩ | exact ⟨SLe.int rfl (by omega), rfl⟩ | exact ⟨SLe.bool rfl (by simp_all), rfl⟩ | exact ⟨SLe.sl rfl (by simp_all), rfl⟩), (by first | exact ⟨SLe.eq rfl, rfl⟩ | exact rfl | exact ⟨SLe.nil rfl, rfl⟩ | exact ⟨SLe.int rfl (by omega), rfl⟩ | exact ⟨SLe.bool rfl (by simp_all), rfl⟩ | exact ⟨SLe.sl rfl (by simp_all), rfl⟩), (by first | exact ⟨SLe.eq rfl, rfl⟩ | exact rfl | exact ⟨SLe.nil rfl, rfl⟩ | exact ⟨SLe.int rfl (by omega), rfl⟩ | exact ⟨SLe.bool rfl (by simp_all), rfl⟩ | exact ⟨SLe.sl rfl (by simp_all), rfl⟩), (by first | exact ⟨SLe.eq rfl, rfl⟩ | exact rfl | exact ⟨SLe.nil rfl, rfl⟩ | exact ⟨SLe.int rfl (by omega), rfl⟩ | exact ⟨SLe.bool rfl (by simp_all), rfl⟩ | exact ⟨SLe.sl rfl (by simp_all), rfl⟩), trivial⟩⟩, trivial⟩ ⟨⟨_, rfl, rfl⟩, trivial⟩ rfl rfl rfl rfl rfl
                  · skip
                    have h80 := hb
                    refine AC.skip ?_
                    refine thenQ_normal ?_
                    refine AC.seq ?_
                    -- DRAWN region 24
                    refine AC.drawN 6 [] (by kernel_rfl) (by kernel_rfl) (by kernel_rfl) .nil (by kernel_rfl) ?_
                    first | refine PSeqN.pure (PureOp.moveD (SLe.eq rfl)) rfl rfl ?_ | refine PSeqN.pure (PureOp.moveB (SLe.eq rfl)) rfl rfl ?_ | refine PSeqN.pure (PureOp.moveT (SLe.eq rfl)) rfl rfl ?_ | refine PSeqN.pure (PureOp.moveO (SLe.eq rfl)) rfl rfl ?_ | refine PSeqN.pure (PureOp.moveP (SLe.eq rfl)) rfl rfl ?_ | refine PSeqN.pure (PureOp.moveA (SLe.eq rfl)) rfl rfl ?_
                    first | refine PSeqN.pure (PureOp.moveD (SLe.eq rfl)) rfl rfl ?_ | refine PSeqN.pure (PureOp.moveB (SLe.eq rfl)) rfl rfl ?_ | refine PSeqN.pure (PureOp.moveT (SLe.eq rfl)) rfl rfl ?_ | refine PSeqN.pure (PureOp.moveO (SLe.eq rfl)) rfl rfl ?_ | refine PSeqN.pure (PureOp.moveP (SLe.eq rfl)) rfl rfl ?_ | refine PSeqN.pure (PureOp.moveA (SLe.eq rfl)) rfl rfl ?_
                    first | refine PSeqN.pure (PureOp.moveD (SLe.eq rfl)) rfl rfl ?_ | refine PSeqN.pure (PureOp.moveB (SLe.eq rfl)) rfl rfl ?_ | refine PSeqN.pure (PureOp.moveT (SLe.eq rfl)) rfl rfl ?_ | refine PSeqN.pure (PureOp.moveO (SLe.eq rfl)) rfl rfl ?_ | refine PSeqN.pure (PureOp.moveP (SLe.eq rfl)) rfl rfl ?_ | refine PSeqN.pure (PureOp.moveA (SLe.eq rfl)) rfl rfl ?_
                    refine PSeqN.pure (PureOp.pcall (.cons (SLe.eq rfl) (by first | exact .d _ | exact View.osr rfl rfl | exact .bx rfl rfl | exact .agg (by repeat (first | exact .nil | refine .cons (by first | exact .d _ | exact View.osr rfl rfl) ?_)) | exact .fn (by repeat (first | exact .nil | refine .cons (by first | exact .d _ | exact View.osr rfl rfl | exact .bx rfl rfl) ?_))) (.cons (SLe.eq rfl) (by first | exact .d _ | exact View.osr rfl rfl | exact .bx rfl rfl | exact .agg (by repeat (first | exact .nil | refine .cons (by first | exact .d _ | exact View.osr rfl rfl) ?_)) | exact .fn (by repeat (first | exact .nil | refine .cons (by first | exact .d _ | exact View.osr rfl rfl | exact .bx rfl rfl) ?_))) (.cons (SLe.eq rfl) (by first | exact .d _ | exact View.osr rfl rfl | exact .bx rfl rfl | exact .agg (by repeat (first | exact .nil | refine .cons (by first | exact .d _ | exact View.osr rfl rfl) ?_)) | exact .fn (by repeat (first | exact .nil | refine .cons (by first | exact .d _ | exact View.osr rfl rfl | exact .bx rfl rfl) ?_))) .nil))) (line_any ((⟨100, xf, 50, xk, xl, ma, mb⟩ : Rep) :: l) f line hb2) (by kernel_rfl)) rfl rfl ?_
                    first | refine PSeqN.pure (PureOp.loadBN (sz := 3) (SLe.eq rfl) rfl rfl rfl rfl (by kernel_rfl)) rfl rfl ?_ | refine PSeqN.pure (PureOp.loadN (sz := 3) (SLe.eq rfl) rfl rfl (by kernel_rfl)) rfl rfl ?_ | refine PSeqN.pure (PureOp.loadON (sz := 3) (i := _) (SLe.eq rfl) rfl rfl (by assumption) rfl (by kernel_rfl)) rfl rfl ?_ | refine PSeqN.pure (PureOp.loadBS (sz := 3) (SLe.eq rfl) rfl rfl rfl (by kernel_rfl)) rfl rfl ?_
                    refine PSeqN.pure (PureOp.neqA (ks := [false, false, false]) (by kernel_rfl) (SLe.eq rfl) (SLe.eq rfl) rfl) rfl rfl ?_
                    refine PSeqN.nil ?_
                    refine AO.nil ?_
                    refine thenQ_normal ?_
                    refine AC.cond (SLe.eq rfl) (fun hb => ?_) (fun hb => ?_)
                    · skip
                      rw [hlate f line, h80, h74] at hb
                      simp at hb
                    · skip
                      refine AC.skip ?_
                      refine blockQ_normal ?_
                      refine thenQ_normal ?_
                      refine AC.region ?_
                      first | refine AO.pure (PureOp.moveD (SLe.eq rfl)) rfl rfl ?_ | refine AO.pure (PureOp.moveB (SLe.eq rfl)) rfl rfl ?_ | refine AO.pure (PureOp.moveT (SLe.eq rfl)) rfl rfl ?_ | refine AO.pure (PureOp.moveO (SLe.eq rfl)) rfl rfl ?_ | refine AO.pure (PureOp.moveP (SLe.eq rfl)) rfl rfl ?_ | refine AO.pure (PureOp.moveA (SLe.eq rfl)) rfl rfl ?_
                      refine AO.pure (PureOp.add (SLe.eq rfl) (SLe.eq rfl) (by omega) (by omega)) rfl rfl ?_
                      first | refine AO.pure (PureOp.assignD (SLe.eq rfl)) rfl rfl ?_ | refine AO.pure (PureOp.assignB (SLe.eq rfl)) rfl rfl ?_ | refine AO.pure (PureOp.assignT (SLe.eq rfl)) rfl rfl ?_ | refine AO.pure (PureOp.assignO (SLe.eq rfl)) rfl rfl ?_ | refine AO.pure (PureOp.assignP (SLe.eq rfl)) rfl rfl ?_ | refine AO.pure (PureOp.assignA (SLe.eq rfl)) rfl rfl ?_
                      refine AO.nil ?_
                      refine thenQ_normal ?_
                      refine ⟨line + 1, (by omega), (by omega), ?_⟩
                      refine Le.mk [(0, 0)] ⟨(by first | exact ⟨SLe.eq rfl, rfl⟩ | exact rfl | exact ⟨SLe.nil rfl, rfl⟩ | exact ⟨SLe.int rfl (by omega), rfl⟩ | exact ⟨SLe.bool rfl (by simp_all), rfl⟩ | exact ⟨SLe.sl rfl (by simp_all), rfl⟩), (by first | exact ⟨SLe.eq rfl, rfl⟩ | exact rfl | exact ⟨SLe.nil rfl, rfl⟩ | exact ⟨SLe.int rfl (by omega), rfl⟩ | exact ⟨SLe.bool rfl (by simp_all), rfl⟩ | exact ⟨SLe.sl rfl (by simp_all), rfl⟩), (by first | exact ⟨SLe.eq rfl, rfl⟩ | exact rfl | exact ⟨SLe.nil rfl, rfl⟩ | exact ⟨SLe.int rfl (by omega), rfl⟩ | exact ⟨SLe.bool rfl (by simp_all), rfl⟩ | exact ⟨SLe.sl rfl (by simp_all), rfl⟩), (by first | exact ⟨SLe.eq rfl, rfl⟩ | exact rfl | exact ⟨SLe.nil rfl, rfl⟩ | exact ⟨SLe.int rfl (by omega), rfl⟩ | exact ⟨SLe.bool rfl (by simp_all), rfl⟩ | exact ⟨SLe.sl rfl (by simp_all), rfl⟩), (by first | exact ⟨SLe.eq rfl, rfl⟩ | exact rfl | exact ⟨SLe.nil rfl, rfl⟩ | exact ⟨SLe.int rfl (by omega), rfl⟩ | exact ⟨SLe.bool rfl (by simp_all), rfl⟩ | exact ⟨SLe.sl rfl (by simp_all), rfl⟩), (by first | exact ⟨SLe.eq rfl, rfl⟩ | exact rfl | exact ⟨SLe.nil rfl, rfl⟩ | exact ⟨SLe.int rfl (by omega), rfl⟩ | exact ⟨SLe.bool rfl (by simp_all), rfl⟩ | exact ⟨SLe.sl rfl (by simp_all), rfl⟩), trivial⟩ ⟨⟨_, rfl, ⟨(by first | exact ⟨SLe.eq rfl, rfl⟩ | exact rfl | exact ⟨SLe.nil rfl, rfl⟩ | exact ⟨SLe.int rfl (by omega), rfl⟩ | exact ⟨SLe.bool rfl (by simp_all), rfl⟩ | exact ⟨SLe.sl rfl (by simp_all), rfl⟩), (by first | exact ⟨SLe.eq rfl, rfl⟩ | exact rfl | exact ⟨SLe.nil rfl, rfl⟩ | exact ⟨SLe.int rfl (by omega), rfl⟩ | exact ⟨SLe.bool rfl (by simp_all), rfl⟩ | exact ⟨SLe.sl rfl (by simp_all), rfl⟩), (by first | exact ⟨SLe.eq rfl, rfl⟩ | exact rfl | exact ⟨SLe.nil rfl, rfl⟩ | exact ⟨SLe.int rfl (by omega), rfl⟩ | exact ⟨SLe.bool rfl (by simp_all), rfl⟩ | exact ⟨SLe.sl rfl (by simp_all), rfl⟩), (by first | exact ⟨SLe.eq rfl, rfl⟩ | exact rfl | exact ⟨SLe.nil rfl, rfl⟩ | exact ⟨SLe.int rfl (by omega), rfl⟩ | exact ⟨SLe.bool rfl (by simp_all), rfl⟩ | exact ⟨SLe.sl rfl (by simp_all), rfl⟩), (by first | exact ⟨SLe.eq rfl, rfl⟩ | exact rfl | exact ⟨SLe.nil rfl, rfl⟩ | exact ⟨SLe.int rfl (by omega), rfl⟩ | exact ⟨SLe.bool rfl (by simp_all), rfl⟩ | exact ⟨SLe.sl rfl (by simp_all), rfl⟩), (by first | exact ⟨SLe.eq rfl, rfl⟩ | exact rfl | exact ⟨SLe.nil rfl, rfl⟩ | exact ⟨SLe.int rfl (by omega), rfl⟩ | exact ⟨SLe.bool rfl (by simp_all), rfl⟩ | exact ⟨SLe.sl rfl (by simp_all), rfl⟩), (by first | exact ⟨SLe.eq rfl, rfl⟩ | exact rfl | exact ⟨SLe.nil rfl, rfl⟩ | exact ⟨SLe.int rfl (by omega), rfl⟩ | exact ⟨SLe.bool rfl (by simp_all), rfl⟩ | exact ⟨SLe.sl rfl (by simp_all), rfl⟩), trivial⟩⟩, trivial⟩ ⟨⟨_, rfl, rfl⟩, trivial⟩ rfl rfl rfl rfl rfl
                · skip
                  have h74 := hb
                  refine AC.skip ?_
                  refine thenQ_normal ?_
                  refine AC.seq ?_
                  refine AC.seq ?_
                  refine AC.region ?_
                  first | refine AO.pure (PureOp.moveD (SLe.eq rfl)) rfl rfl ?_ | refine AO.pure (PureOp.moveB (SLe.eq rfl)) rfl rfl ?_ | refine AO.pure (PureOp.moveT (SLe.eq rfl)) rfl rfl ?_ | refine AO.pure (PureOp.moveO (SLe.eq rfl)) rfl rfl ?_ | refine AO.pure (PureOp.moveP (SLe.eq rfl)) rfl rfl ?_ | refine AO.pure (PureOp.moveA (SLe.eq rfl)) rfl rfl ?_
                  refine AO.nil ?_
                  refine thenQ_normal ?_
                  refine AC.cond (SLe.eq rfl) (fun hb => ?_) (fun hb => ?_)
                  · skip
                    have h80 := hb
                    refine AC.region ?_
                    first | refine AO.pure (PureOp.build (z := .agg #[.int .i64 0, .int .i64 0, .int .i64 0]) (pl := [(0, 1), (1, 2)]) (by kernel_rfl) rfl (by kernel_rfl) (.cons (SLe.eq rfl) rfl .nil) rfl rfl) rfl rfl ?_ | refine AO.pure (PureOp.buildS (z := .agg #[.int .i64 0, .int .i64 0, .int .i64 0]) (pl := [(0, 1), (1, 2)]) (by kernel_rfl) rfl (by kernel_rfl) (.cons (SLe.eq rfl) rfl .nil) rfl) rfl rfl ?_
                    refine AO.store (SLe.eq rfl) (SLe.eq rfl) rfl rfl rfl rfl rfl (by kernel_rfl) rfl rfl ?_
                    refine AO.nil ?_
                    refine thenQ_normal ?_
                    refine AC.seq ?_
                    -- DRAWN region 24
                    refine AC.drawN 6 [] (by kernel_rfl) (by kernel_rfl) (by kernel_rfl) .nil (by kernel_rfl) ?_
                    first | refine PSeqN.pure (PureOp.moveD (SLe.eq rfl)) rfl rfl ?_ | refine PSeqN.pure (PureOp.moveB (SLe.eq rfl)) rfl rfl ?_ | refine PSeqN.pure (PureOp.moveT (SLe.eq rfl)) rfl rfl ?_ | refine PSeqN.pure (PureOp.moveO (SLe.eq rfl)) rfl rfl ?_ | refine PSeqN.pure (PureOp.moveP (SLe.eq rfl)) rfl rfl ?_ | refine PSeqN.pure (PureOp.moveA (SLe.eq rfl)) rfl rfl ?_
                    first | refine PSeqN.pure (PureOp.moveD (SLe.eq rfl)) rfl rfl ?_ | refine PSeqN.pure (PureOp.moveB (SLe.eq rfl)) rfl rfl ?_ | refine PSeqN.pure (PureOp.moveT (SLe.eq rfl)) rfl rfl ?_ | refine PSeqN.pure (PureOp.moveO (SLe.eq rfl)) rfl rfl ?_ | refine PSeqN.pure (PureOp.moveP (SLe.eq rfl)) rfl rfl ?_ | refine PSeqN.pure (PureOp.moveA (SLe.eq rfl)) rfl rfl ?_
                    first | refine PSeqN.pure (PureOp.moveD (SLe.eq rfl)) rfl rfl ?_ | refine PSeqN.pure (PureOp.moveB (SLe.eq rfl)) rfl rfl ?_ | refine PSeqN.pure (PureOp.moveT (SLe.eq rfl)) rfl rfl ?_ | refine PSeqN.pure (PureOp.moveO (SLe.eq rfl)) rfl rfl ?_ | refine PSeqN.pure (PureOp.moveP (SLe.eq rfl)) rfl rfl ?_ | refine PSeqN.pure (PureOp.moveA (SLe.eq rfl)) rfl rfl ?_
                    refine PSeqN.pure (PureOp.pcall (.cons (SLe.eq rfl) (by first | exact .d _ | exact View.osr rfl rfl | exact .bx rfl rfl | exact .agg (by repeat (first | exact .nil | refine .cons (by first | exact .d _ | exact View.osr rfl rfl) ?_)) | exact .fn (by repeat (first | exact .nil | refine .cons (by first | exact .d _ | exact View.osr rfl rfl | exact .bx rfl rfl) ?_))) (.cons (SLe.eq rfl) (by first | exact .d _ | exact View.osr rfl rfl | exact .bx rfl rfl | exact .agg (by repeat (first | exact .nil | refine .cons (by first | exact .d _ | exact View.osr rfl rfl) ?_)) | exact .fn (by repeat (first | exact .nil | refine .cons (by first | exact .d _ | exact View.osr rfl rfl | exact .bx rfl rfl) ?_))) (.cons (SLe.eq rfl) (by first | exact .d _ | exact View.osr rfl rfl | exact .bx rfl rfl | exact .agg (by repeat (first | exact .nil | refine .cons (by first | exact .d _ | exact View.osr rfl rfl) ?_)) | exact .fn (by repeat (first | exact .nil | refine .cons (by first | exact .d _ | exact View.osr rfl rfl | exact .bx rfl rfl) ?_))) .nil))) (line_any ((⟨100, xf, 50, xk, xl, ma, mb⟩ : Rep) :: l) f line hb2) (by kernel_rfl)) rfl rfl ?_
                    first | refine PSeqN.pure (PureOp.loadBN (sz := 3) (SLe.eq rfl) rfl rfl rfl rfl (by kernel_rfl)) rfl rfl ?_ | refine PSeqN.pure (PureOp.loadN (sz := 3) (SLe.eq rfl) rfl rfl (by kernel_rfl)) rfl rfl ?_ | refine PSeqN.pure (PureOp.loadON (sz := 3) (i := _) (SLe.eq rfl) rfl rfl (by assumption) rfl (by kernel_rfl)) rfl rfl ?_ | refine PSeqN.pure (PureOp.loadBS (sz := 3) (SLe.eq rfl) rfl rfl rfl (by kernel_rfl)) rfl rfl ?_
                    refine PSeqN.pure (PureOp.neqA (ks := [false, false, false]) (by kernel_rfl) (SLe.eq rfl) (SLe.eq rfl) rfl) rfl rfl ?_
                    refine PSeqN.nil ?_
                    refine AO.nil ?_
                    refine thenQ_normal ?_
                    refine AC.cond (SLe.eq rfl) (fun hb => ?_) (fun hb => ?_)
                    · skip
                      rw [hlate f line, h80, h74] at hb
                      simp at hb
                    · skip
                      refine AC.skip ?_
                      refine blockQ_normal ?_
                      refine thenQ_normal ?_
                      refine AC.region ?_
                      first | refine AO.pure (PureOp.moveD (SLe.eq rfl)) rfl rfl ?_ | refine AO.pure (PureOp.moveB (SLe.eq rfl)) rfl rfl ?_ | refine AO.pure (PureOp.moveT (SLe.eq rfl)) rfl rfl ?_ | refine AO.pure (PureOp.moveO (SLe.eq rfl)) rfl rfl ?_ | refine AO.pure (PureOp.moveP (SLe.eq rfl)) rfl rfl ?_ | refine AO.pure (PureOp.moveA (SLe.eq rfl)) rfl rfl ?_
                      refine AO.pure (PureOp.add (SLe.eq rfl) (SLe.eq rfl) (by omega) (by omega)) rfl rfl ?_
                      first | refine AO.pure (PureOp.assignD (SLe.eq rfl)) rfl rfl ?_ | refine AO.pure (PureOp.assignB (SLe.eq rfl)) rfl rfl ?_ | refine AO.pure (PureOp.assignT (SLe.eq rfl)) rfl rfl ?_ | refine AO.pure (PureOp.assignO (SLe.eq rfl)) rfl rfl ?_ | refine AO.pure (PureOp.assignP (SLe.eq rfl)) rfl rfl ?_ | refine AO.pure (PureOp.assignA (SLe.eq rfl)) rfl rfl ?_
                      refine AO.nil ?_
                      refine thenQ_normal ?_
                      refine ⟨line + 1, (by omega), (by omega), ?_⟩
                      refine Le.mk [(0, 0)] ⟨(by first | exact ⟨SLe.eq rfl, rfl⟩ | exact rfl | exact ⟨SLe.nil rfl, rfl⟩ | exact ⟨SLe.int rfl (by omega), rfl⟩ | exact ⟨SLe.bool rfl (by simp_all), rfl⟩ | exact ⟨SLe.sl rfl (by simp_all), rfl⟩), (by first | exact ⟨SLe.eq rfl, rfl⟩ | exact rfl | exact ⟨SLe.nil rfl, rfl⟩ | exact ⟨SLe.int rfl (by omega), rfl⟩ | exact ⟨SLe.bool rfl (by simp_all), rfl⟩ | exact ⟨SLe.sl rfl (by simp_all), rfl⟩), (by first | exact ⟨SLe.eq rfl, rfl⟩ | exact rfl | exact ⟨SLe.nil rfl, rfl⟩ | exact ⟨SLe.int rfl (by omega), rfl⟩ | exact ⟨SLe.bool rfl (by simp_all), rfl⟩ | exact ⟨SLe.sl rfl (by simp_all), rfl⟩), (by first | exact ⟨SLe.eq rfl, rfl⟩ | exact rfl | exact ⟨SLe.nil rfl, rfl⟩ | exact ⟨SLe.int rfl (by omega), rfl⟩ | exact ⟨SLe.bool rfl (by simp_all), rfl⟩ | exact ⟨SLe.sl rfl (by simp_all), rfl⟩), (by first | exact ⟨SLe.eq rfl, rfl⟩ | exact rfl | exact ⟨SLe.nil rfl, rfl⟩ | exact ⟨SLe.int rfl (by omega), rfl⟩ | exact ⟨SLe.bool rfl (by simp_all), rfl⟩ | exact ⟨SLe.sl rfl (by simp_all), rfl⟩), (by first | exact ⟨SLe.eq rfl, rfl⟩ | exact rfl | exact ⟨SLe.nil rfl, rfl⟩ | exact ⟨SLe.int rfl (by omega), rfl⟩ | exact ⟨SLe.bool rfl (by simp_all), rfl⟩ | exact ⟨SLe.sl rfl (by simp_all), rfl⟩), trivial⟩ ⟨⟨_, rfl, ⟨(by first | exact ⟨SLe.eq rfl, rfl⟩ | exact rfl | exact ⟨SLe.nil rfl, rfl⟩ | exact ⟨SLe.int rfl (by omega), rfl⟩ | exact ⟨SLe.bool rfl (by simp_all), rfl⟩ | exact ⟨SLe.sl rfl (by simp_all), rfl⟩), (by first | exact ⟨SLe.eq rfl, rfl⟩ | exact rfl | exact ⟨SLe.nil rfl, rfl⟩ | exact ⟨SLe.int rfl (by omega), rfl⟩ | exact ⟨SLe.bool rfl (by simp_all), rfl⟩ | exact ⟨SLe.sl rfl (by simp_all), rfl⟩), (by first | exact ⟨SLe.eq rfl, rfl⟩ | exact rfl | exact ⟨SLe.nil rfl, rfl⟩ | exact ⟨SLe.int rfl (by omega), rfl⟩ | exact ⟨SLe.bool rfl (by simp_all), rfl⟩ | exact ⟨SLe.sl rfl (by simp_all), rfl⟩), (by first | exact ⟨SLe.eq rfl, rfl⟩ | exact rfl | exact ⟨SLe.nil rfl, rfl⟩ | exact ⟨SLe.int rfl (by omega), rfl⟩ | exact ⟨SLe.bool rfl (by simp_all), rfl⟩ | exact ⟨SLe.sl rfl (by simp_all), rfl⟩), (by first | exact ⟨SLe.eq rfl, rfl⟩ | exact rfl | exact ⟨SLe.nil rfl, rfl⟩ | exact ⟨SLe.int rfl (by omega), rfl⟩ | exact ⟨SLe.bool rfl (by simp_all), rfl⟩ | exact ⟨SLe.sl rfl (by simp_all), rfl⟩), (by first | exact ⟨SLe.eq rfl, rfl⟩ | exact rfl | exact ⟨SLe.nil rfl, rfl⟩ | exact ⟨SLe.int rfl (by omega), rfl⟩ | exact ⟨SLe.bool rfl (by simp_all), rfl⟩ | exact ⟨SLe.sl rfl (by simp_all), rfl⟩), (by first | exact ⟨SLe.eq rfl, rfl⟩ | exact rfl | exact ⟨SLe.nil rfl, rfl⟩ | exact ⟨SLe.int rfl (by omega), rfl⟩ | exact ⟨SLe.bool rfl (by simp_all), rfl⟩ | exact ⟨SLe.sl rfl (by simp_all), rfl⟩), trivial⟩⟩, trivial⟩ ⟨⟨_, rfl, rfl⟩, trivial⟩ rfl rfl rfl rfl rfl
                  · skip
                    have h80 := hb
                    refine AC.skip ?_
                    refine thenQ_normal ?_
                    refine AC.seq ?_
                    -- DRAWN region 24
                    refine AC.drawN 6 [] (by kernel_rfl) (by kernel_rfl) (by kernel_rfl) .nil (by kernel_rfl) ?_
                    first | refine PSeqN.pure (PureOp.moveD (SLe.eq rfl)) rfl rfl ?_ | refine PSeqN.pure (PureOp.moveB (SLe.eq rfl)) rfl rfl ?_ | refine PSeqN.pure (PureOp.moveT (SLe.eq rfl)) rfl rfl ?_ | refine PSeqN.pure (PureOp.moveO (SLe.eq rfl)) rfl rfl ?_ | refine PSeqN.pure (PureOp.moveP (SLe.eq rfl)) rfl rfl ?_ | refine PSeqN.pure (PureOp.moveA (SLe.eq rfl)) rfl rfl ?_
                    first | refine PSeqN.pure (PureOp.moveD (SLe.eq rfl)) rfl rfl ?_ | refine PSeqN.pure (PureOp.moveB (SLe.eq rfl)) rfl rfl ?_ | refine PSeqN.pure (PureOp.moveT (SLe.eq rfl)) rfl rfl ?_ | refine PSeqN.pure (PureOp.moveO (SLe.eq rfl)) rfl rfl ?_ | refine PSeqN.pure (PureOp.moveP (SLe.eq rfl)) rfl rfl ?_ | refine PSeqN.pure (PureOp.moveA (SLe.eq rfl)) rfl rfl ?_
                    first | refine PSeqN.pure (PureOp.moveD (SLe.eq rfl)) rfl rfl ?_ | refine PSeqN.pure (PureOp.moveB (SLe.eq rfl)) rfl rfl ?_ | refine PSeqN.pure (PureOp.moveT (SLe.eq rfl)) rfl rfl ?_ | refine PSeqN.pure (PureOp.moveO (SLe.eq rfl)) rfl rfl ?_ | refine PSeqN.pure (PureOp.moveP (SLe.eq rfl)) rfl rfl ?_ | refine PSeqN.pure (PureOp.moveA (SLe.eq rfl)) rfl rfl ?_
                    refine PSeqN.pure (PureOp.pcall (.cons (SLe.eq rfl) (by first | exact .d _ | exact View.osr rfl rfl | exact .bx rfl rfl | exact .agg (by repeat (first | exact .nil | refine .cons (by first | exact .d _ | exact View.osr rfl rfl) ?_)) | exact .fn (by repeat (first | exact .nil | refine .cons (by first | exact .d _ | exact View.osr rfl rfl | exact .bx rfl rfl) ?_))) (.cons (SLe.eq rfl) (by first | exact .d _ | exact View.osr rfl rfl | exact .bx rfl rfl | exact .agg (by repeat (first | exact .nil | refine .cons (by first | exact .d _ | exact View.osr rfl rfl) ?_)) | exact .fn (by repeat (first | exact .nil | refine .cons (by first | exact .d _ | exact View.osr rfl rfl | exact .bx rfl rfl) ?_))) (.cons (SLe.eq rfl) (by first | exact .d _ | exact View.osr rfl rfl | exact .bx rfl rfl | exact .agg (by repeat (first | exact .nil | refine .cons (by first | exact .d _ | exact View.osr rfl rfl) ?_)) | exact .fn (by repeat (first | exact .nil | refine .cons (by first | exact .d _ | exact View.osr rfl rfl | exact .bx rfl rfl) ?_))) .nil))) (line_any ((⟨100, xf, 50, xk, xl, ma, mb⟩ : Rep) :: l) f line hb2) (by kernel_rfl)) rfl rfl ?_
                    first | refine PSeqN.pure (PureOp.loadBN (sz := 3) (SLe.eq rfl) rfl rfl rfl rfl (by kernel_rfl)) rfl rfl ?_ | refine PSeqN.pure (PureOp.loadN (sz := 3) (SLe.eq rfl) rfl rfl (by kernel_rfl)) rfl rfl ?_ | refine PSeqN.pure (PureOp.loadON (sz := 3) (i := _) (SLe.eq rfl) rfl rfl (by assumption) rfl (by kernel_rfl)) rfl rfl ?_ | refine PSeqN.pure (PureOp.loadBS (sz := 3) (SLe.eq rfl) rfl rfl rfl (by kernel_rfl)) rfl rfl ?_
                    refine PSeqN.pure (PureOp.neqA (ks := [false, false, false]) (by kernel_rfl) (SLe.eq rfl) (SLe.eq rfl) rfl) rfl rfl ?_
                    refine PSeqN.nil ?_
                    refine AO.nil ?_
                    refine thenQ_normal ?_
                    refine AC.cond (SLe.eq rfl) (fun hb => ?_) (fun hb => ?_)
                    · skip
                      rw [hlate f line, h80, h74] at hb
                      simp at hb
                    · skip
                      refine AC.skip ?_
                      refine blockQ_normal ?_
                      refine thenQ_normal ?_
                      refine AC.region ?_
                      first | refine AO.pure (PureOp.moveD (SLe.eq rfl)) rfl rfl ?_ | refine AO.pure (PureOp.moveB (SLe.eq rfl)) rfl rfl ?_ | refine AO.pure (PureOp.moveT (SLe.eq rfl)) rfl rfl ?_ | refine AO.pure (PureOp.moveO (SLe.eq rfl)) rfl rfl ?_ | refine AO.pure (PureOp.moveP (SLe.eq rfl)) rfl rfl ?_ | refine AO.pure (PureOp.moveA (SLe.eq rfl)) rfl rfl ?_
                      refine AO.pure (PureOp.add (SLe.eq rfl) (SLe.eq rfl) (by omega) (by omega)) rfl rfl ?_
                      first | refine AO.pure (PureOp.assignD (SLe.eq rfl)) rfl rfl ?_ | refine AO.pure (PureOp.assignB (SLe.eq rfl)) rfl rfl ?_ | refine AO.pure (PureOp.assignT (SLe.eq rfl)) rfl rfl ?_ | refine AO.pure (PureOp.assignO (SLe.eq rfl)) rfl rfl ?_ | refine AO.pure (PureOp.assignP (SLe.eq rfl)) rfl rfl ?_ | refine AO.pure (PureOp.assignA (SLe.eq rfl)) rfl rfl ?_
                      refine AO.nil ?_
                      refine thenQ_normal ?_
                      refine ⟨line + 1, (by omega), (by omega), ?_⟩
                      refine Le.mk [(0, 0)] ⟨(by first | exact ⟨SLe.eq rfl, rfl⟩ | exact rfl | exact ⟨SLe.nil rfl, rfl⟩ | exact ⟨SLe.int rfl (by omega), rfl⟩ | exact ⟨SLe.bool rfl (by simp_all), rfl⟩ | exact ⟨SLe.sl rfl (by simp_all), rfl⟩), (by first | exact ⟨SLe.eq rfl, rfl⟩ | exact rfl | exact ⟨SLe.nil rfl, rfl⟩ | exact ⟨SLe.int rfl (by omega), rfl⟩ | exact ⟨SLe.bool rfl (by simp_all), rfl⟩ | exact ⟨SLe.sl rfl (by simp_all), rfl⟩), (by first | exact ⟨SLe.eq rfl, rfl⟩ | exact rfl | exact ⟨SLe.nil rfl, rfl⟩ | exact ⟨SLe.int rfl (by omega), rfl⟩ | exact ⟨SLe.bool rfl (by simp_all), rfl⟩ | exact ⟨SLe.sl rfl (by simp_all), rfl⟩), (by first | exact ⟨SLe.eq rfl, rfl⟩ | exact rfl | exact ⟨SLe.nil rfl, rfl⟩ | exact ⟨SLe.int rfl (by omega), rfl⟩ | exact ⟨SLe.bool rfl (by simp_all), rfl⟩ | exact ⟨SLe.sl rfl (by simp_all), rfl⟩), (by first | exact ⟨SLe.eq rfl, rfl⟩ | exact rfl | exact ⟨SLe.nil rfl, rfl⟩ | exact ⟨SLe.int rfl (by omega), rfl⟩ | exact ⟨SLe.bool rfl (by simp_all), rfl⟩ | exact ⟨SLe.sl rfl (by simp_all), rfl⟩), (by first | exact ⟨SLe.eq rfl, rfl⟩ | exact rfl | exact ⟨SLe.nil rfl, rfl⟩ | exact ⟨SLe.int rfl (by omega), rfl⟩ | exact ⟨SLe.bool rfl (by simp_all), rfl⟩ | exact ⟨SLe.sl rfl (by simp_all), rfl⟩), trivial⟩ ⟨⟨_, rfl, ⟨(by first | exact ⟨SLe.eq rfl, rfl⟩ | exact rfl | exact ⟨SLe.nil rfl, rfl⟩ | exact ⟨SLe.int rfl (by omega), rfl⟩ | exact ⟨SLe.bool rfl (by simp_all), rfl⟩ | exact ⟨SLe.sl rfl (by simp_all), rfl⟩), (by first | exact ⟨SLe.eq rfl, rfl⟩ | exact rfl | exact ⟨SLe.nil rfl, rfl⟩ | exact ⟨SLe.int rfl (by omega), rfl⟩ | exact ⟨SLe.bool rfl (by simp_all), rfl⟩ | exact ⟨SLe.sl rfl (by simp_all), rfl⟩), (by first | exact ⟨SLe.eq rfl, rfl⟩ | exact rfl | exact ⟨SLe.nil rfl, rfl⟩ | exact ⟨SLe.int rfl (by omega), rfl⟩ | exact ⟨SLe.bool rfl (by simp_all), rfl⟩ | exact ⟨SLe.sl rfl (by simp_all), rfl⟩), (by first | exact ⟨SLe.eq rfl, rfl⟩ | exact rfl | exact ⟨SLe.nil rfl, rfl⟩ | exact ⟨SLe.int rfl (by omega), rfl⟩ | exact ⟨SLe.bool rfl (by simp_all), rfl⟩ | exact ⟨SLe.sl rfl (by simp_all), rfl⟩), (by first | exact ⟨SLe.eq rfl, rfl⟩ | exact rfl | exact ⟨SLe.nil rfl, rfl⟩ | exact ⟨SLe.int rfl (by omega), rfl⟩ | exact ⟨SLe.bool rfl (by simp_all), rfl⟩ | exact ⟨SLe.sl rfl (by simp_all), rfl⟩), (by first | exact ⟨SLe.eq rfl, rfl⟩ | exact rfl | exact ⟨SLe.nil rfl, rfl⟩ | exact ⟨SLe.int rfl (by omega), rfl⟩ | exact ⟨SLe.bool rfl (by simp_all), rfl⟩ | exact ⟨SLe.sl rfl (by simp_all), rfl⟩), (by first | exact ⟨SLe.eq rfl, rfl⟩ | exact rfl | exact ⟨SLe.nil rfl, rfl⟩ | exact ⟨SLe.int rfl (by omega), rfl⟩ | exact ⟨SLe.bool rfl (by simp_all), rfl⟩ | exact ⟨SLe.sl rfl (by simp_all), rfl⟩), trivial⟩⟩, trivial⟩ ⟨⟨_, rfl, rfl⟩, trivial⟩ rfl rfl rfl rfl rfl
              · skip
                refine AC.exit ?_
                refine thenQ_exit ?_
                refine thenQ_exit ?_
                refine blockQ_hit ?_
                refine blockQ_normal ?_
                refine thenQ_normal ?_
                refine AC.region ?_
                first | refine AO.pure (PureOp.moveD (SLe.eq rfl)) rfl rfl ?_ | refine AO.pure (PureOp.moveB (SLe.eq rfl)) rfl rfl ?_ | refine AO.pure (PureOp.moveT (SLe.eq rfl)) rfl rfl ?_ | refine AO.pure (PureOp.moveO (SLe.eq rfl)) rfl rfl ?_ | refine AO.pure (PureOp.moveP (SLe.eq rfl)) rfl rfl ?_ | refine AO.pure (PureOp.moveA (SLe.eq rfl)) rfl rfl ?_
                refine AO.pure (PureOp.add (SLe.eq rfl) (SLe.eq rfl) (by omega) (by omega)) rfl rfl ?_
                first | refine AO.pure (PureOp.assignD (SLe.eq rfl)) rfl rfl ?_ | refine AO.pure (PureOp.assignB (SLe.eq rfl)) rfl rfl ?_ | refine AO.pure (PureOp.assignT (SLe.eq rfl)) rfl rfl ?_ | refine AO.pure (PureOp.assignO (SLe.eq rfl)) rfl rfl ?_ | refine AO.pure (PureOp.assignP (SLe.eq rfl)) rfl rfl ?_ | refine AO.pure (PureOp.assignA (SLe.eq rfl)) rfl rfl ?_
                refine AO.nil ?_
                refine thenQ_normal ?_
                refine ⟨f + 1, ⟨by omega, by omega⟩, (by omega), ?_⟩
                refine Le.mk [(0, 0)] ⟨(by first | exact ⟨SLe.eq rfl, rfl⟩ | exact rfl | exact ⟨SLe.nil rfl, rfl⟩ | exact ⟨SLe.int rfl (by omega), rfl⟩ | exact ⟨SLe.bool rfl (by simp_all), rfl⟩ | exact ⟨SLe.sl rfl (by simp_all), rfl⟩), (by first | exact ⟨SLe.eq rfl, rfl⟩ | exact rfl | exact ⟨SLe.nil rfl, rfl⟩ | exact ⟨SLe.int rfl (by omega), rfl⟩ | exact ⟨SLe.bool rfl (by simp_all), rfl⟩ | exact ⟨SLe.sl rfl (by simp_all), rfl⟩), (by first | exact ⟨SLe.eq rfl, rfl⟩ | exact rfl | exact ⟨SLe.nil rfl, rfl⟩ | exact ⟨SLe.int rfl (by omega), rfl⟩ | exact ⟨SLe.bool rfl (by simp_all), rfl⟩ | exact ⟨SLe.sl rfl (by simp_all), rfl⟩), (by first | exact ⟨SLe.eq rfl, rfl⟩ | exact rfl | exact ⟨SLe.nil rfl, rfl⟩ | exact ⟨SLe.int rfl (by omega), rfl⟩ | exact ⟨SLe.bool rfl (by simp_all), rfl⟩ | exact ⟨SLe.sl rfl (by simp_all), rfl⟩), trivial⟩ ⟨⟨_, rfl, ⟨(by first | exact ⟨SLe.eq rfl, rfl⟩ | exact rfl | exact ⟨SLe.nil rfl, rfl⟩ | exact ⟨SLe.int rfl (by omega), rfl⟩ | exact ⟨SLe.bool rfl (by simp_all), rfl⟩ | exact ⟨SLe.sl rfl (by simp_all), rfl⟩), (by first | exact ⟨SLe.eq rfl, rfl⟩ | exact rfl | exact ⟨SLe.nil rfl, rfl⟩ | exact ⟨SLe.int rfl (by omega), rfl⟩ | exact ⟨SLe.bool rfl (by simp_all), rfl⟩ | exact ⟨SLe.sl rfl (by simp_all), rfl⟩), (by first | exact ⟨SLe.eq rfl, rfl⟩ | exact rfl | exact ⟨SLe.nil rfl, rfl⟩ | exact ⟨SLe.int rfl (by omega), rfl⟩ | exact ⟨SLe.bool rfl (by simp_all), rfl⟩ | exact ⟨SLe.sl rfl (by simp_all), rfl⟩), (by first | exact ⟨SLe.eq rfl, rfl⟩ | exact rfl | exact ⟨SLe.nil rfl, rfl⟩ | exact ⟨SLe.int rfl (by omega), rfl⟩ | exact ⟨SLe.bool rfl (by simp_all), rfl⟩ | exact ⟨SLe.sl rfl (by simp_all), rfl⟩), (by first | exact ⟨SLe.eq rfl, rfl⟩ | exact rfl | exact ⟨SLe.nil rfl, rfl⟩ | exact ⟨SLe.int rfl (by omega), rfl⟩ | exact ⟨SLe.bool rfl (by simp_all), rfl⟩ | exact ⟨SLe.sl rfl (by simp_all), rfl⟩), (by first | exact ⟨SLe.eq rfl, rfl⟩ | exact rfl | exact ⟨SLe.nil rfl, rfl⟩ | exact ⟨SLe.int rfl (by omega), rfl⟩ | exact ⟨SLe.bool rfl (by simp_all), rfl⟩ | exact ⟨SLe.sl rfl (by simp_all), rfl⟩), (by first | exact ⟨SLe.eq rfl, rfl⟩ | exact rfl | exact ⟨SLe.nil rfl, rfl⟩ | exact ⟨SLe.int rfl (by omega), rfl⟩ | exact ⟨SLe.bool rfl (by simp_all), rfl⟩ | exact ⟨SLe.sl rfl (by simp_all), rfl⟩), trivial⟩⟩, trivial⟩ ⟨⟨_, rfl, rfl⟩, trivial⟩ rfl rfl rfl rfl rfl
      · skip
        refine AC.exit ?_
        refine thenQ_exit ?_
        refine thenQ_exit ?_
        refine blockQ_hit ?_
        refine thenQ_normal ?_
        refine AC.seq ?_
        refine AC.region ?_
        first | refine AO.pure (PureOp.moveD (SLe.eq rfl)) rfl rfl ?_ | refine AO.pure (PureOp.moveB (SLe.eq rfl)) rfl rfl ?_ | refine AO.pure (PureOp.moveT (SLe.eq rfl)) rfl rfl ?_ | refine AO.pure (PureOp.moveO (SLe.eq rfl)) rfl rfl ?_ | refine AO.pure (PureOp.moveP (SLe.eq rfl)) rfl rfl ?_ | refine AO.pure (PureOp.moveA (SLe.eq rfl)) rfl rfl ?_
        first | refine AO.pure (PureOp.fldB (k := 1) (SLe.eq rfl) (by kernel_rfl)) rfl rfl ?_ | refine AO.pure (PureOp.fld (k := 1) (SLe.eq rfl) (by kernel_rfl)) rfl rfl ?_ | refine AO.pure (PureOp.fldO (k := 1) (SLe.eq rfl) (by kernel_rfl)) rfl rfl ?_
        first | refine AO.pure (PureOp.loadB1 (SLe.eq rfl) rfl rfl (by kernel_rfl)) rfl rfl ?_ | refine AO.pure (PureOp.load1 (SLe.eq rfl) rfl (by kernel_rfl)) rfl rfl ?_ | refine AO.pure (PureOp.loadO1 (i := _) (j := _) (SLe.eq rfl) rfl rfl (by assumption) rfl (by kernel_rfl)) rfl rfl ?_
        refine AO.pure (PureOp.pcall (.cons (SLe.eq rfl) (by first | exact .d _ | exact View.osr rfl rfl | exact .bx rfl rfl | exact .agg (by repeat (first | exact .nil | refine .cons (by first | exact .d _ | exact View.osr rfl rfl) ?_)) | exact .fn (by repeat (first | exact .nil | refine .cons (by first | exact .d _ | exact View.osr rfl rfl | exact .bx rfl rfl) ?_))) (.cons (SLe.eq rfl) (by first | exact .d _ | exact View.osr rfl rfl | exact .bx rfl rfl | exact .agg (by repeat (first | exact .nil | refine .cons (by first | exact .d _ | exact View.osr rfl rfl) ?_)) | exact .fn (by repeat (first | exact .nil | refine .cons (by first | exact .d _ | exact View.osr rfl rfl | exact .bx rfl rfl) ?_))) .nil)) (last_any ((⟨100, xf, 50, xk, xl, ma, mb⟩ : Rep) :: l) xf hb2) (by kernel_rfl)) rfl rfl ?_
        refine AO.pure (PureOp.eql (SLe.eq rfl) (SLe.eq rfl)) rfl rfl ?_
        first | refine AO.pure (PureOp.moveD (SLe.eq rfl)) rfl rfl ?_ | refine AO.pure (PureOp.moveB (SLe.eq rfl)) rfl rfl ?_ | refine AO.pure (PureOp.moveT (SLe.eq rfl)) rfl rfl ?_ | refine AO.pure (PureOp.moveO (SLe.eq rfl)) rfl rfl ?_ | refine AO.pure (PureOp.moveP (SLe.eq rfl)) rfl rfl ?_ | refine AO.pure (PureOp.moveA (SLe.eq rfl)) rfl rfl ?_
        refine AO.guarded rfl rfl (fun hG => PureOp.pcall .nil (awake_any) (by kernel_rfl)) rfl rfl ?_
        refine AO.pure (PureOp.pickAnd (SLe.eq rfl) rfl rfl (by intro h; first | (simp_all; done) | (simp_all; exact Decidable.imp_iff_not_or.1 (by assumption)))) rfl rfl ?_
        first | refine AO.pure (PureOp.assignD (SLe.eq rfl)) rfl rfl ?_ | refine AO.pure (PureOp.assignB (SLe.eq rfl)) rfl rfl ?_ | refine AO.pure (PureOp.assignT (SLe.eq rfl)) rfl rfl ?_ | refine AO.pure (PureOp.assignO (SLe.eq rfl)) rfl rfl ?_ | refine AO.pure (PureOp.assignP (SLe.eq rfl)) rfl rfl ?_ | refine AO.pure (PureOp.assignA (SLe.eq rfl)) rfl rfl ?_
        refine AO.nil ?_
        refine thenQ_normal ?_
        refine AC.ret ?_
        refine ⟨rfl, _, ?_, ResOf.one (by first | exact GetR.flat (SLe.eq rfl) rfl | exact GetR.nil (SLe.eq rfl) | exact GetR.ownR (SLe.eq rfl) rfl rfl (by simp [flatRows, D.flat]) | exact GetR.any (SLe.eq rfl) | exact GetR.ownA (SLe.eq rfl) rfl rfl)⟩
        refine congrArg bD ?_
        simp [hlast]
  · skip
    have hk1 := of_decide_eq_false hb
    obtain ⟨ma, mb, hma, hmb⟩ : ∃ ma mb : Int, ma = 0 ∧ mb = 0 := ⟨0, 0, rfl, rfl⟩
    have hAB : (xk ≠ 1 → ma = 0 ∧ mb = 0) ∧ (xk = 1 → 0 ≤ ma ∧ ma ≤ 36 ∧ 0 ≤ mb ∧ mb ≤ 40) := ⟨fun _ => ⟨hma, hmb⟩, fun h => absurd h hk1⟩
    refine AC.skip ?_
    refine thenQ_normal ?_
    refine AC.seq ?_
    have hlat : LatOK (⟨100, xf, 50, xk, xl, ma, mb⟩ : Rep) := ⟨rfl, rfl, (by show xk ≠ 4; omega), (by unfold rightB; simp only [decide_eq_true_eq]; omega)⟩
    have hb2 : ((⟨100, xf, 50, xk, xl, ma, mb⟩ : Rep) :: l).length ≤ 4611686018427387903 := by simp only [List.length_cons]; omega
    have hlate := fun f line : Int => later_line hok hlat c1 f line
    have hlast := later_last hok hlat
    refine AC.region ?_
    first | refine AO.pure (PureOp.loadBN (sz := 7) (SLe.eq rfl) rfl rfl rfl rfl (by kernel_rfl)) rfl rfl ?_ | refine AO.pure (PureOp.loadN (sz := 7) (SLe.eq rfl) rfl rfl (by kernel_rfl)) rfl rfl ?_ | refine AO.pure (PureOp.loadON (sz := 7) (i := _) (SLe.eq rfl) rfl rfl (by assumption) rfl (by kernel_rfl)) rfl rfl ?_ | refine AO.pure (PureOp.loadBS (sz := 7) (SLe.eq rfl) rfl rfl rfl (by kernel_rfl)) rfl rfl ?_
    refine AO.buildOwn (e := 32) (sz := 7) (z := .agg #[.int .i64 0, .int .i64 0, .int .i64 0, .int .i64 0, .int .i64 0, .int .i64 0, .int .i64 0]) (by kernel_rfl) (by kernel_rfl) rfl rfl rfl (.cons (SLe.eq rfl) rfl .nil) rfl rfl rfl rfl rfl rfl ?_
    first | refine AO.pure (PureOp.moveD (SLe.eq rfl)) rfl rfl ?_ | refine AO.pure (PureOp.moveB (SLe.eq rfl)) rfl rfl ?_ | refine AO.pure (PureOp.moveT (SLe.eq rfl)) rfl rfl ?_ | refine AO.pure (PureOp.moveO (SLe.eq rfl)) rfl rfl ?_ | refine AO.pure (PureOp.moveP (SLe.eq rfl)) rfl rfl ?_ | refine AO.pure (PureOp.moveA (SLe.eq rfl)) rfl rfl ?_
    refine AO.append (e := 32) (sz := 7) (bs := 56) (SLe.eq rfl) rfl (by first | exact SLe.eq rfl | exact SLe.nil rfl) (by kernel_rfl) (by simp only [List.length_cons, List.length_nil]; omega) rfl ?_
    first | refine AO.pure (PureOp.assignD (SLe.eq rfl)) rfl rfl ?_ | refine AO.pure (PureOp.assignB (SLe.eq rfl)) rfl rfl ?_ | refine AO.pure (PureOp.assignT (SLe.eq rfl)) rfl rfl ?_ | refine AO.pure (PureOp.assignO (SLe.eq rfl)) rfl rfl ?_ | refine AO.pure (PureOp.assignP (SLe.eq rfl)) rfl rfl ?_ | refine AO.pure (PureOp.assignA (SLe.eq rfl)) rfl rfl ?_
    refine AO.nil ?_
    refine thenQ_normal ?_
    refine AC.seq ?_
    refine AC.seq ?_
    refine AC.region ?_
    first | refine AO.pure (PureOp.assignD (SLe.eq rfl)) rfl rfl ?_ | refine AO.pure (PureOp.assignB (SLe.eq rfl)) rfl rfl ?_ | refine AO.pure (PureOp.assignT (SLe.eq rfl)) rfl rfl ?_ | refine AO.pure (PureOp.assignO (SLe.eq rfl)) rfl rfl ?_ | refine AO.pure (PureOp.assignP (SLe.eq rfl)) rfl rfl ?_ | refine AO.pure (PureOp.assignA (SLe.eq rfl)) rfl rfl ?_
    refine AO.nil ?_
    refine thenQ_normal ?_
    refine AC.block ?_
    refine AC.loop (ι := Nat) (fun f => ⟨[(4, .d (.sl 7 (rr l))), (5, .bx 0 0), (6, .os 0), (7, .d (iD (f : Int)))], [(0, [.d (iD 100), .d (iD xf), .d (iD 50), .d (iD xk), .d (iD xl), .d (iD ma), .d (iD mb)])], [(0, ⟨32, 7, rr ((⟨100, xf, 50, xk, xl, ma, mb⟩ : Rep) :: l)⟩)], 1, true, 96⟩) (fun f => 1 ≤ f ∧ f ≤ 4) (fun f => 4 - f) 1 ?_ ⟨Nat.le_refl 1, by omega⟩ ?_
    · refine Le.mk [(0, 2)] ⟨(by first | exact ⟨SLe.eq rfl, rfl⟩ | exact rfl | exact ⟨SLe.nil rfl, rfl⟩ | exact ⟨SLe.int rfl (by omega), rfl⟩ | exact ⟨SLe.bool rfl (by simp_all), rfl⟩ | exact ⟨SLe.sl rfl (by simp_all), rfl⟩), (by first | exact ⟨SLe.eq rfl, rfl⟩ | exact rfl | exact ⟨SLe.nil rfl, rfl⟩ | exact ⟨SLe.int rfl (by omega), rfl⟩ | exact ⟨SLe.bool rfl (by simp_all), rfl⟩ | exact ⟨SLe.sl rfl (by simp_all), rfl⟩), (by first | exact ⟨SLe.eq rfl, rfl⟩ | exact rfl | exact ⟨SLe.nil rfl, rfl⟩ | exact ⟨SLe.int rfl (by omega), rfl⟩ | exact ⟨SLe.bool rfl (by simp_all), rfl⟩ | exact ⟨SLe.sl rfl (by simp_all), rfl⟩), (by first | exact ⟨SLe.eq rfl, rfl⟩ | exact rfl | exact ⟨SLe.nil rfl, rfl⟩ | exact ⟨SLe.int rfl (by omega), rfl⟩ | exact ⟨SLe.bool rfl (by simp_all), rfl⟩ | exact ⟨SLe.sl rfl (by simp_all), rfl⟩), trivial⟩ ⟨⟨_, rfl, ⟨(by first | exact ⟨SLe.eq rfl, rfl⟩ | exact rfl | exact ⟨SLe.nil rfl, rfl⟩ | exact ⟨SLe.int rfl (by omega), rfl⟩ | exact ⟨SLe.bool rfl (by simp_all), rfl⟩ | exact ⟨SLe.sl rfl (by simp_all), rfl⟩), (by first | exact ⟨SLe.eq rfl, rfl⟩ | exact rfl | exact ⟨SLe.nil rfl, rfl⟩ | exact ⟨SLe.int rfl (by omega), rfl⟩ | exact ⟨SLe.bool rfl (by simp_all), rfl⟩ | exact ⟨SLe.sl rfl (by simp_all), rfl⟩), (by first | exact ⟨SLe.eq rfl, rfl⟩ | exact rfl | exact ⟨SLe.nil rfl, rfl⟩ | exact ⟨SLe.int rfl (by omega), rfl⟩ | exact ⟨SLe.bool rfl (by simp_all), rfl⟩ | exact ⟨SLe.sl rfl (by simp_all), rfl⟩), (by first | exact ⟨SLe.eq rfl, rfl⟩ | exact rfl | exact ⟨SLe.nil rfl, rfl⟩ | exact ⟨SLe.int rfl (by omega), rfl⟩ | exact ⟨SLe.bool rfl (by simp_all), rfl⟩ | exact ⟨SLe.sl rfl (by simp_all), rfl⟩), (by first | exact ⟨SLe.eq rfl, rfl⟩ | exact rfl | exact ⟨SLe.nil rfl, rfl⟩ | exact ⟨SLe.int rfl (by omega), rfl⟩ | exact ⟨SLe.bool rfl (by simp_all), rfl⟩ | exact ⟨SLe.sl rfl (by simp_all), rfl⟩), (by first | exact ⟨SLe.eq rfl, rfl⟩ | exact rfl | exact ⟨SLe.nil rfl, rfl⟩ | exact ⟨SLe.int rfl (by omega), rfl⟩ | exact ⟨SLe.bool rfl (by simp_all), rfl⟩ | exact ⟨SLe.sl rfl (by simp_all), rfl⟩), (by first | exact ⟨SLe.eq rfl, rfl⟩ | exact rfl | exact ⟨SLe.nil rfl, rfl⟩ | exact ⟨SLe.int rfl (by omega), rfl⟩ | exact ⟨SLe.bool rfl (by simp_all), rfl⟩ | exact ⟨SLe.sl rfl (by simp_all), rfl⟩), trivial⟩⟩, trivial⟩ ⟨⟨_, rfl, (by first | rfl | (subst hma hmb; rfl))⟩, trivial⟩ rfl rfl rfl rfl rfl
    · rintro f ⟨hf1, hf2⟩
      refine AC.seq ?_
      refine AC.seq ?_
      refine AC.region ?_
      first | refine AO.pure (PureOp.moveD (SLe.eq rfl)) rfl rfl ?_ | refine AO.pure (PureOp.moveB (SLe.eq rfl)) rfl rfl ?_ | refine AO.pure (PureOp.moveT (SLe.eq rfl)) rfl rfl ?_ | refine AO.pure (PureOp.moveO (SLe.eq rfl)) rfl rfl ?_ | refine AO.pure (PureOp.moveP (SLe.eq rfl)) rfl rfl ?_ | refine AO.pure (PureOp.moveA (SLe.eq rfl)) rfl rfl ?_
      refine AO.pure (PureOp.leq (SLe.eq rfl) (SLe.eq rfl)) rfl rfl ?_
      refine AO.nil ?_
      refine thenQ_normal ?_
      refine AC.cond (SLe.eq rfl) (fun hb => ?_) (fun hb => ?_)
      · skip
        have hf3 : f ≤ 3 := by have := of_decide_eq_true hb; omega
        refine AC.skip ?_
        refine thenQ_normal ?_
        refine AC.seq ?_
        refine AC.block ?_
        refine AC.seq ?_
        refine AC.region ?_
        first | refine AO.pure (PureOp.assignD (SLe.eq rfl)) rfl rfl ?_ | refine AO.pure (PureOp.assignB (SLe.eq rfl)) rfl rfl ?_ | refine AO.pure (PureOp.assignT (SLe.eq rfl)) rfl rfl ?_ | refine AO.pure (PureOp.assignO (SLe.eq rfl)) rfl rfl ?_ | refine AO.pure (PureOp.assignP (SLe.eq rfl)) rfl rfl ?_ | refine AO.pure (PureOp.assignA (SLe.eq rfl)) rfl rfl ?_
        refine AO.nil ?_
        refine thenQ_normal ?_
        refine AC.seq ?_
        refine AC.seq ?_
        refine AC.region ?_
        first | refine AO.pure (PureOp.moveD (SLe.eq rfl)) rfl rfl ?_ | refine AO.pure (PureOp.moveB (SLe.eq rfl)) rfl rfl ?_ | refine AO.pure (PureOp.moveT (SLe.eq rfl)) rfl rfl ?_ | refine AO.pure (PureOp.moveO (SLe.eq rfl)) rfl rfl ?_ | refine AO.pure (PureOp.moveP (SLe.eq rfl)) rfl rfl ?_ | refine AO.pure (PureOp.moveA (SLe.eq rfl)) rfl rfl ?_
        first | refine AO.pure (PureOp.len (e := 32) (s' := 7) (SLe.eq rfl) (by kernel_rfl)) rfl rfl ?_ | refine AO.pure (PureOp.lenR (e := 32) (s' := 7) (SLe.eq rfl) rfl rfl (by kernel_rfl)) rfl rfl ?_ | refine AO.pure (PureOp.lenNil (e := 32) (s' := 7) (SLe.eq rfl) (by kernel_rfl)) rfl rfl ?_
        first | refine AO.pure (PureOp.moveD (SLe.eq rfl)) rfl rfl ?_ | refine AO.pure (PureOp.moveB (SLe.eq rfl)) rfl rfl ?_ | refine AO.pure (PureOp.moveT (SLe.eq rfl)) rfl rfl ?_ | refine AO.pure (PureOp.moveO (SLe.eq rfl)) rfl rfl ?_ | refine AO.pure (PureOp.moveP (SLe.eq rfl)) rfl rfl ?_ | refine AO.pure (PureOp.moveA (SLe.eq rfl)) rfl rfl ?_
        refine AO.nil ?_
        refine thenQ_normal ?_
        refine AC.block ?_
        refine AC.loop (ι := Nat) (fun i => ⟨[(4, .d (.sl 7 (rr l))), (5, .bx 0 0), (6, .os 0), (7, .d (iD (f : Int))), (8, .d (bD ((l.take i).any (refP f)))), (38, .d (.sl 7 (rr l))), (39, .d (iD ((rr l).length : Int))), (40, .d (iD (i : Int)))], [(0, [.d (iD 100), .d (iD xf), .d (iD 50), .d (iD xk), .d (iD xl), .d (iD ma), .d (iD mb)])], [(0, ⟨32, 7, rr ((⟨100, xf, 50, xk, xl, ma, mb⟩ : Rep) :: l)⟩)], 1, true, 96⟩) (fun i => i ≤ l.length) (fun i => l.length - i) 0 ?_ (Nat.zero_le _) ?_
        · refine Le.mk [(0, 0)] ⟨(by first | exact ⟨SLe.eq rfl, rfl⟩ | exact rfl | exact ⟨SLe.nil rfl, rfl⟩ | exact ⟨SLe.int rfl (by omega), rfl⟩ | exact ⟨SLe.bool rfl (by simp_all), rfl⟩ | exact ⟨SLe.sl rfl (by simp_all), rfl⟩), (by first | exact ⟨SLe.eq rfl, rfl⟩ | exact rfl | exact ⟨SLe.nil rfl, rfl⟩ | exact ⟨SLe.int rfl (by omega), rfl⟩ | exact ⟨SLe.bool rfl (by simp_all), rfl⟩ | exact ⟨SLe.sl rfl (by simp_all), rfl⟩), (by first | exact ⟨SLe.eq rfl, rfl⟩ | exact rfl | exact ⟨SLe.nil rfl, rfl⟩ | exact ⟨SLe.int rfl (by omega), rfl⟩ | exact ⟨SLe.bool rfl (by simp_all), rfl⟩ | exact ⟨SLe.sl rfl (by simp_all), rfl⟩), (by first | exact ⟨SLe.eq rfl, rfl⟩ | exact rfl | exact ⟨SLe.nil rfl, rfl⟩ | exact ⟨SLe.int rfl (by omega), rfl⟩ | exact ⟨SLe.bool rfl (by simp_all), rfl⟩ | exact ⟨SLe.sl rfl (by simp_all), rfl⟩), (by first | exact ⟨SLe.eq rfl, rfl⟩ | exact rfl | exact ⟨SLe.nil rfl, rfl⟩ | exact ⟨SLe.int rfl (by omega), rfl⟩ | exact ⟨SLe.bool rfl (by simp_all), rfl⟩ | exact ⟨SLe.sl rfl (by simp_all), rfl⟩), (by first | exact ⟨SLe.eq rfl, rfl⟩ | exact rfl | exact ⟨SLe.nil rfl, rfl⟩ | exact ⟨SLe.int rfl (by omega), rfl⟩ | exact ⟨SLe.bool rfl (by simp_all), rfl⟩ | exact ⟨SLe.sl rfl (by simp_all), rfl⟩), (by first | exact ⟨SLe.eq rfl, rfl⟩ | exact rfl | exact ⟨SLe.nil rfl, rfl⟩ | exact ⟨SLe.int rfl (by omega), rfl⟩ | exact ⟨SLe.bool rfl (by simp_all), rfl⟩ | exact ⟨SLe.sl rfl (by simp_all), rfl⟩), (by first | exact ⟨SLe.eq rfl, rfl⟩ | exact rfl | exact ⟨SLe.nil rfl, rfl⟩ | exact ⟨SLe.int rfl (by omega), rfl⟩ | exact ⟨SLe.bool rfl (by simp_all), rfl⟩ | exact ⟨SLe.sl rfl (by simp_all), rfl⟩), trivial⟩ ⟨⟨_, rfl, ⟨(by first | exact ⟨SLe.eq rfl, rfl⟩ | exact rfl | exact ⟨SLe.nil rfl, rfl⟩ | exact ⟨SLe.int rfl (by omega), rfl⟩ | exact ⟨SLe.bool rfl (by simp_all), rfl⟩ | exact ⟨SLe.sl rfl (by simp_all), rfl⟩), (by first | exact ⟨SLe.eq rfl, rfl⟩ | exact rfl | exact ⟨SLe.nil rfl, rfl⟩ | exact ⟨SLe.int rfl (by omega), rfl⟩ | exact ⟨SLe.bool rfl (by simp_all), rfl⟩ | exact ⟨SLe.sl rfl (by simp_all), rfl⟩), (by first | exact ⟨SLe.eq rfl, rfl⟩ | exact rfl | exact ⟨SLe.nil rfl, rfl⟩ | exact ⟨SLe.int rfl (by omega), rfl⟩ | exact ⟨SLe.bool rfl (by simp_all), rfl⟩ | exact ⟨SLe.sl rfl (by simp_all), rfl⟩), (by first | exact ⟨SLe.eq rfl, rfl⟩ | exact rfl | exact ⟨SLe.nil rfl, rfl⟩ | exact ⟨SLe.int rfl (by omega), rfl⟩ | exact ⟨SLe.bool rfl (by simp_all), rfl⟩ | exact ⟨SLe.sl rfl (by simp_all), rfl⟩), (by first | exact ⟨SLe.eq rfl, rfl⟩ | exact rfl | exact ⟨SLe.nil rfl, rfl⟩ | exact ⟨SLe.int rfl (by omega), rfl⟩ | exact ⟨SLe.bool rfl (by simp_all), rfl⟩ | exact ⟨SLe.sl rfl (by simp_all), rfl⟩), (by first | exact ⟨SLe.eq rfl, rfl⟩ | exact rfl | exact ⟨SLe.nil rfl, rfl⟩ | exact ⟨SLe.int rfl (by omega), rfl⟩ | exact ⟨SLe.bool rfl (by simp_all), rfl⟩ | exact ⟨SLe.sl rfl (by simp_all), rfl⟩), (by first | exact ⟨SLe.eq rfl, rfl⟩ | exact rfl | exact ⟨SLe.nil rfl, rfl⟩ | exact ⟨SLe.int rfl (by omega), rfl⟩ | exact ⟨SLe.bool rfl (by simp_all), rfl⟩ | exact ⟨SLe.sl rfl (by simp_all), rfl⟩), trivial⟩⟩, trivial⟩ ⟨⟨_, rfl, rfl⟩, trivial⟩ rfl rfl rfl rfl rfl
        · rintro i hi
          refine AC.seq ?_
          refine AC.region ?_
          refine AO.pure (PureOp.lss (SLe.eq rfl) (SLe.eq rfl)) rfl rfl ?_
          refine AO.nil ?_
          refine thenQ_normal ?_
          refine AC.seq ?_
          refine AC.cond (SLe.eq rfl) (fun hb => ?_) (fun hb => ?_)
          · skip
            obtain ⟨x, hx, hrow⟩ := rr_at hb
            have hlt := (List.getElem?_eq_some_iff.1 hx).1
            have hm := any_succ f hx
            refine AC.skip ?_
            refine thenQ_normal ?_
            refine AC.seq ?_
            refine AC.block ?_
            refine AC.seq ?_
            refine AC.region ?_
            first | refine AO.pure (PureOp.idx (e := 32) (sz := 7) (SLe.eq rfl) (SLe.eq rfl) rfl hrow (by kernel_rfl)) rfl rfl ?_ | refine AO.pure (PureOp.idxR (e := 32) (sz := 7) (SLe.eq rfl) rfl (SLe.eq rfl) rfl (by simp; omega) rfl (by kernel_rfl)) rfl rfl ?_
            first | refine AO.pure (PureOp.loadBN (sz := 7) (SLe.eq rfl) rfl rfl rfl rfl (by kernel_rfl)) rfl rfl ?_ | refine AO.pure (PureOp.loadN (sz := 7) (SLe.eq rfl) rfl rfl (by kernel_rfl)) rfl rfl ?_ | refine AO.pure (PureOp.loadON (sz := 7) (i := _) (SLe.eq rfl) rfl rfl (by assumption) rfl (by kernel_rfl)) rfl rfl ?_ | refine AO.pure (PureOp.loadBS (sz := 7) (SLe.eq rfl) rfl rfl rfl (by kernel_rfl)) rfl rfl ?_
            refine AO.alloc (z := .agg #[.int .i64 0, .int .i64 0, .int .i64 0, .int .i64 0, .int .i64 0, .int .i64 0, .int .i64 0]) (by kernel_rfl) rfl rfl rfl ?_
            refine AO.store (SLe.eq rfl) (SLe.eq rfl) rfl rfl rfl rfl rfl (by kernel_rfl) rfl rfl ?_
            refine AO.nil ?_
            refine thenQ_normal ?_
            refine AC.region ?_
            first | refine AO.pure (PureOp.moveD (SLe.eq rfl)) rfl rfl ?_ | refine AO.pure (PureOp.moveB (SLe.eq rfl)) rfl rfl ?_ | refine AO.pure (PureOp.moveT (SLe.eq rfl)) rfl rfl ?_ | refine AO.pure (PureOp.moveO (SLe.eq rfl)) rfl rfl ?_ | refine AO.pure (PureOp.moveP (SLe.eq rfl)) rfl rfl ?_ | refine AO.pure (PureOp.moveA (SLe.eq rfl)) rfl rfl ?_
            first | refine AO.pure (PureOp.moveD (SLe.eq rfl)) rfl rfl ?_ | refine AO.pure (PureOp.moveB (SLe.eq rfl)) rfl rfl ?_ | refine AO.pure (PureOp.moveT (SLe.eq rfl)) rfl rfl ?_ | refine AO.pure (PureOp.moveO (SLe.eq rfl)) rfl rfl ?_ | refine AO.pure (PureOp.moveP (SLe.eq rfl)) rfl rfl ?_ | refine AO.pure (PureOp.moveA (SLe.eq rfl)) rfl rfl ?_
            first | refine AO.guarded rfl rfl (fun hG => PureOp.fldB (k := 1) (SLe.eq rfl) (by kernel_rfl)) rfl rfl ?_ | refine AO.guarded rfl rfl (fun hG => PureOp.fld (k := 1) (SLe.eq rfl) (by kernel_rfl)) rfl rfl ?_ | refine AO.guarded rfl rfl (fun hG => PureOp.fldO (k := 1) (SLe.eq rfl) (by kernel_rfl)) rfl rfl ?_
            first | refine AO.guarded rfl rfl (fun hG => PureOp.loadB1 (SLe.cnd rfl (by first | exact hG | (simp only [Bool.and_eq_true, beq_iff_eq] at hG ⊢; simp [hG]) | simp_all)) rfl rfl (by kernel_rfl)) rfl rfl ?_ | refine AO.guarded rfl rfl (fun hG => PureOp.load1 (SLe.cnd rfl (by first | exact hG | (simp only [Bool.and_eq_true, beq_iff_eq] at hG ⊢; simp [hG]) | simp_all)) rfl (by kernel_rfl)) rfl rfl ?_ | refine AO.guarded rfl rfl (fun hG => PureOp.loadO1 (i := _) (j := _) (SLe.cnd rfl (by first | exact hG | (simp only [Bool.and_eq_true, beq_iff_eq] at hG ⊢; simp [hG]) | simp_all)) rfl rfl (by assumption) rfl (by kernel_rfl)) rfl rfl ?_
            first | refine AO.guarded rfl rfl (fun hG => PureOp.moveD (SLe.eq rfl)) rfl rfl ?_ | refine AO.guarded rfl rfl (fun hG => PureOp.moveB (SLe.eq rfl)) rfl rfl ?_ | refine AO.guarded rfl rfl (fun hG => PureOp.moveT (SLe.eq rfl)) rfl rfl ?_ | refine AO.guarded rfl rfl (fun hG => PureOp.moveO (SLe.eq rfl)) rfl rfl ?_ | refine AO.guarded rfl rfl (fun hG => PureOp.moveP (SLe.eq rfl)) rfl rfl ?_ | refine AO.guarded rfl rfl (fun hG => PureOp.moveA (SLe.eq rfl)) rfl rfl ?_
            refine AO.guarded rfl rfl (fun hG => PureOp.eql (SLe.cnd rfl (by first | exact hG | (simp only [Bool.and_eq_true, beq_iff_eq] at hG ⊢; simp [hG]) | simp_all)) (SLe.cnd rfl (by first | exact hG | (simp only [Bool.and_eq_true, beq_iff_eq] at hG ⊢; simp [hG]) | simp_all))) rfl rfl ?_
            first | refine AO.guarded rfl rfl (fun hG => PureOp.moveD (SLe.cnd rfl (by first | exact hG | (simp only [Bool.and_eq_true, beq_iff_eq] at hG ⊢; simp [hG]) | simp_all))) rfl rfl ?_ | refine AO.guarded rfl rfl (fun hG => PureOp.moveB (SLe.cnd rfl (by first | exact hG | (simp only [Bool.and_eq_true, beq_iff_eq] at hG ⊢; simp [hG]) | simp_all))) rfl rfl ?_ | refine AO.guarded rfl rfl (fun hG => PureOp.moveT (SLe.cnd rfl (by first | exact hG | (simp only [Bool.and_eq_true, beq_iff_eq] at hG ⊢; simp [hG]) | simp_all))) rfl rfl ?_ | refine AO.guarded rfl rfl (fun hG => PureOp.moveO (SLe.cnd rfl (by first | exact hG | (simp only [Bool.and_eq_true, beq_iff_eq] at hG ⊢; simp [hG]) | simp_all))) rfl rfl ?_ | refine AO.guarded rfl rfl (fun hG => PureOp.moveP (SLe.cnd rfl (by first | exact hG | (simp only [Bool.and_eq_true, beq_iff_eq] at hG ⊢; simp [hG]) | simp_all))) rfl rfl ?_ | refine AO.guarded rfl rfl (fun hG => PureOp.moveA (SLe.cnd rfl (by first | exact hG | (simp only [Bool.and_eq_true, beq_iff_eq] at hG ⊢; simp [hG]) | simp_all))) rfl rfl ?_
            first | refine AO.guarded rfl rfl (fun hG => PureOp.fldB (k := 3) (SLe.eq rfl) (by kernel_rfl)) rfl rfl ?_ | refine AO.guarded rfl rfl (fun hG => PureOp.fld (k := 3) (SLe.eq rfl) (by kernel_rfl)) rfl rfl ?_ | refine AO.guarded rfl rfl (fun hG => PureOp.fldO (k := 3) (SLe.eq rfl) (by kernel_rfl)) rfl rfl ?_
            first | refine AO.guarded rfl rfl (fun hG => PureOp.loadB1 (SLe.cnd rfl (by first | exact hG | (simp only [Bool.and_eq_true, beq_iff_eq] at hG ⊢; simp [hG]) | simp_all)) rfl rfl (by kernel_rfl)) rfl rfl ?_ | refine AO.guarded rfl rfl (fun hG => PureOp.load1 (SLe.cnd rfl (by first | exact hG | (simp only [Bool.and_eq_true, beq_iff_eq] at hG ⊢; simp [hG]) | simp_all)) rfl (by kernel_rfl)) rfl rfl ?_ | refine AO.guarded rfl rfl (fun hG => PureOp.loadO1 (i := _) (j := _) (SLe.cnd rfl (by first | exact hG | (simp only [Bool.and_eq_true, beq_iff_eq] at hG ⊢; simp [hG]) | simp_all)) rfl rfl (by assumption) rfl (by kernel_rfl)) rfl rfl ?_
            refine AO.guarded rfl rfl (fun hG => PureOp.eql (SLe.cnd rfl (by first | exact hG | (simp only [Bool.and_eq_true, beq_iff_eq] at hG ⊢; simp [hG]) | simp_all)) (SLe.eq rfl)) rfl rfl ?_
            refine AO.guarded rfl rfl (fun hG => PureOp.pickAnd (SLe.cnd rfl (by first | exact hG | (simp only [Bool.and_eq_true, beq_iff_eq] at hG ⊢; simp [hG]) | simp_all)) rfl rfl (by intro h; first | (simp_all; done) | (simp_all; exact Decidable.imp_iff_not_or.1 (by assumption)))) rfl rfl ?_
            refine AO.pure (PureOp.pickOr (SLe.eq rfl) rfl rfl (by intro h; first | (simp_all; done) | (simp_all; exact Decidable.imp_iff_not_or.1 (by assumption)))) rfl rfl ?_
            first | refine AO.pure (PureOp.assignD (SLe.eq rfl)) rfl rfl ?_ | refine AO.pure (PureOp.assignB (SLe.eq rfl)) rfl rfl ?_ | refine AO.pure (PureOp.assignT (SLe.eq rfl)) rfl rfl ?_ | refine AO.pure (PureOp.assignO (SLe.eq rfl)) rfl rfl ?_ | refine AO.pure (PureOp.assignP (SLe.eq rfl)) rfl rfl ?_ | refine AO.pure (PureOp.assignA (SLe.eq rfl)) rfl rfl ?_
            refine AO.nil ?_
            refine blockQ_normal ?_
            refine thenQ_normal ?_
            refine AC.region ?_
            refine AO.pure (PureOp.add (SLe.eq rfl) (SLe.eq rfl) (by omega) (by omega)) rfl rfl ?_
            first | refine AO.pure (PureOp.moveD (SLe.eq rfl)) rfl rfl ?_ | refine AO.pure (PureOp.moveB (SLe.eq rfl)) rfl rfl ?_ | refine AO.pure (PureOp.moveT (SLe.eq rfl)) rfl rfl ?_ | refine AO.pure (PureOp.moveO (SLe.eq rfl)) rfl rfl ?_ | refine AO.pure (PureOp.moveP (SLe.eq rfl)) rfl rfl ?_ | refine AO.pure (PureOp.moveA (SLe.eq rfl)) rfl rfl ?_
            refine AO.nil ?_
            refine thenQ_normal ?_
            refine ⟨i + 1, hlt, (by omega), ?_⟩
            rw [hm]
            refine Le.mk [(0, 0)] ⟨(by first | exact ⟨SLe.eq rfl, rfl⟩ | exact rfl | exact ⟨SLe.nil rfl, rfl⟩ | exact ⟨SLe.int rfl (by omega), rfl⟩ | exact ⟨SLe.bool rfl (by simp_all), rfl⟩ | exact ⟨SLe.sl rfl (by simp_all), rfl⟩), (by first | exact ⟨SLe.eq rfl, rfl⟩ | exact rfl | exact ⟨SLe.nil rfl, rfl⟩ | exact ⟨SLe.int rfl (by omega), rfl⟩ | exact ⟨SLe.bool rfl (by simp_all), rfl⟩ | exact ⟨SLe.sl rfl (by simp_all), rfl⟩), (by first | exact ⟨SLe.eq rfl, rfl⟩ | exact rfl | exact ⟨SLe.nil rfl, rfl⟩ | exact ⟨SLe.int rfl (by omega), rfl⟩ | exact ⟨SLe.bool rfl (by simp_all), rfl⟩ | exact ⟨SLe.sl rfl (by simp_all), rfl⟩), (by first | exact ⟨SLe.eq rfl, rfl⟩ | exact rfl | exact ⟨SLe.nil rfl, rfl⟩ | exact ⟨SLe.int rfl (by omega), rfl⟩ | exact ⟨SLe.bool rfl (by simp_all), rfl⟩ | exact ⟨SLe.sl rfl (by simp_all), rfl⟩), (by first | exact ⟨SLe.eq rfl, rfl⟩ | exact rfl | exact ⟨SLe.nil rfl, rfl⟩ | exact ⟨SLe.int rfl (by omega), rfl⟩ | exact ⟨SLe.bool rfl (by simp_all), rfl⟩ | exact ⟨SLe.sl rfl (by simp_all), rfl⟩), (by first | exact ⟨SLe.eq rfl, rfl⟩ | exact rfl | exact ⟨SLe.nil rfl, rfl⟩ | exact ⟨SLe.int rfl (by omega), rfl⟩ | exact ⟨SLe.bool rfl (by simp_all), rfl⟩ | exact ⟨SLe.sl rfl (by simp_all), rfl⟩), (by first | exact ⟨SLe.eq rfl, rfl⟩ | exact rfl | exact ⟨SLe.nil rfl, rfl⟩ | exact ⟨SLe.int rfl (by omega), rfl⟩ | exact ⟨SLe.bool rfl (by simp_all), rfl⟩ | exact ⟨SLe.sl rfl (by simp_all), rfl⟩), (by first | exact ⟨SLe.eq rfl, rfl⟩ | exact rfl | exact ⟨SLe.nil rfl, rfl⟩ | exact ⟨SLe.int rfl (by omega), rfl⟩ | exact ⟨SLe.bool rfl (by simp_all), rfl⟩ | exact ⟨SLe.sl rfl (by simp_all), rfl⟩), trivial⟩ ⟨⟨_, rfl, ⟨(by first | exact ⟨SLe.eq rfl, rfl⟩ | exact rfl | exact ⟨SLe.nil rfl, rfl⟩ | exact ⟨SLe.int rfl (by omega), rfl⟩ | exact ⟨SLe.bool rfl (by simp_all), rfl⟩ | exact ⟨SLe.sl rfl (by simp_all), rfl⟩), (by first | exact ⟨SLe.eq rfl, rfl⟩ | exact rfl | exact ⟨SLe.nil rfl, rfl⟩ | exact ⟨SLe.int rfl (by omega), rfl⟩ | exact ⟨SLe.bool rfl (by simp_all), rfl⟩ | exact ⟨SLe.sl rfl (by simp_all), rfl⟩), (by first | exact ⟨SLe.eq rfl, rfl⟩ | exact rfl | exact ⟨SLe.nil rfl, rfl⟩ | exact ⟨SLe.int rfl (by omega), rfl⟩ | exact ⟨SLe.bool rfl (by simp_all), rfl⟩ | exact ⟨SLe.sl rfl (by simp_all), rfl⟩), (by first | exact ⟨SLe.eq rfl, rfl⟩ | exact rfl | exact ⟨SLe.nil rfl, rfl⟩ | exact ⟨SLe.int rfl (by omega), rfl⟩ | exact ⟨SLe.bool rfl (by simp_all), rfl⟩ | exact ⟨SLe.sl rfl (by simp_all), rfl⟩), (by first | exact ⟨SLe.eq rfl, rfl⟩ | exact rfl | exact ⟨SLe.nil rfl, rfl⟩ | exact ⟨SLe.int rfl (by omega), rfl⟩ | exact ⟨SLe.bool rfl (by simp_all), rfl⟩ | exact ⟨SLe.sl rfl (by simp_all), rfl⟩), (by first | exact ⟨SLe.eq rfl, rfl⟩ | exact rfl | exact ⟨SLe.nil rfl, rfl⟩ | exact ⟨SLe.int rfl (by omega), rfl⟩ | exact ⟨SLe.bool rfl (by simp_all), rfl⟩ | exact ⟨SLe.sl rfl (by simp_all), rfl⟩), (by first | exact ⟨SLe.eq rfl, rfl⟩ | exact rfl | exact ⟨SLe.nil rfl, rfl⟩ | exact ⟨SLe.int rfl (by omega), rfl⟩ | exact ⟨SLe.bool rfl (by simp_all), rfl⟩ | exact ⟨SLe.sl rfl (by simp_all), rfl⟩), trivial⟩⟩, trivial⟩ ⟨⟨_, rfl, rfl⟩, trivial⟩ rfl rfl rfl rfl rfl
          · skip
            have hend : l.take i = l := by rw [rr_length] at hb; have := of_decide_eq_false hb; rw [List.take_of_length_le]; omega
            rw [hend]
            refine AC.exit ?_
            refine thenQ_exit ?_
            refine thenQ_exit ?_
            refine blockQ_hit ?_
            refine thenQ_normal ?_
            refine AC.seq ?_
            refine AC.region ?_
            first | refine AO.pure (PureOp.assignD (SLe.eq rfl)) rfl rfl ?_ | refine AO.pure (PureOp.assignB (SLe.eq rfl)) rfl rfl ?_ | refine AO.pure (PureOp.assignT (SLe.eq rfl)) rfl rfl ?_ | refine AO.pure (PureOp.assignO (SLe.eq rfl)) rfl rfl ?_ | refine AO.pure (PureOp.assignP (SLe.eq rfl)) rfl rfl ?_ | refine AO.pure (PureOp.assignA (SLe.eq rfl)) rfl rfl ?_
            refine AO.nil ?_
            refine thenQ_normal ?_
            refine AC.block ?_
            refine AC.loop (ι := Nat) (fun line => ⟨[(4, .d (.sl 7 (rr l))), (5, .bx 0 0), (6, .os 0), (7, .d (iD (f : Int))), (8, .d (bD (l.any (refP f)))), (11, .d (iD (line : Int)))], [(0, [.d (iD 100), .d (iD xf), .d (iD 50), .d (iD xk), .d (iD xl), .d (iD ma), .d (iD mb)])], [(0, ⟨32, 7, rr ((⟨100, xf, 50, xk, xl, ma, mb⟩ : Rep) :: l)⟩)], 1, true, 96⟩) (fun line => line ≤ 3) (fun line => 3 - line) 0 ?_ (Nat.zero_le _) ?_
            · refine Le.mk [(0, 0)] ⟨(by first | exact ⟨SLe.eq rfl, rfl⟩ | exact rfl | exact ⟨SLe.nil rfl, rfl⟩ | exact ⟨SLe.int rfl (by omega), rfl⟩ | exact ⟨SLe.bool rfl (by simp_all), rfl⟩ | exact ⟨SLe.sl rfl (by simp_all), rfl⟩), (by first | exact ⟨SLe.eq rfl, rfl⟩ | exact rfl | exact ⟨SLe.nil rfl, rfl⟩ | exact ⟨SLe.int rfl (by omega), rfl⟩ | exact ⟨SLe.bool rfl (by simp_all), rfl⟩ | exact ⟨SLe.sl rfl (by simp_all), rfl⟩), (by first | exact ⟨SLe.eq rfl, rfl⟩ | exact rfl | exact ⟨SLe.nil rfl, rfl⟩ | exact ⟨SLe.int rfl (by omega), rfl⟩ | exact ⟨SLe.bool rfl (by simp_all), rfl⟩ | exact ⟨SLe.sl rfl (by simp_all), rfl⟩), (by first | exact ⟨SLe.eq rfl, rfl⟩ | exact rfl | exact ⟨SLe.nil rfl, rfl⟩ | exact ⟨SLe.int rfl (by omega), rfl⟩ | exact ⟨SLe.bool rfl (by simp_all), rfl⟩ | exact ⟨SLe.sl rfl (by simp_all), rfl⟩), (by first | exact ⟨SLe.eq rfl, rfl⟩ | exact rfl | exact ⟨SLe.nil rfl, rfl⟩ | exact ⟨SLe.int rfl (by omega), rfl⟩ | exact ⟨SLe.bool rfl (by simp_all), rfl⟩ | exact ⟨SLe.sl rfl (by simp_all), rfl⟩), (by first | exact ⟨SLe.eq rfl, rfl⟩ | exact rfl | exact ⟨SLe.nil rfl, rfl⟩ | exact ⟨SLe.int rfl (by omega), rfl⟩ | exact ⟨SLe.bool rfl (by simp_all), rfl⟩ | exact ⟨SLe.sl rfl (by simp_all), rfl⟩), trivial⟩ ⟨⟨_, rfl, ⟨(by first | exact ⟨SLe.eq rfl, rfl⟩ | exact rfl | exact ⟨SLe.nil rfl, rfl⟩ | exact ⟨SLe.int rfl (by omega), rfl⟩ | exact ⟨SLe.bool rfl (by simp_all), rfl⟩ | exact ⟨SLe.sl rfl (by simp_all), rfl⟩), (by first | exact ⟨SLe.eq rfl, rfl⟩ | exact rfl | exact ⟨SLe.nil rfl, rfl⟩ | exact ⟨SLe.int rfl (by omega), rfl⟩ | exact ⟨SLe.bool rfl (by simp_all), rfl⟩ | exact ⟨SLe.sl rfl (by simp_all), rfl⟩), (by first | exact ⟨SLe.eq rfl, rfl⟩ | exact rfl | exact ⟨SLe.nil rfl, rfl⟩ | exact ⟨SLe.int rfl (by omega), rfl⟩ | exact ⟨SLe.bool rfl (by simp_all), rfl⟩ | exact ⟨SLe.sl rfl (by simp_all), rfl⟩), (by first | exact ⟨SLe.eq rfl, rfl⟩ | exact rfl | exact ⟨SLe.nil rfl, rfl⟩ | exact ⟨SLe.int rfl (by omega), rfl⟩ | exact ⟨SLe.bool rfl (by simp_all), rfl⟩ | exact ⟨SLe.sl rfl (by simp_all), rfl⟩), (by first | exact ⟨SLe.eq rfl, rfl⟩ | exact rfl | exact ⟨SLe.nil rfl, rfl⟩ | exact ⟨SLe.int rfl (by omega), rfl⟩ | exact ⟨SLe.bool rfl (by simp_all), rfl⟩ | exact ⟨SLe.sl rfl (by simp_all), rfl⟩), (by first | exact ⟨SLe.eq rfl, rfl⟩ | exact rfl | exact ⟨SLe.nil rfl, rfl⟩ | exact ⟨SLe.int rfl (by omega), rfl⟩ | exact ⟨SLe.bool rfl (by simp_all), rfl⟩ | exact ⟨SLe.sl rfl (by simp_all), rfl⟩), (by first | exact ⟨SLe.eq rfl, rfl⟩ | exact rfl | exact ⟨SLe.nil rfl, rfl⟩ | exact ⟨SLe.int rfl (by omega), rfl⟩ | exact ⟨SLe.bool rfl (by simp_all), rfl⟩ | exact ⟨SLe.sl rfl (by simp_all), rfl⟩), trivial⟩⟩, trivial⟩ ⟨⟨_, rfl, rfl⟩, trivial⟩ rfl rfl rfl rfl rfl
            · rintro line hln
              refine AC.seq ?_
              refine AC.seq ?_
              refine AC.region ?_
              first | refine AO.pure (PureOp.moveD (SLe.eq rfl)) rfl rfl ?_ | refine AO.pure (PureOp.moveB (SLe.eq rfl)) rfl rfl ?_ | refine AO.pure (PureOp.moveT (SLe.eq rfl)) rfl rfl ?_ | refine AO.pure (PureOp.moveO (SLe.eq rfl)) rfl rfl ?_ | refine AO.pure (PureOp.moveP (SLe.eq rfl)) rfl rfl ?_ | refine AO.pure (PureOp.moveA (SLe.eq rfl)) rfl rfl ?_
              refine AO.pure (PureOp.lss (SLe.eq rfl) (SLe.eq rfl)) rfl rfl ?_
              refine AO.nil ?_
              refine thenQ_normal ?_
              refine AC.cond (SLe.eq rfl) (fun hb => ?_) (fun hb => ?_)
              · skip
                have hl3 : line < 3 := by have := of_decide_eq_true hb; omega
                refine AC.skip ?_
                refine thenQ_normal ?_
                refine AC.seq ?_
                refine AC.block ?_
                refine AC.seq ?_
                refine AC.region ?_
                first | refine AO.pure (PureOp.moveD (SLe.eq rfl)) rfl rfl ?_ | refine AO.pure (PureOp.moveB (SLe.eq rfl)) rfl rfl ?_ | refine AO.pure (PureOp.moveT (SLe.eq rfl)) rfl rfl ?_ | refine AO.pure (PureOp.moveO (SLe.eq rfl)) rfl rfl ?_ | refine AO.pure (PureOp.moveP (SLe.eq rfl)) rfl rfl ?_ | refine AO.pure (PureOp.moveA (SLe.eq rfl)) rfl rfl ?_
                first | refine AO.pure (PureOp.moveD (SLe.eq rfl)) rfl rfl ?_ | refine AO.pure (PureOp.moveB (SLe.eq rfl)) rfl rfl ?_ | refine AO.pure (PureOp.moveT (SLe.eq rfl)) rfl rfl ?_ | refine AO.pure (PureOp.moveO (SLe.eq rfl)) rfl rfl ?_ | refine AO.pure (PureOp.moveP (SLe.eq rfl)) rfl rfl ?_ | refine AO.pure (PureOp.moveA (SLe.eq rfl)) rfl rfl ?_
                first | refine AO.pure (PureOp.moveD (SLe.eq rfl)) rfl rfl ?_ | refine AO.pure (PureOp.moveB (SLe.eq rfl)) rfl rfl ?_ | refine AO.pure (PureOp.moveT (SLe.eq rfl)) rfl rfl ?_ | refine AO.pure (PureOp.moveO (SLe.eq rfl)) rfl rfl ?_ | refine AO.pure (PureOp.moveP (SLe.eq rfl)) rfl rfl ?_ | refine AO.pure (PureOp.moveA (SLe.eq rfl)) rfl rfl ?_
                refine AO.pure (PureOp.pcall (.cons (SLe.eq rfl) (by first | exact .d _ | exact View.osr rfl rfl | exact .bx rfl rfl | exact .agg (by repeat (first | exact .nil | refine .cons (by first | exact .d _ | exact View.osr rfl rfl) ?_)) | exact .fn (by repeat (first | exact .nil | refine .cons (by first | exact .d _ | exact View.osr rfl rfl | exact .bx rfl rfl) ?_))) (.cons (SLe.eq rfl) (by first | exact .d _ | exact View.osr rfl rfl | exact .bx rfl rfl | exact .agg (by repeat (first | exact .nil | refine .cons (by first | exact .d _ | exact View.osr rfl rfl) ?_)) | exact .fn (by repeat (first | exact .nil | refine .cons (by first | exact .d _ | exact View.osr rfl rfl | exact .bx rfl rfl) ?_))) (.cons (SLe.eq rfl) (by first | exact .d _ | exact View.osr rfl rfl | exact .bx rfl rfl | exact .agg (by repeat (first | exact .nil | refine .cons (by first | exact .d _ | exact View.osr rfl rfl) ?_)) | exact .fn (by repeat (first | exact .nil | refine .cons (by first | exact .d _ | exact View.osr rfl rfl | exact .bx rfl rfl) ?_))) .nil))) (line_any l f line hb1) (by kernel_rfl)) rfl rfl ?_
                refine AO.alloc (z := .agg #[.int .i64 0, .int .i64 0, .int .i64 0]) (by kernel_rfl) rfl rfl rfl ?_
                refine AO.store (SLe.eq rfl) (SLe.eq rfl) rfl rfl rfl rfl rfl (by kernel_rfl) rfl rfl ?_
                refine AO.nil ?_
                refine thenQ_normal ?_
                refine AC.seq ?_
                refine AC.seq ?_
                refine AC.region ?_
                first | refine AO.pure (PureOp.moveD (SLe.eq rfl)) rfl rfl ?_ | refine AO.pure (PureOp.moveB (SLe.eq rfl)) rfl rfl ?_ | refine AO.pure (PureOp.moveT (SLe.eq rfl)) rfl rfl ?_ | refine AO.pure (PureOp.moveO (SLe.eq rfl)) rfl rfl ?_ | refine AO.pure (PureOp.moveP (SLe.eq rfl)) rfl rfl ?_ | refine AO.pure (PureOp.moveA (SLe.eq rfl)) rfl rfl ?_
                first | refine AO.pure (PureOp.fldB (k := 1) (SLe.eq rfl) (by kernel_rfl)) rfl rfl ?_ | refine AO.pure (PureOp.fld (k := 1) (SLe.eq rfl) (by kernel_rfl)) rfl rfl ?_ | refine AO.pure (PureOp.fldO (k := 1) (SLe.eq rfl) (by kernel_rfl)) rfl rfl ?_
                first | refine AO.pure (PureOp.loadB1 (SLe.eq rfl) rfl rfl (by kernel_rfl)) rfl rfl ?_ | refine AO.pure (PureOp.load1 (SLe.eq rfl) rfl (by kernel_rfl)) rfl rfl ?_ | refine AO.pure (PureOp.loadO1 (i := _) (j := _) (SLe.eq rfl) rfl rfl (by assumption) rfl (by kernel_rfl)) rfl rfl ?_
                refine AO.pure (PureOp.eql (SLe.eq rfl) (SLe.eq rfl)) rfl rfl ?_
                first | refine AO.pure (PureOp.moveD (SLe.eq rfl)) rfl rfl ?_ | refine AO.pure (PureOp.moveB (SLe.eq rfl)) rfl rfl ?_ | refine AO.pure (PureOp.moveT (SLe.eq rfl)) rfl rfl ?_ | refine AO.pure (PureOp.moveO (SLe.eq rfl)) rfl rfl ?_ | refine AO.pure (PureOp.moveP (SLe.eq rfl)) rfl rfl ?_ | refine AO.pure (PureOp.moveA (SLe.eq rfl)) rfl rfl ?_
                first | refine AO.guarded rfl rfl (fun hG => PureOp.moveD (SLe.eq rfl)) rfl rfl ?_ | refine AO.guarded rfl rfl (fun hG => PureOp.moveB (SLe.eq rfl)) rfl rfl ?_ | refine AO.guarded rfl rfl (fun hG => PureOp.moveT (SLe.eq rfl)) rfl rfl ?_ | refine AO.guarded rfl rfl (fun hG => PureOp.moveO (SLe.eq rfl)) rfl rfl ?_ | refine AO.guarded rfl rfl (fun hG => PureOp.moveP (SLe.eq rfl)) rfl rfl ?_ | refine AO.guarded rfl rfl (fun hG => PureOp.moveA (SLe.eq rfl)) rfl rfl ?_
                first | refine AO.guarded rfl rfl (fun hG => PureOp.fldB (k := 4) (SLe.eq rfl) (by kernel_rfl)) rfl rfl ?_ | refine AO.guarded rfl rfl (fun hG => PureOp.fld (k := 4) (SLe.eq rfl) (by kernel_rfl)) rfl rfl ?_ | refine AO.guarded rfl rfl (fun hG => PureOp.fldO (k := 4) (SLe.eq rfl) (by kernel_rfl)) rfl rfl ?_
                first | refine AO.guarded rfl rfl (fun hG => PureOp.loadB1 (SLe.cnd rfl (by first | exact hG | (simp only [Bool.and_eq_true, beq_iff_eq] at hG ⊢; simp [hG]) | simp_all)) rfl rfl (by kernel_rfl)) rfl rfl ?_ | refine AO.guarded rfl rfl (fun hG => PureOp.load1 (SLe.cnd rfl (by first | exact hG | (simp only [Bool.and_eq_true, beq_iff_eq] at hG ⊢; simp [hG]) | simp_all)) rfl (by kernel_rfl)) rfl rfl ?_ | refine AO.guarded rfl rfl (fun hG => PureOp.loadO1 (i := _) (j := _) (SLe.cnd rfl (by first | exact hG | (simp only [Bool.and_eq_true, beq_iff_eq] at hG ⊢; simp [hG]) | simp_all)) rfl rfl (by assumption) rfl (by kernel_rfl)) rfl rfl ?_
                refine AO.guarded rfl rfl (fun hG => PureOp.eql (SLe.cnd rfl (by first | exact hG | (simp only [Bool.and_eq_true, beq_iff_eq] at hG ⊢; simp [hG]) | simp_all)) (SLe.cnd rfl (by first | exact hG | (simp only [Bool.and_eq_true, beq_iff_eq] at hG ⊢; simp [hG]) | simp_all))) rfl rfl ?_
                refine AO.pure (PureOp.pickAnd (SLe.eq rfl) rfl rfl (by intro h; first | (simp_all; done) | (simp_all; exact Decidable.imp_iff_not_or.1 (by assumption)))) rfl rfl ?_
                refine AO.nil ?_
                refine thenQ_normal ?_
                refine AC.cond (SLe.eq rfl) (fun hb => ?_) (fun hb => ?_)
                · skip
                  have h74 := hb
                  refine AC.region ?_
                  first | refine AO.pure (PureOp.fldB (k := 3) (SLe.eq rfl) (by kernel_rfl)) rfl rfl ?_ | refine AO.pure (PureOp.fld (k := 3) (SLe.eq rfl) (by kernel_rfl)) rfl rfl ?_ | refine AO.pure (PureOp.fldO (k := 3) (SLe.eq rfl) (by kernel_rfl)) rfl rfl ?_
                  first | refine AO.pure (PureOp.loadB1 (SLe.eq rfl) rfl rfl (by kernel_rfl)) rfl rfl ?_ | refine AO.pure (PureOp.load1 (SLe.eq rfl) rfl (by kernel_rfl)) rfl rfl ?_ | refine AO.pure (PureOp.loadO1 (i := _) (j := _) (SLe.eq rfl) rfl rfl (by assumption) rfl (by kernel_rfl)) rfl rfl ?_
                  first | refine AO.pure (PureOp.fldB (k := 5) (SLe.eq rfl) (by kernel_rfl)) rfl rfl ?_ | refine AO.pure (PureOp.fld (k := 5) (SLe.eq rfl) (by kernel_rfl)) rfl rfl ?_ | refine AO.pure (PureOp.fldO (k := 5) (SLe.eq rfl) (by kernel_rfl)) rfl rfl ?_
                  first | refine AO.pure (PureOp.loadBN (sz := 2) (SLe.eq rfl) rfl rfl rfl rfl (by kernel_rfl)) rfl rfl ?_ | refine AO.pure (PureOp.loadN (sz := 2) (SLe.eq rfl) rfl rfl (by kernel_rfl)) rfl rfl ?_ | refine AO.pure (PureOp.loadON (sz := 2) (i := _) (SLe.eq rfl) rfl rfl (by assumption) rfl (by kernel_rfl)) rfl rfl ?_ | refine AO.pure (PureOp.loadBS (sz := 2) (SLe.eq rfl) rfl rfl rfl (by kernel_rfl)) rfl rfl ?_
                  first | refine AO.pure (PureOp.build (z := .agg #[.int .i64 0, .int .i64 0, .int .i64 0]) (pl := [(0, 1), (1, 2)]) (by kernel_rfl) rfl (by kernel_rfl) (.cons (SLe.eq rfl) rfl (.cons (SLe.eq rfl) rfl .nil)) rfl rfl) rfl rfl ?_ | refine AO.pure (PureOp.buildS (z := .agg #[.int .i64 0, .int .i64 0, .int .i64 0]) (pl := [(0, 1), (1, 2)]) (by kernel_rfl) rfl (by kernel_rfl) (.cons (SLe.eq rfl) rfl (.cons (SLe.eq rfl) rfl .nil)) rfl) rfl rfl ?_
                  refine AO.store (SLe.eq rfl) (SLe.eq rfl) rfl rfl rfl rfl rfl (by kernel_rfl) rfl rfl ?_
                  refine AO.nil ?_
                  refine thenQ_normal ?_
                  refine AC.seq ?_
                  refine AC.seq ?_
                  refine AC.region ?_
                  first | refine AO.pure (PureOp.moveD (SLe.eq rfl)) rfl rfl ?_ | refine AO.pure (PureOp.moveB (SLe.eq rfl)) rfl rfl ?_ | refine AO.pure (PureOp.moveT (SLe.eq rfl)) rfl rfl ?_ | refine AO.pure (PureOp.moveO (SLe.eq rfl)) rfl rfl ?_ | refine AO.pure (PureOp.moveP (SLe.eq rfl)) rfl rfl ?_ | refine AO.pure (PureOp.moveA (SLe.eq rfl)) rfl rfl ?_
                  refine AO.nil ?_
                  refine thenQ_normal ?_
                  refine AC.cond (SLe.eq rfl) (fun hb => ?_) (fun hb => ?_)
                  · skip
                    have h80 := hb
                    refine AC.region ?_
                    first | refine AO.pure (PureOp.build (z := .agg #[.int .i64 0, .int .i64 0, .int .i64 0]) (pl := [(0, 1), (1, 2)]) (by kernel_rfl) rfl (by kernel_rfl) (.cons (SLe.eq rfl) rfl .nil) rfl rfl) rfl rfl ?_ | refine AO.pure (PureOp.buildS (z := .agg #[.int .i64 0, .int .i64 0, .int .i64 0]) (pl := [(0, 1), (1, 2)]) (by kernel_rfl) rfl (by kernel_rfl) (.cons (SLe.eq rfl) rfl .nil) rfl) rfl rfl ?_
                    refine AO.store (SLe.eq rfl) (SLe.eq rfl) rfl rfl rfl rfl rfl (by kernel_rfl) rfl rfl ?_
                    refine AO.nil ?_
                    refine thenQ_normal ?_
                    refine AC.seq ?_
                    -- DRAWN region 24
                    refine AC.drawN 6 [] (by kernel_rfl) (by kernel_rfl) (by kernel_rfl) .nil (by kernel_rfl) ?_
                    first | refine PSeqN.pure (PureOp.moveD (SLe.eq rfl)) rfl rfl ?_ | refine PSeqN.pure (PureOp.moveB (SLe.eq rfl)) rfl rfl ?_ | refine PSeqN.pure (PureOp.moveT (SLe.eq rfl)) rfl rfl ?_ | refine PSeqN.pure (PureOp.moveO (SLe.eq rfl)) rfl rfl ?_ | refine PSeqN.pure (PureOp.moveP (SLe.eq rfl)) rfl rfl ?_ | refine PSeqN.pure (PureOp.moveA (SLe.eq rfl)) rfl rfl ?_
                    first | refine PSeqN.pure (PureOp.moveD (SLe.eq rfl)) rfl rfl ?_ | refine PSeqN.pure (PureOp.moveB (SLe.eq rfl)) rfl rfl ?_ | refine PSeqN.pure (PureOp.moveT (SLe.eq rfl)) rfl rfl ?_ | refine PSeqN.pure (PureOp.moveO (SLe.eq rfl)) rfl rfl ?_ | refine PSeqN.pure (PureOp.moveP (SLe.eq rfl)) rfl rfl ?_ | refine PSeqN.pure (PureOp.moveA (SLe.eq rfl)) rfl rfl ?_
                    first | refine PSeqN.pure (PureOp.moveD (SLe.eq rfl)) rfl rfl ?_ | refine PSeqN.pure (PureOp.moveB (SLe.eq rfl)) rfl rfl ?_ | refine PSeqN.pure (PureOp.moveT (SLe.eq rfl)) rfl rfl ?_ | refine PSeqN.pure (PureOp.moveO (SLe.eq rfl)) rfl rfl ?_ | refine PSeqN.pure (PureOp.moveP (SLe.eq rfl)) rfl rfl ?_ | refine PSeqN.pure (PureOp.moveA (SLe.eq rfl)) rfl rfl ?_
                    refine PSeqN.pure (PureOp.pcall (.cons (SLe.eq rfl) (by first | exact .d _ | exact View.osr rfl rfl | exact .bx rfl rfl | exact .agg (by repeat (first | exact .nil | refine .cons (by first | exact .d _ | exact View.osr rfl rfl) ?_)) | exact .fn (by repeat (first | exact .nil | refine .cons (by first | exact .d _ | exact View.osr rfl rfl | exact .bx rfl rfl) ?_))) (.cons (SLe.eq rfl) (by first | exact .d _ | exact View.osr rfl rfl | exact .bx rfl rfl | exact .agg (by repeat (first | exact .nil | refine .cons (by first | exact .d _ | exact View.osr rfl rfl) ?_)) | exact .fn (by repeat (first | exact .nil | refine .cons (by first | exact .d _ | exact View.osr rfl rfl | exact .bx rfl rfl) ?_))) (.cons (SLe.eq rfl) (by first | exact .d _ | exact View.osr rfl rfl | exact .bx rfl rfl | exact .agg (by repeat (first | exact .nil | refine .cons (by first | exact .d _ | exact View.osr rfl rfl) ?_)) | exact .fn (by repeat (first | exact .nil | refine .cons (by first | exact .d _ | exact View.osr rfl rfl | exact .bx rfl rfl) ?_))) .nil))) (line_any ((⟨100, xf, 50, xk, xl, ma, mb⟩ : Rep) :: l) f line hb2) (by kernel_rfl)) rfl rfl ?_
                    first | refine PSeqN.pure (PureOp.loadBN (sz := 3) (SLe.eq rfl) rfl rfl rfl rfl (by kernel_rfl)) rfl rfl ?_ | refine PSeqN.pure (PureOp.loadN (sz := 3) (SLe.eq rfl) rfl rfl (by kernel_rfl)) rfl rfl ?_ | refine PSeqN.pure (PureOp.loadON (sz := 3) (i := _) (SLe.eq rfl) rfl rfl (by assumption) rfl (by kernel_rfl)) rfl rfl ?_ | refine PSeqN.pure (PureOp.loadBS (sz := 3) (SLe.eq rfl) rfl rfl rfl (by kernel_rfl)) rfl rfl ?_
                    refine PSeqN.pure (PureOp.neqA (ks := [false, false, false]) (by kernel_rfl) (SLe.eq rfl) (SLe.eq rfl) rfl) rfl rfl ?_
                    refine PSeqN.nil ?_
                    refine AO.nil ?_
                    refine thenQ_normal ?_
                    refine AC.cond (SLe.eq rfl) (fun hb => ?_) (fun hb => ?_)
                    · skip
                      rw [hlate f line, h80, h74] at hb
                      simp at hb
                    · skip
                      refine AC.skip ?_
                      refine blockQ_normal ?_
                      refine thenQ_normal ?_
                      refine AC.region ?_
                      first | refine AO.pure (PureOp.moveD (SLe.eq rfl)) rfl rfl ?_ | refine AO.pure (PureOp.moveB (SLe.eq rfl)) rfl rfl ?_ | refine AO.pure (PureOp.moveT (SLe.eq rfl)) rfl rfl ?_ | refine AO.pure (PureOp.moveO (SLe.eq rfl)) rfl rfl ?_ | refine AO.pure (PureOp.moveP (SLe.eq rfl)) rfl rfl ?_ | refine AO.pure (PureOp.moveA (SLe.eq rfl)) rfl rfl ?_
                      refine AO.pure (PureOp.add (SLe.eq rfl) (SLe.eq rfl) (by omega) (by omega)) rfl rfl ?_
                      first | refine AO.pure (PureOp.assignD (SLe.eq rfl)) rfl rfl ?_ | refine AO.pure (PureOp.assignB (SLe.eq rfl)) rfl rfl ?_ | refine AO.pure (PureOp.assignT (SLe.eq rfl)) rfl rfl ?_ | refine AO.pure (PureOp.assignO (SLe.eq rfl)) rfl rfl ?_ | refine AO.pure (PureOp.assignP (SLe.eq rfl)) rfl rfl ?_ | refine AO.pure (PureOp.assignA (SLe.eq rfl)) rfl rfl ?_
                      refine AO.nil ?_
                      refine thenQ_normal ?_
                      refine ⟨line + 1, (by omega), (by omega), ?_⟩
                      refine Le.mk [(0, 0)] ⟨(by first | exact ⟨SLe.eq rfl, rfl⟩ | exact rfl | exact ⟨SLe.nil rfl, rfl⟩ | exact ⟨SLe.int rfl (by omega), rfl⟩ | exact ⟨SLe.bool rfl (by simp_all), rfl⟩ | exact ⟨SLe.sl rfl (by simp_all), rfl⟩), (by first | exact ⟨SLe.eq rfl, rfl⟩ | exact rfl | exact ⟨SLe.nil rfl, rfl⟩ | exact ⟨SLe.int rfl (by omega), rfl⟩ | exact ⟨SLe.bool rfl (by simp_all), rfl⟩ | exact ⟨SLe.sl rfl (by simp_all), rfl⟩), (by first | exact ⟨SLe.eq rfl, rfl⟩ | exact rfl | exact ⟨SLe.nil rfl, rfl⟩ | exact ⟨SLe.int rfl (by omega), rfl⟩ | exact ⟨SLe.bool rfl (by simp_all), rfl⟩ | exact ⟨SLe.sl rfl (by simp_all), rfl⟩), (by first | exact ⟨SLe.eq rfl, rfl⟩ | exact rfl | exact ⟨SLe.nil rfl, rfl⟩ | exact ⟨SLe.int rfl (by omega), rfl⟩ | exact ⟨SLe.bool rfl (by simp_all), rfl⟩ | exact ⟨SLe.sl rfl (by simp_all), rfl⟩), (by first | exact ⟨SLe.eq rfl, rfl⟩ | exact rfl | exact ⟨SLe.nil rfl, rfl⟩ | exact ⟨SLe.int rfl (by omega), rfl⟩ | exact ⟨SLe.bool rfl (by simp_all), rfl⟩ | exact ⟨SLe.sl rfl (by simp_all), rfl⟩), (by first | exact ⟨SLe.eq rfl, rfl⟩ | exact rfl | exact ⟨SLe.nil rfl, rfl⟩ | exact ⟨SLe.int rfl (by omega), rfl⟩ | exact ⟨SLe.bool rfl (by simp_all), rfl⟩ | exact ⟨SLe.sl rfl (by simp_all), rfl⟩), trivial⟩ ⟨⟨_, rfl, ⟨(by first | exact ⟨SLe.eq rfl, rfl⟩ | exact rfl | exact ⟨SLe.nil rfl, rfl⟩ | exact ⟨SLe.int rfl (by omega), rfl⟩ | exact ⟨SLe.bool rfl (by simp_all), rfl⟩ | exact ⟨SLe.sl rfl (by simp_all), rfl⟩), (by first | exact ⟨SLe.eq rfl, rfl⟩ | exact rfl | exact ⟨SLe.nil rfl, rfl⟩ | exact ⟨SLe.int rfl (by omega), rfl⟩ | exact ⟨SLe.bool rfl (by simp_all), rfl⟩ | exact ⟨SLe.sl rfl (by simp_all), rfl⟩), (by first | exact ⟨SLe.eq rfl, rfl⟩ | exact rfl | exact ⟨SLe.nil rfl, rfl⟩ | exact ⟨SLe.int rfl (by omega), rfl⟩ | exact ⟨SLe.bool rfl (by simp_all), rfl⟩ | exact ⟨SLe.sl rfl (by simp_all), rfl⟩), (by first | exact ⟨SLe.eq rfl, rfl⟩ | exact rfl | exact ⟨SLe.nil rfl, rfl⟩ | exact ⟨SLe.int rfl (by omega), rfl⟩ | exact ⟨SLe.bool rfl (by simp_all), rfl⟩ | exact ⟨SLe.sl rfl (by simp_all), rfl⟩), (by first | exact ⟨SLe.eq rfl, rfl⟩ | exact rfl | exact ⟨SLe.nil rfl, rfl⟩ | exact ⟨SLe.int rfl (by omega), rfl⟩ | exact ⟨SLe.bool rfl (by simp_all), rfl⟩ | exact ⟨SLe.sl rfl (by simp_all), rfl⟩), (by first | exact ⟨SLe.eq rfl, rfl⟩ | exact rfl | exact ⟨SLe.nil rfl, rfl⟩ | exact ⟨SLe.int rfl (by omega), rfl⟩ | exact ⟨SLe.bool rfl (by simp_all), rfl⟩ | exact ⟨SLe.sl rfl (by simp_all), rfl⟩), (by first | exact ⟨SLe.eq rfl, rfl⟩ | exact rfl | exact ⟨SLe.nil rfl, rfl⟩ | exact ⟨SLe.int rfl (by omega), rfl⟩ | exact ⟨SLe.bool rfl (by simp_all), rfl⟩ | exact ⟨SLe.sl rfl (by simp_all), rfl⟩), trivial⟩⟩, trivial⟩ ⟨⟨_, rfl, rfl⟩, trivial⟩ rfl rfl rfl rfl rfl
                  · skip
                    have h80 := hb
                    refine AC.skip ?_
                    refine thenQ_normal ?_
                    refine AC.seq ?_
                    -- DRAWN region 24
                    refine AC.drawN 6 [] (by kernel_rfl) (by kernel_rfl) (by kernel_rfl) .nil (by kernel_rfl) ?_
                    first | refine PSeqN.pure (PureOp.moveD (SLe.eq rfl)) rfl rfl ?_ | refine PSeqN.pure (PureOp.moveB (SLe.eq rfl)) rfl rfl ?_ | refine PSeqN.pure (PureOp.moveT (SLe.eq rfl)) rfl rfl ?_ | refine PSeqN.pure (PureOp.moveO (SLe.eq rfl)) rfl rfl ?_ | refine PSeqN.pure (PureOp.moveP (SLe.eq rfl)) rfl rfl ?_ | refine PSeqN.pure (PureOp.moveA (SLe.eq rfl)) rfl rfl ?_
                    first | refine PSeqN.pure (PureOp.moveD (SLe.eq rfl)) rfl rfl ?_ | refine PSeqN.pure (PureOp.moveB (SLe.eq rfl)) rfl rfl ?_ | refine PSeqN.pure (PureOp.moveT (SLe.eq rfl)) rfl rfl ?_ | refine PSeqN.pure (PureOp.moveO (SLe.eq rfl)) rfl rfl ?_ | refine PSeqN.pure (PureOp.moveP (SLe.eq rfl)) rfl rfl ?_ | refine PSeqN.pure (PureOp.moveA (SLe.eq rfl)) rfl rfl ?_
                    first | refine PSeqN.pure (PureOp.moveD (SLe.eq rfl)) rfl rfl ?_ | refine PSeqN.pure (PureOp.moveB (SLe.eq rfl)) rfl rfl ?_ | refine PSeqN.pure (PureOp.moveT (SLe.eq rfl)) rfl rfl ?_ | refine PSeqN.pure (PureOp.moveO (SLe.eq rfl)) rfl rfl ?_ | refine PSeqN.pure (PureOp.moveP (SLe.eq rfl)) rfl rfl ?_ | refine PSeqN.pure (PureOp.moveA (SLe.eq rfl)) rfl rfl ?_
                    refine PSeqN.pure (PureOp.pcall (.cons (SLe.eq rfl) (by first | exact .d _ | exact View.osr rfl rfl | exact .bx rfl rfl | exact .agg (by repeat (first | exact .nil | refine .cons (by first | exact .d _ | exact View.osr rfl rfl) ?_)) | exact .fn (by repeat (first | exact .nil | refine .cons (by first | exact .d _ | exact View.osr rfl rfl | exact .bx rfl rfl) ?_))) (.cons (SLe.eq rfl) (by first | exact .d _ | exact View.osr rfl rfl | exact .bx rfl rfl | exact .agg (by repeat (first | exact .nil | refine .cons (by first | exact .d _ | exact View.osr rfl rfl) ?_)) | exact .fn (by repeat (first | exact .nil | refine .cons (by first | exact .d _ | exact View.osr rfl rfl | exact .bx rfl rfl) ?_))) (.cons (SLe.eq rfl) (by first | exact .d _ | exact View.osr rfl rfl | exact .bx rfl rfl | exact .agg (by repeat (first | exact .nil | refine .cons (by first | exact .d _ | exact View.osr rfl rfl) ?_)) | exact .fn (by repeat (first | exact .nil | refine .cons (by first | exact .d _ | exact View.osr rfl rfl | exact .bx rfl rfl) ?_))) .nil))) (line_any ((⟨100, xf, 50, xk, xl, ma, mb⟩ : Rep) :: l) f line hb2) (by kernel_rfl)) rfl rfl ?_
                    first | refine PSeqN.pure (PureOp.loadBN (sz := 3) (SLe.eq rfl) rfl rfl rfl rfl (by kernel_rfl)) rfl rfl ?_ | refine PSeqN.pure (PureOp.loadN (sz := 3) (SLe.eq rfl) rfl rfl (by kernel_rfl)) rfl rfl ?_ | refine PSeqN.pure (PureOp.loadON (sz := 3) (i := _) (SLe.eq rfl) rfl rfl (by assumption) rfl (by kernel_rfl)) rfl rfl ?_ | refine PSeqN.pure (PureOp.loadBS (sz := 3) (SLe.eq rfl) rfl rfl rfl (by kernel_rfl)) rfl rfl ?_
                    refine PSeqN.pure (PureOp.neqA (ks := [false, false, false]) (by kernel_rfl) (SLe.eq rfl) (SLe.eq rfl) rfl) rfl rfl ?_
                    refine PSeqN.nil ?_
                    refine AO.nil ?_
                    refine thenQ_normal ?_
                    refine AC.cond (SLe.eq rfl) (fun hb => ?_) (fun hb => ?_)
                    · skip
                      rw [hlate f line, h80, h74] at hb
                      simp at hb
                    · skip
                      refine AC.skip ?_
                      refine blockQ_normal ?_
                      refine thenQ_normal ?_
                      refine AC.region ?_
                      first | refine AO.pure (PureOp.moveD (SLe.eq rfl)) rfl rfl ?_ | refine AO.pure (PureOp.moveB (SLe.eq rfl)) rfl rfl ?_ | refine AO.pure (PureOp.moveT (SLe.eq rfl)) rfl rfl ?_ | refine AO.pure (PureOp.moveO (SLe.eq rfl)) rfl rfl ?_ | refine AO.pure (PureOp.moveP (SLe.eq rfl)) rfl rfl ?_ | refine AO.pure (PureOp.moveA (SLe.eq rfl)) rfl rfl ?_
                      refine AO.pure (PureOp.add (SLe.eq rfl) (SLe.eq rfl) (by omega) (by omega)) rfl rfl ?_
                      first | refine AO.pure (PureOp.assignD (SLe.eq rfl)) rfl rfl ?_ | refine AO.pure (PureOp.assignB (SLe.eq rfl)) rfl rfl ?_ | refine AO.pure (PureOp.assignT (SLe.eq rfl)) rfl rfl ?_ | refine AO.pure (PureOp.assignO (SLe.eq rfl)) rfl rfl ?_ | refine AO.pure (PureOp.assignP (SLe.eq rfl)) rfl rfl ?_ | refine AO.pure (PureOp.assignA (SLe.eq rfl)) rfl rfl ?_
                      refine AO.nil ?_
                      refine thenQ_normal ?_
                      refine ⟨line + 1, (by omega), (by omega), ?_⟩
                      refine Le.mk [(0, 0)] ⟨(by first | exact ⟨SLe.eq rfl, rfl⟩ | exact rfl | exact ⟨SLe.nil rfl, rfl⟩ | exact ⟨SLe.int rfl (by omega), rfl⟩ | exact ⟨SLe.bool rfl (by simp_all), rfl⟩ | exact ⟨SLe.sl rfl (by simp_all), rfl⟩), (by first | exact ⟨SLe.eq rfl, rfl⟩ | exact rfl | exact ⟨SLe.nil rfl, rfl⟩ | exact ⟨SLe.int rfl (by omega), rfl⟩ | exact ⟨SLe.bool rfl (by simp_all), rfl⟩ | exact ⟨SLe.sl rfl (by simp_all), rfl⟩), (by first | exact ⟨SLe.eq rfl, rfl⟩ | exact rfl | exact ⟨SLe.nil rfl, rfl⟩ | exact ⟨SLe.int rfl (by omega), rfl⟩ | exact ⟨SLe.bool rfl (by simp_all), rfl⟩ | exact ⟨SLe.sl rfl (by simp_all), rfl⟩), (by first | exact ⟨SLe.eq rfl, rfl⟩ | exact rfl | exact ⟨SLe.nil rfl, rfl⟩ | exact ⟨SLe.int rfl (by omega), rfl⟩ | exact ⟨SLe.bool rfl (by simp_all), rfl⟩ | exact ⟨SLe.sl rfl (by simp_all), rfl⟩), (by first | exact ⟨SLe.eq rfl, rfl⟩ | exact rfl | exact ⟨SLe.nil rfl, rfl⟩ | exact ⟨SLe.int rfl (by omega), rfl⟩ | exact ⟨SLe.bool rfl (by simp_all), rfl⟩ | exact ⟨SLe.sl rfl (by simp_all), rfl⟩), (by first | exact ⟨SLe.eq rfl, rfl⟩ | exact rfl | exact ⟨SLe.nil rfl, rfl⟩ | exact ⟨SLe.int rfl (by omega), rfl⟩ | exact ⟨SLe.bool rfl (by simp_all), rfl⟩ | exact ⟨SLe.sl rfl (by simp_all), rfl⟩), trivial⟩ ⟨⟨_, rfl, ⟨(by first | exact ⟨SLe.eq rfl, rfl⟩ | exact rfl | exact ⟨SLe.nil rfl, rfl⟩ | exact ⟨SLe.int rfl (by omega), rfl⟩ | exact ⟨SLe.bool rfl (by simp_all), rfl⟩ | exact ⟨SLe.sl rfl (by simp_all), rfl⟩), (by first | exact ⟨SLe.eq rfl, rfl⟩ | exact rfl | exact ⟨SLe.nil rfl, rfl⟩ | exact ⟨SLe.int rfl (by omega), rfl⟩ | exact ⟨SLe.bool rfl (by simp_all), rfl⟩ | exact ⟨SLe.sl rfl (by simp_all), rfl⟩), (by first | exact ⟨SLe.eq rfl, rfl⟩ | exact rfl | exact ⟨SLe.nil rfl, rfl⟩ | exact ⟨SLe.int rfl (by omega), rfl⟩ | exact ⟨SLe.bool rfl (by simp_all), rfl⟩ | exact ⟨SLe.sl rfl (by simp_all), rfl⟩), (by first | exact ⟨SLe.eq rfl, rfl⟩ | exact rfl | exact ⟨SLe.nil rfl, rfl⟩ | exact ⟨SLe.int rfl (by omega), rfl⟩ | exact ⟨SLe.bool rfl (by simp_all), rfl⟩ | exact ⟨SLe.sl rfl (by simp_all), rfl⟩), (by first | exact ⟨SLe.eq rfl, rfl⟩ | exact rfl | exact ⟨SLe.nil rfl, rfl⟩ | exact ⟨SLe.int rfl (by omega), rfl⟩ | exact ⟨SLe.bool rfl (by simp_all), rfl⟩ | exact ⟨SLe.sl rfl (by simp_all), rfl⟩), (by first | exact ⟨SLe.eq rfl, rfl⟩ | exact rfl | exact ⟨SLe.nil rfl, rfl⟩ | exact ⟨SLe.int rfl (by omega), rfl⟩ | exact ⟨SLe.bool rfl (by simp_all), rfl⟩ | exact ⟨SLe.sl rfl (by simp_all), rfl⟩), (by first | exact ⟨SLe.eq rfl, rfl⟩ | exact rfl | exact ⟨SLe.nil rfl, rfl⟩ | exact ⟨SLe.int rfl (by omega), rfl⟩ | exact ⟨SLe.bool rfl (by simp_all), rfl⟩ | exact ⟨SLe.sl rfl (by simp_all), rfl⟩), trivial⟩⟩, trivial⟩ ⟨⟨_, rfl, rfl⟩, trivial⟩ rfl rfl rfl rfl rfl
                · skip
                  have h74 := hb
                  refine AC.skip ?_
                  refine thenQ_normal ?_
                  refine AC.seq ?_
                  refine AC.seq ?_
                  refine AC.region ?_
                  first | refine AO.pure (PureOp.moveD (SLe.eq rfl)) rfl rfl ?_ | refine AO.pure (PureOp.moveB (SLe.eq rfl)) rfl rfl ?_ | refine AO.pure (PureOp.moveT (SLe.eq rfl)) rfl rfl ?_ | refine AO.pure (PureOp.moveO (SLe.eq rfl)) rfl rfl ?_ | refine AO.pure (PureOp.moveP (SLe.eq rfl)) rfl rfl ?_ | refine AO.pure (PureOp.moveA (SLe.eq rfl)) rfl rfl ?_
                  refine AO.nil ?_
                  refine thenQ_normal ?_
                  refine AC.cond (SLe.eq rfl) (fun hb => ?_) (fun hb => ?_)
                  · skip
                    have h80 := hb
                    refine AC.region ?_
                    first | refine AO.pure (PureOp.build (z := .agg #[.int .i64 0, .int .i64 0, .int .i64 0]) (pl := [(0, 1), (1, 2)]) (by kernel_rfl) rfl (by kernel_rfl) (.cons (SLe.eq rfl) rfl .nil) rfl rfl) rfl rfl ?_ | refine AO.pure (PureOp.buildS (z := .agg #[.int .i64 0, .int .i64 0, .int .i64 0]) (pl := [(0, 1), (1, 2)]) (by kernel_rfl) rfl (by kernel_rfl) (.cons (SLe.eq rfl) rfl .nil) rfl) rfl rfl ?_
                    refine AO.store (SLe.eq rfl) (SLe.eq rfl) rfl rfl rfl rfl rfl (by kernel_rfl) rfl rfl ?_
                    refine AO.nil ?_
                    refine thenQ_normal ?_
                    refine AC.seq ?_
                    -- DRAWN region 24
                    refine AC.drawN 6 [] (by kernel_rfl) (by kernel_rfl) (by kernel_rfl) .nil (by kernel_rfl) ?_
                    first | refine PSeqN.pure (PureOp.moveD (SLe.eq rfl)) rfl rfl ?_ | refine PSeqN.pure (PureOp.moveB (SLe.eq rfl)) rfl rfl ?_ | refine PSeqN.pure (PureOp.moveT (SLe.eq rfl)) rfl rfl ?_ | refine PSeqN.pure (PureOp.moveO (SLe.eq rfl)) rfl rfl ?_ | refine PSeqN.pure (PureOp.moveP (SLe.eq rfl)) rfl rfl ?_ | refine PSeqN.pure (PureOp.moveA (SLe.eq rfl)) rfl rfl ?_
                    first | refine PSeqN.pure (PureOp.moveD (SLe.eq rfl)) rfl rfl ?_ | refine PSeqN.pure (PureOp.moveB (SLe.eq rfl)) rfl rfl ?_ | refine PSeqN.pure (PureOp.moveT (SLe.eq rfl)) rfl rfl ?_ | refine PSeqN.pure (PureOp.moveO (SLe.eq rfl)) rfl rfl ?_ | refine PSeqN.pure (PureOp.moveP (SLe.eq rfl)) rfl rfl ?_ | refine PSeqN.pure (PureOp.moveA (SLe.eq rfl)) rfl rfl ?_
                    first | refine PSeqN.pure (PureOp.moveD (SLe.eq rfl)) rfl rfl ?_ | refine PSeqN.pure (PureOp.moveB (SLe.eq rfl)) rfl rfl ?_ | refine PSeqN.pure (PureOp.moveT (SLe.eq rfl)) rfl rfl ?_ | refine PSeqN.pure (PureOp.moveO (SLe.eq rfl)) rfl rfl ?_ | refine PSeqN.pure (PureOp.moveP (SLe.eq rfl)) rfl rfl ?_ | refine PSeqN.pure (PureOp.moveA (SLe.eq rfl)) rfl rfl ?_
                    refine PSeqN.pure (PureOp.pcall (.cons (SLe.eq rfl) (by first | exact .d _ | exact View.osr rfl rfl | exact .bx rfl rfl | exact .agg (by repeat (first | exact .nil | refine .cons (by first | exact .d _ | exact View.osr rfl rfl) ?_)) | exact .fn (by repeat (first | exact .nil | refine .cons (by first | exact .d _ | exact View.osr rfl rfl | exact .bx rfl rfl) ?_))) (.cons (SLe.eq rfl) (by first | exact .d _ | exact View.osr rfl rfl | exact .bx rfl rfl | exact .agg (by repeat (first | exact .nil | refine .cons (by first | exact .d _ | exact View.osr rfl rfl) ?_)) | exact .fn (by repeat (first | exact .nil | refine .cons (by first | exact .d _ | exact View.osr rfl rfl | exact .bx rfl rfl) ?_))) (.cons (SLe.eq rfl) (by first | exact .d _ | exact View.osr rfl rfl | exact .bx rfl rfl | exact .agg (by repeat (first | exact .nil | refine .cons (by first | exact .d _ | exact View.osr rfl rfl) ?_)) | exact .fn (by repeat (first | exact .nil | refine .cons (by first | exact .d _ | exact View.osr rfl rfl | exact .bx rfl rfl) ?_))) .nil))) (line_any ((⟨100, xf, 50, xk, xl, ma, mb⟩ : Rep) :: l) f line hb2) (by kernel_rfl)) rfl rfl ?_
                    first | refine PSeqN.pure (PureOp.loadBN (sz := 3) (SLe.eq rfl) rfl rfl rfl rfl (by kernel_rfl)) rfl rfl ?_ | refine PSeqN.pure (PureOp.loadN (sz := 3) (SLe.eq rfl) rfl rfl (by kernel_rfl)) rfl rfl ?_ | refine PSeqN.pure (PureOp.loadON (sz := 3) (i := _) (SLe.eq rfl) rfl rfl (by assumption) rfl (by kernel_rfl)) rfl rfl ?_ | refine PSeqN.pure (PureOp.loadBS (sz := 3) (SLe.eq rfl) rfl rfl rfl (by kernel_rfl)) rfl rfl ?_
                    refine PSeqN.pure (PureOp.neqA (ks := [false, false, false]) (by kernel_rfl) (SLe.eq rfl) (SLe.eq rfl) rfl) rfl rfl ?_
                    refine PSeqN.nil ?_
                    refine AO.nil ?_
                    refine thenQ_normal ?_
                    refine AC.cond (SLe.eq rfl) (fun hb => ?_) (fun hb => ?_)
                    · skip
                      rw [hlate f line, h80, h74] at hb
                      simp at hb
                    · skip
                      refine AC.skip ?_
                      refine blockQ_normal ?_
                      refine thenQ_normal ?_
                      refine AC.region ?_
                      first | refine AO.pure (PureOp.moveD (SLe.eq rfl)) rfl rfl ?_ | refine AO.pure (PureOp.moveB (SLe.eq rfl)) rfl rfl ?_ | refine AO.pure (PureOp.moveT (SLe.eq rfl)) rfl rfl ?_ | refine AO.pure (PureOp.moveO (SLe.eq rfl)) rfl rfl ?_ | refine AO.pure (PureOp.moveP (SLe.eq rfl)) rfl rfl ?_ | refine AO.pure (PureOp.moveA (SLe.eq rfl)) rfl rfl ?_
                      refine AO.pure (PureOp.add (SLe.eq rfl) (SLe.eq rfl) (by omega) (by omega)) rfl rfl ?_
                      first | refine AO.pure (PureOp.assignD (SLe.eq rfl)) rfl rfl ?_ | refine AO.pure (PureOp.assignB (SLe.eq rfl)) rfl rfl ?_ | refine AO.pure (PureOp.assignT (SLe.eq rfl)) rfl rfl ?_ | refine AO.pure (PureOp.assignO (SLe.eq rfl)) rfl rfl ?_ | refine AO.pure (PureOp.assignP (SLe.eq rfl)) rfl rfl ?_ | refine AO.pure (PureOp.assignA (SLe.eq rfl)) rfl rfl ?_
                      refine AO.nil ?_
                      refine thenQ_normal ?_
                      refine ⟨line + 1, (by omega), (by omega), ?_⟩
                      refine Le.mk [(0, 0)] ⟨(by first | exact ⟨SLe.eq rfl, rfl⟩ | exact rfl | exact ⟨SLe.nil rfl, rfl⟩ | exact ⟨SLe.int rfl (by omega), rfl⟩ | exact ⟨SLe.bool rfl (by simp_all), rfl⟩ | exact ⟨SLe.sl rfl (by simp_all), rfl⟩), (by first | exact ⟨SLe.eq rfl, rfl⟩ | exact rfl | exact ⟨SLe.nil rfl, rfl⟩ | exact ⟨SLe.int rfl (by omega), rfl⟩ | exact ⟨SLe.bool rfl (by simp_all), rfl⟩ | exact ⟨SLe.sl rfl (by simp_all), rfl⟩), (by first | exact ⟨SLe.eq rfl, rfl⟩ | exact rfl | exact ⟨SLe.nil rfl, rfl⟩ | exact ⟨SLe.int rfl (by omega), rfl⟩ | exact ⟨SLe.bool rfl (by simp_all), rfl⟩ | exact ⟨SLe.sl rfl (by simp_all), rfl⟩), (by first | exact ⟨SLe.eq rfl, rfl⟩ | exact rfl | exact ⟨SLe.nil rfl, rfl⟩ | exact ⟨SLe.int rfl (by omega), rfl⟩ | exact ⟨SLe.bool rfl (by simp_all), rfl⟩ | exact ⟨SLe.sl rfl (by simp_all), rfl⟩), (by first | exact ⟨SLe.eq rfl, rfl⟩ | exact rfl | exact ⟨SLe.nil rfl, rfl⟩ | exact ⟨SLe.int rfl (by omega), rfl⟩ | exact ⟨SLe.bool rfl (by simp_all), rfl⟩ | exact ⟨SLe.sl rfl (by simp_all), rfl⟩), (by first | exact ⟨SLe.eq rfl, rfl⟩ | exact rfl | exact ⟨SLe.nil rfl, rfl⟩ | exact ⟨SLe.int rfl (by omega), rfl⟩ | exact ⟨SLe.bool rfl (by simp_all), rfl⟩ | exact ⟨SLe.sl rfl (by simp_all), rfl⟩), trivial⟩ ⟨⟨_, rfl, ⟨(by first | exact ⟨SLe.eq rfl, rfl⟩ | exact rfl | exact ⟨SLe.nil rfl, rfl⟩ | exact ⟨SLe.int rfl (by omega), rfl⟩ | exact ⟨SLe.bool rfl (by simp_all), rfl⟩ | exact ⟨SLe.sl rfl (by simp_all), rfl⟩), (by first | exact ⟨SLe.eq rfl, rfl⟩ | exact rfl | exact ⟨SLe.nil rfl, rfl⟩ | exact ⟨SLe.int rfl (by omega), rfl⟩ | exact ⟨SLe.bool rfl (by simp_all), rfl⟩ | exact ⟨SLe.sl rfl (by simp_all), rfl⟩), (by first | exact ⟨SLe.eq rfl, rfl⟩ | exact rfl | exact ⟨SLe.nil rfl, rfl⟩ | exact ⟨SLe.int rfl (by omega), rfl⟩ | exact ⟨SLe.bool rfl (by simp_all), rfl⟩ | exact ⟨SLe.sl rfl (by simp_all), rfl⟩), (by first | exact ⟨SLe.eq rfl, rfl⟩ | exact rfl | exact ⟨SLe.nil rfl, rfl⟩ | exact ⟨SLe.int rfl (by omega), rfl⟩ | exact ⟨SLe.bool rfl (by simp_all), rfl⟩ | exact ⟨SLe.sl rfl (by simp_all), rfl⟩), (by first | exact ⟨SLe.eq rfl, rfl⟩ | exact rfl | exact ⟨SLe.nil rfl, rfl⟩ | exact ⟨SLe.int rfl (by omega), rfl⟩ | exact ⟨SLe.bool rfl (by simp_all), rfl⟩ | exact ⟨SLe.sl rfl (by simp_all), rfl⟩), (by first | exact ⟨SLe.eq rfl, rfl⟩ | exact rfl | exact ⟨SLe.nil rfl, rfl⟩ | exact ⟨SLe.int rfl (by omega), rfl⟩ | exact ⟨SLe.bool rfl (by simp_all), rfl⟩ | exact ⟨SLe.sl rfl (by simp_all), rfl⟩), (by first | exact ⟨SLe.eq rfl, rfl⟩ | exact rfl | exact ⟨SLe.nil rfl, rfl⟩ | exact ⟨SLe.int rfl (by omega), rfl⟩ | exact ⟨SLe.bool rfl (by simp_all), rfl⟩ | exact ⟨SLe.sl rfl (by simp_all), rfl⟩), trivial⟩⟩, trivial⟩ ⟨⟨_, rfl, rfl⟩, trivial⟩ rfl rfl rfl rfl rfl
                  · skip
                    have h80 := hb
                    refine AC.skip ?_
                    refine thenQ_normal ?_
                    refine AC.seq ?_
                    -- DRAWN region 24
                    refine AC.drawN 6 [] (by kernel_rfl) (by kernel_rfl) (by kernel_rfl) .nil (by kernel_rfl) ?_
                    first | refine PSeqN.pure (PureOp.moveD (SLe.eq rfl)) rfl rfl ?_ | refine PSeqN.pure (PureOp.moveB (SLe.eq rfl)) rfl rfl ?_ | refine PSeqN.pure (PureOp.moveT (SLe.eq rfl)) rfl rfl ?_ | refine PSeqN.pure (PureOp.moveO (SLe.eq rfl)) rfl rfl ?_ | refine PSeqN.pure (PureOp.moveP (SLe.eq rfl)) rfl rfl ?_ | refine PSeqN.pure (PureOp.moveA (SLe.eq rfl)) rfl rfl ?_
                    first | refine PSeqN.pure (PureOp.moveD (SLe.eq rfl)) rfl rfl ?_ | refine PSeqN.pure (PureOp.moveB (SLe.eq rfl)) rfl rfl ?_ | refine PSeqN.pure (PureOp.moveT (SLe.eq rfl)) rfl rfl ?_ | refine PSeqN.pure (PureOp.moveO (SLe.eq rfl)) rfl rfl ?_ | refine PSeqN.pure (PureOp.moveP (SLe.eq rfl)) rfl rfl ?_ | refine PSeqN.pure (PureOp.moveA (SLe.eq rfl)) rfl rfl ?_
                    first | refine PSeqN.pure (PureOp.moveD (SLe.eq rfl)) rfl rfl ?_ | refine PSeqN.pure (PureOp.moveB (SLe.eq rfl)) rfl rfl ?_ | refine PSeqN.pure (PureOp.moveT (SLe.eq rfl)) rfl rfl ?_ | refine PSeqN.pure (PureOp.moveO (SLe.eq rfl)) rfl rfl ?_ | refine PSeqN.pure (PureOp.moveP (SLe.eq rfl)) rfl rfl ?_ | refine PSeqN.pure (PureOp.moveA (SLe.eq rfl)) rfl rfl ?_
                    refine PSeqN.pure (PureOp.pcall (.cons (SLe.eq rfl) (by first | exact .d _ | exact View.osr rfl rfl | exact .bx rfl rfl | exact .agg (by repeat (first | exact .nil | refine .cons (by first | exact .d _ | exact View.osr rfl rfl) ?_)) | exact .fn (by repeat (first | exact .nil | refine .cons (by first | exact .d _ | exact View.osr rfl rfl | exact .bx rfl rfl) ?_))) (.cons (SLe.eq rfl) (by first | exact .d _ | exact View.osr rfl rfl | exact .bx rfl rfl | exact .agg (by repeat (first | exact .nil | refine .cons (by first | exact .d _ | exact View.osr rfl rfl) ?_)) | exact .fn (by repeat (first | exact .nil | refine .cons (by first | exact .d _ | exact View.osr rfl rfl | exact .bx rfl rfl) ?_))) (.cons (SLe.eq rfl) (by first | exact .d _ | exact View.osr rfl rfl | exact .bx rfl rfl | exact .agg (by repeat (first | exact .nil | refine .cons (by first | exact .d _ | exact View.osr rfl rfl) ?_)) | exact .fn (by repeat (first | exact .nil | refine .cons (by first | exact .d _ | exact View.osr rfl rfl | exact .bx rfl rfl) ?_))) .nil))) (line_any ((⟨100, xf, 50, xk, xl, ma, mb⟩ : Rep) :: l) f line hb2) (by kernel_rfl)) rfl rfl ?_
                    first | refine PSeqN.pure (PureOp.loadBN (sz := 3) (SLe.eq rfl) rfl rfl rfl rfl (by kernel_rfl)) rfl rfl ?_ | refine PSeqN.pure (PureOp.loadN (sz := 3) (SLe.eq rfl) rfl rfl (by kernel_rfl)) rfl rfl ?_ | refine PSeqN.pure (PureOp.loadON (sz := 3) (i := _) (SLe.eq rfl) rfl rfl (by assumption) rfl (by kernel_rfl)) rfl rfl ?_ | refine PSeqN.pure (PureOp.loadBS (sz := 3) (SLe.eq rfl) rfl rfl rfl (by kernel_rfl)) rfl rfl ?_
                    refine PSeqN.pure (PureOp.neqA (ks := [false, false, false]) (by kernel_rfl) (SLe.eq rfl) (SLe.eq rfl) rfl) rfl rfl ?_
                    refine PSeqN.nil ?_
                    refine AO.nil ?_
                    refine thenQ_normal ?_
                    refine AC.cond (SLe.eq rfl) (fun hb => ?_) (fun hb => ?_)
                    · skip
                      rw [hlate f line, h80, h74] at hb
                      simp at hb
                    · skip
                      refine AC.skip ?_
                      refine blockQ_normal ?_
                      refine thenQ_normal ?_
                      refine AC.region ?_
                      first | refine AO.pure (PureOp.moveD (SLe.eq rfl)) rfl rfl ?_ | refine AO.pure (PureOp.moveB (SLe.eq rfl)) rfl rfl ?_ | refine AO.pure (PureOp.moveT (SLe.eq rfl)) rfl rfl ?_ | refine AO.pure (PureOp.moveO (SLe.eq rfl)) rfl rfl ?_ | refine AO.pure (PureOp.moveP (SLe.eq rfl)) rfl rfl ?_ | refine AO.pure (PureOp.moveA (SLe.eq rfl)) rfl rfl ?_
                      refine AO.pure (PureOp.add (SLe.eq rfl) (SLe.eq rfl) (by omega) (by omega)) rfl rfl ?_
                      first | refine AO.pure (PureOp.assignD (SLe.eq rfl)) rfl rfl ?_ | refine AO.pure (PureOp.assignB (SLe.eq rfl)) rfl rfl ?_ | refine AO.pure (PureOp.assignT (SLe.eq rfl)) rfl rfl ?_ | refine AO.pure (PureOp.assignO (SLe.eq rfl)) rfl rfl ?_ | refine AO.pure (PureOp.assignP (SLe.eq rfl)) rfl rfl ?_ | refine AO.pure (PureOp.assignA (SLe.eq rfl)) rfl rfl ?_
                      refine AO.nil ?_
                      refine thenQ_normal ?_
                      refine ⟨line + 1, (by omega), (by omega), ?_⟩
                      refine Le.mk [(0, 0)] ⟨(by first | exact ⟨SLe.eq rfl, rfl⟩ | exact rfl | exact ⟨SLe.nil rfl, rfl⟩ | exact ⟨SLe.int rfl (by omega), rfl⟩ | exact ⟨SLe.bool rfl (by simp_all), rfl⟩ | exact ⟨SLe.sl rfl (by simp_all), rfl⟩), (by first | exact ⟨SLe.eq rfl, rfl⟩ | exact rfl | exact ⟨SLe.nil rfl, rfl⟩ | exact ⟨SLe.int rfl (by omega), rfl⟩ | exact ⟨SLe.bool rfl (by simp_all), rfl⟩ | exact ⟨SLe.sl rfl (by simp_all), rfl⟩), (by first | exact ⟨SLe.eq rfl, rfl⟩ | exact rfl | exact ⟨SLe.nil rfl, rfl⟩ | exact ⟨SLe.int rfl (by omega), rfl⟩ | exact ⟨SLe.bool rfl (by simp_all), rfl⟩ | exact ⟨SLe.sl rfl (by simp_all), rfl⟩), (by first | exact ⟨SLe.eq rfl, rfl⟩ | exact rfl | exact ⟨SLe.nil rfl, rfl⟩ | exact ⟨SLe.int rfl (by omega), rfl⟩ | exact ⟨SLe.bool rfl (by simp_all), rfl⟩ | exact ⟨SLe.sl rfl (by simp_all), rfl⟩), (by first | exact ⟨SLe.eq rfl, rfl⟩ | exact rfl | exact ⟨SLe.nil rfl, rfl⟩ | exact ⟨SLe.int rfl (by omega), rfl⟩ | exact ⟨SLe.bool rfl (by simp_all), rfl⟩ | exact ⟨SLe.sl rfl (by simp_all), rfl⟩), (by first | exact ⟨SLe.eq rfl, rfl⟩ | exact rfl | exact ⟨SLe.nil rfl, rfl⟩ | exact ⟨SLe.int rfl (by omega), rfl⟩ | exact ⟨SLe.bool rfl (by simp_all), rfl⟩ | exact ⟨SLe.sl rfl (by simp_all), rfl⟩), trivial⟩ ⟨⟨_, rfl, ⟨(by first | exact ⟨SLe.eq rfl, rfl⟩ | exact rfl | exact ⟨SLe.nil rfl, rfl⟩ | exact ⟨SLe.int rfl (by omega), rfl⟩ | exact ⟨SLe.bool rfl (by simp_all), rfl⟩ | exact ⟨SLe.sl rfl (by simp_all), rfl⟩), (by first | exact ⟨SLe.eq rfl, rfl⟩ | exact rfl | exact ⟨SLe.nil rfl, rfl⟩ | exact ⟨SLe.int rfl (by omega), rfl⟩ | exact ⟨SLe.bool rfl (by simp_all), rfl⟩ | exact ⟨SLe.sl rfl (by simp_all), rfl⟩), (by first | exact ⟨SLe.eq rfl, rfl⟩ | exact rfl | exact ⟨SLe.nil rfl, rfl⟩ | exact ⟨SLe.int rfl (by omega), rfl⟩ | exact ⟨SLe.bool rfl (by simp_all), rfl⟩ | exact ⟨SLe.sl rfl (by simp_all), rfl⟩), (by first | exact ⟨SLe.eq rfl, rfl⟩ | exact rfl | exact ⟨SLe.nil rfl, rfl⟩ | exact ⟨SLe.int rfl (by omega), rfl⟩ | exact ⟨SLe.bool rfl (by simp_all), rfl⟩ | exact ⟨SLe.sl rfl (by simp_all), rfl⟩), (by first | exact ⟨SLe.eq rfl, rfl⟩ | exact rfl | exact ⟨SLe.nil rfl, rfl⟩ | exact ⟨SLe.int rfl (by omega), rfl⟩ | exact ⟨SLe.bool rfl (by simp_all), rfl⟩ | exact ⟨SLe.sl rfl (by simp_all), rfl⟩), (by first | exact ⟨SLe.eq rfl, rfl⟩ | exact rfl | exact ⟨SLe.nil rfl, rfl⟩ | exact ⟨SLe.int rfl (by omega), rfl⟩ | exact ⟨SLe.bool rfl (by simp_all), rfl⟩ | exact ⟨SLe.sl rfl (by simp_all), rfl⟩), (by first | exact ⟨SLe.eq rfl, rfl⟩ | exact rfl | exact ⟨SLe.nil rfl, rfl⟩ | exact ⟨SLe.int rfl (by omega), rfl⟩ | exact ⟨SLe.bool rfl (by simp_all), rfl⟩ | exact ⟨SLe.sl rfl (by simp_all), rfl⟩), trivial⟩⟩, trivial⟩ ⟨⟨_, rfl, rfl⟩, trivial⟩ rfl rfl rfl rfl rfl
              · skip
                refine AC.exit ?_
                refine thenQ_exit ?_
                refine thenQ_exit ?_
                refine blockQ_hit ?_
                refine blockQ_normal ?_
                refine thenQ_normal ?_
                refine AC.region ?_
                first | refine AO.pure (PureOp.moveD (SLe.eq rfl)) rfl rfl ?_ | refine AO.pure (PureOp.moveB (SLe.eq rfl)) rfl rfl ?_ | refine AO.pure (PureOp.moveT (SLe.eq rfl)) rfl rfl ?_ | refine AO.pure (PureOp.moveO (SLe.eq rfl)) rfl rfl ?_ | refine AO.pure (PureOp.moveP (SLe.eq rfl)) rfl rfl ?_ | refine AO.pure (PureOp.moveA (SLe.eq rfl)) rfl rfl ?_
                refine AO.pure (PureOp.add (SLe.eq rfl) (SLe.eq rfl) (by omega) (by omega)) rfl rfl ?_
                first | refine AO.pure (PureOp.assignD (SLe.eq rfl)) rfl rfl ?_ | refine AO.pure (PureOp.assignB (SLe.eq rfl)) rfl rfl ?_ | refine AO.pure (PureOp.assignT (SLe.eq rfl)) rfl rfl ?_ | refine AO.pure (PureOp.assignO (SLe.eq rfl)) rfl rfl ?_ | refine AO.pure (PureOp.assignP (SLe.eq rfl)) rfl rfl ?_ | refine AO.pure (PureOp.assignA (SLe.eq rfl)) rfl rfl ?_
                refine AO.nil ?_
                refine thenQ_normal ?_
                refine ⟨f + 1, ⟨by omega, by omega⟩, (by omega), ?_⟩
                refine Le.mk [(0, 0)] ⟨(by first | exact ⟨SLe.eq rfl, rfl⟩ | exact rfl | exact ⟨SLe.nil rfl, rfl⟩ | exact ⟨SLe.int rfl (by omega), rfl⟩ | exact ⟨SLe.bool rfl (by simp_all), rfl⟩ | exact ⟨SLe.sl rfl (by simp_all), rfl⟩), (by first | exact ⟨SLe.eq rfl, rfl⟩ | exact rfl | exact ⟨SLe.nil rfl, rfl⟩ | exact ⟨SLe.int rfl (by omega), rfl⟩ | exact ⟨SLe.bool rfl (by simp_all), rfl⟩ | exact ⟨SLe.sl rfl (by simp_all), rfl⟩), (by first | exact ⟨SLe.eq rfl, rfl⟩ | exact rfl | exact ⟨SLe.nil rfl, rfl⟩ | exact ⟨SLe.int rfl (by omega), rfl⟩ | exact ⟨SLe.bool rfl (by simp_all), rfl⟩ | exact ⟨SLe.sl rfl (by simp_all), rfl⟩), (by first | exact ⟨SLe.eq rfl, rfl⟩ | exact rfl | exact ⟨SLe.nil rfl, rfl⟩ | exact ⟨SLe.int rfl (by omega), rfl⟩ | exact ⟨SLe.bool rfl (by simp_all), rfl⟩ | exact ⟨SLe.sl rfl (by simp_all), rfl⟩), trivial⟩ ⟨⟨_, rfl, ⟨(by first | exact ⟨SLe.eq rfl, rfl⟩ | exact rfl | exact ⟨SLe.nil rfl, rfl⟩ | exact ⟨SLe.int rfl (by omega), rfl⟩ | exact ⟨SLe.bool rfl (by simp_all), rfl⟩ | exact ⟨SLe.sl rfl (by simp_all), rfl⟩), (by first | exact ⟨SLe.eq rfl, rfl⟩ | exact rfl | exact ⟨SLe.nil rfl, rfl⟩ | exact ⟨SLe.int rfl (by omega), rfl⟩ | exact ⟨SLe.bool rfl (by simp_all), rfl⟩ | exact ⟨SLe.sl rfl (by simp_all), rfl⟩), (by first | exact ⟨SLe.eq rfl, rfl⟩ | exact rfl | exact ⟨SLe.nil rfl, rfl⟩ | exact ⟨SLe.int rfl (by omega), rfl⟩ | exact ⟨SLe.bool rfl (by simp_all), rfl⟩ | exact ⟨SLe.sl rfl (by simp_all), rfl⟩), (by first | exact ⟨SLe.eq rfl, rfl⟩ | exact rfl | exact ⟨SLe.nil rfl, rfl⟩ | exact ⟨SLe.int rfl (by omega), rfl⟩ | exact ⟨SLe.bool rfl (by simp_all), rfl⟩ | exact ⟨SLe.sl rfl (by simp_all), rfl⟩), (by first | exact ⟨SLe.eq rfl, rfl⟩ | exact rfl | exact ⟨SLe.nil rfl, rfl⟩ | exact ⟨SLe.int rfl (by omega), rfl⟩ | exact ⟨SLe.bool rfl (by simp_all), rfl⟩ | exact ⟨SLe.sl rfl (by simp_all), rfl⟩), (by first | exact ⟨SLe.eq rfl, rfl⟩ | exact rfl | exact ⟨SLe.nil rfl, rfl⟩ | exact ⟨SLe.int rfl (by omega), rfl⟩ | exact ⟨SLe.bool rfl (by simp_all), rfl⟩ | exact ⟨SLe.sl rfl (by simp_all), rfl⟩), (by first | exact ⟨SLe.eq rfl, rfl⟩ | exact rfl | exact ⟨SLe.nil rfl, rfl⟩ | exact ⟨SLe.int rfl (by omega), rfl⟩ | exact ⟨SLe.bool rfl (by simp_all), rfl⟩ | exact ⟨SLe.sl rfl (by simp_all), rfl⟩), trivial⟩⟩, trivial⟩ ⟨⟨_, rfl, rfl⟩, trivial⟩ rfl rfl rfl rfl rfl
      · skip
        refine AC.exit ?_
        refine thenQ_exit ?_
        refine thenQ_exit ?_
        refine blockQ_hit ?_
        refine thenQ_normal ?_
        refine AC.seq ?_
        refine AC.region ?_
        first | refine AO.pure (PureOp.moveD (SLe.eq rfl)) rfl rfl ?_ | refine AO.pure (PureOp.moveB (SLe.eq rfl)) rfl rfl ?_ | refine AO.pure (PureOp.moveT (SLe.eq rfl)) rfl rfl ?_ | refine AO.pure (PureOp.moveO (SLe.eq rfl)) rfl rfl ?_ | refine AO.pure (PureOp.moveP (SLe.eq rfl)) rfl rfl ?_ | refine AO.pure (PureOp.moveA (SLe.eq rfl)) rfl rfl ?_
        first | refine AO.pure (PureOp.fldB (k := 1) (SLe.eq rfl) (by kernel_rfl)) rfl rfl ?_ | refine AO.pure (PureOp.fld (k := 1) (SLe.eq rfl) (by kernel_rfl)) rfl rfl ?_ | refine AO.pure (PureOp.fldO (k := 1) (SLe.eq rfl) (by kernel_rfl)) rfl rfl ?_
        first | refine AO.pure (PureOp.loadB1 (SLe.eq rfl) rfl rfl (by kernel_rfl)) rfl rfl ?_ | refine AO.pure (PureOp.load1 (SLe.eq rfl) rfl (by kernel_rfl)) rfl rfl ?_ | refine AO.pure (PureOp.loadO1 (i := _) (j := _) (SLe.eq rfl) rfl rfl (by assumption) rfl (by kernel_rfl)) rfl rfl ?_
        refine AO.pure (PureOp.pcall (.cons (SLe.eq rfl) (by first | exact .d _ | exact View.osr rfl rfl | exact .bx rfl rfl | exact .agg (by repeat (first | exact .nil | refine .cons (by first | exact .d _ | exact View.osr rfl rfl) ?_)) | exact .fn (by repeat (first | exact .nil | refine .cons (by first | exact .d _ | exact View.osr rfl rfl | exact .bx rfl rfl) ?_))) (.cons (SLe.eq rfl) (by first | exact .d _ | exact View.osr rfl rfl | exact .bx rfl rfl | exact .agg (by repeat (first | exact .nil | refine .cons (by first | exact .d _ | exact View.osr rfl rfl) ?_)) | exact .fn (by repeat (first | exact .nil | refine .cons (by first | exact .d _ | exact View.osr rfl rfl | exact .bx rfl rfl) ?_))) .nil)) (last_any ((⟨100, xf, 50, xk, xl, ma, mb⟩ : Rep) :: l) xf hb2) (by kernel_rfl)) rfl rfl ?_
        refine AO.pure (PureOp.eql (SLe.eq rfl) (SLe.eq rfl)) rfl rfl ?_
        first | refine AO.pure (PureOp.moveD (SLe.eq rfl)) rfl rfl ?_ | refine AO.pure (PureOp.moveB (SLe.eq rfl)) rfl rfl ?_ | refine AO.pure (PureOp.moveT (SLe.eq rfl)) rfl rfl ?_ | refine AO.pure (PureOp.moveO (SLe.eq rfl)) rfl rfl ?_ | refine AO.pure (PureOp.moveP (SLe.eq rfl)) rfl rfl ?_ | refine AO.pure (PureOp.moveA (SLe.eq rfl)) rfl rfl ?_
        refine AO.guarded rfl rfl (fun hG => PureOp.pcall .nil (awake_any) (by kernel_rfl)) rfl rfl ?_
        refine AO.pure (PureOp.pickAnd (SLe.eq rfl) rfl rfl (by intro h; first | (simp_all; done) | (simp_all; exact Decidable.imp_iff_not_or.1 (by assumption)))) rfl rfl ?_
        first | refine AO.pure (PureOp.assignD (SLe.eq rfl)) rfl rfl ?_ | refine AO.pure (PureOp.assignB (SLe.eq rfl)) rfl rfl ?_ | refine AO.pure (PureOp.assignT (SLe.eq rfl)) rfl rfl ?_ | refine AO.pure (PureOp.assignO (SLe.eq rfl)) rfl rfl ?_ | refine AO.pure (PureOp.assignP (SLe.eq rfl)) rfl rfl ?_ | refine AO.pure (PureOp.assignA (SLe.eq rfl)) rfl rfl ?_
        refine AO.nil ?_
        refine thenQ_normal ?_
        refine AC.ret ?_
        refine ⟨rfl, _, ?_, ResOf.one (by first | exact GetR.flat (SLe.eq rfl) rfl | exact GetR.nil (SLe.eq rfl) | exact GetR.ownR (SLe.eq rfl) rfl rfl (by simp [flatRows, D.flat]) | exact GetR.any (SLe.eq rfl) | exact GetR.ownA (SLe.eq rfl) rfl rfl)⟩
        refine congrArg bD ?_
        simp [hlast]

end Vis
end Eng
end Go.Proofs.Ytmmekdkllccmdab
