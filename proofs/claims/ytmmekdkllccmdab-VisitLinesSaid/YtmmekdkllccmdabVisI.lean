/-
  Walk of the law VisitLines.
-/
import Derived.Test.YtmmekdkllccmdabVisP
namespace Go.Proofs.Ytmmekdkllccmdab
open Go.RowKit Go.Sort
set_option linter.unusedVariables false
namespace Eng
namespace Vis
theorem compact_len (zs : List Int) : (Lib.compact zs).length ≤ zs.length := by
  unfold Lib.compact Lib.compactUpTo
  rw [List.length_map]
  exact Nat.le_trans (List.length_filter_le _ _) (by simp)
theorem compact_sub {zs : List Int} {x : Int} (h : x ∈ Lib.compact zs) : x ∈ zs := by
  unfold Lib.compact Lib.compactUpTo at h
  obtain ⟨j, hj, rfl⟩ := List.mem_map.1 h
  have hlt : j < zs.length := List.mem_range.1 (List.mem_filter.1 hj).1
  simp [hlt]
theorem compactUpTo_sup (d : Array Int) : ∀ (m j : Nat), j < m → d[j]! ∈ Lib.compactUpTo d m
  | 0, j, h => absurd h (Nat.not_lt_zero _)
  | m + 1, j, h => by
    rw [Lib.compactUpTo_succ]
    by_cases hj : j < m
    · exact List.mem_append_left _ (compactUpTo_sup d m j hj)
    · have e : j = m := by omega
      subst e
      cases hk : Lib.keeps d j with
      | true => exact List.mem_append_right _ (by simp)
      | false =>
        have h1 : 1 ≤ j := by
          apply Nat.le_of_not_lt
          intro h0
          rw [Lib.keeps_lt_one d j (by omega)] at hk; cases hk
        have h2 : d[j]! = d[j - 1]! := Decidable.byContradiction fun hne => by rw [Lib.keeps_pos hne] at hk; cases hk
        rw [h2]
        exact List.mem_append_left _ (compactUpTo_sup d j (j - 1) (by omega))
theorem compact_sup {zs : List Int} {x : Int} (h : x ∈ zs) : x ∈ Lib.compact zs := by
  obtain ⟨j, hj, rfl⟩ := List.getElem_of_mem h
  have := compactUpTo_sup zs.toArray zs.length j hj
  simpa [Lib.compact, hj] using this
theorem linesS_len (l : List Rep) (farm : Int) : (linesS l farm).length ≤ l.length := by
  unfold linesS
  split
  · refine Nat.le_trans (compact_len _) ?_
    simp only [List.length_mergeSort, List.length_map]
    exact List.length_filter_le _ _
  · simp
theorem mem_lines {l : List Rep} {farm : Int} (c1 : chkE l = 0) (line : Int) : line ∈ linesS l farm ↔ ∃ x ∈ l, x.f = farm ∧ x.k ≠ 4 ∧ x.l = line := by
  unfold linesS
  rw [if_pos (by rw [c1]; rfl)]
  constructor
  · intro h
    have := compact_sub h
    rw [List.mem_mergeSort] at this
    obtain ⟨x, hx, e⟩ := List.mem_map.1 this
    obtain ⟨h1, h2⟩ := List.mem_filter.1 hx
    unfold lnP at h2
    simp at h2
    exact ⟨x, h1, h2.1, h2.2, e⟩
  · rintro ⟨x, h1, h2, h3, h4⟩
    refine compact_sup (List.mem_mergeSort.2 (List.mem_map.2 ⟨x, List.mem_filter.2 ⟨h1, ?_⟩, h4⟩))
    unfold lnP
    simp [h2, h3]
theorem lines_plain {most : Nat} {l : List Rep} (hok : RepOK most l) (c1 : chkE l = 0) (farm line : Int) : (line ∈ linesS l farm → (lineS l farm line).k ≠ 0) ∧ (¬ line ∈ linesS l farm → (lineS l farm line).k = 0 ∨ (lineS l farm line).k = 4) := by
  rw [mem_lines c1]
  unfold lineS
  rw [if_pos (by rw [c1]; rfl)]
  cases hr : l.any (refP farm) with
  | true => simp
  | false =>
    simp only [Bool.false_eq_true, if_false]
    constructor
    · rintro ⟨x, h1, h2, h3, h4⟩
      have hx : x ∈ l.filter (atP farm line) := List.mem_filter.2 ⟨h1, by unfold atP; simp [h2, h4]⟩
      have hall : ∀ y ∈ l.filter (atP farm line), y.k ≠ 0 := fun y hy => by have := hok.all y (List.mem_filter.1 hy).1; omega
      generalize l.filter (atP farm line) = sm at hx hall
      cases sm with
      | nil => cases hx
      | cons x0 r => exact hall _ (maxF_spec r x0).1
    · intro hno
      have he : l.filter (atP farm line) = [] := by
        rw [List.filter_eq_nil_iff]
        intro x hx hp
        unfold atP at hp
        simp at hp
        refine hno ⟨x, hx, hp.1, fun h4 => ?_, hp.2⟩
        rw [List.any_eq_false] at hr
        exact hr x hx (by unfold refP; simp [hp.1, h4])
      rw [he]
      exact .inl rfl
theorem last_le (farm : Int) : ∀ (l : List Rep) (m : Int), m ≤ l.foldl (fun m x => if decide (x.f = farm) then (if m < x.d then x.d else m) else m) m ∧ ∀ x ∈ l, x.f = farm → x.d ≤ l.foldl (fun m x => if decide (x.f = farm) then (if m < x.d then x.d else m) else m) m
  | [], m => ⟨Int.le_refl _, fun x h => by cases h⟩
  | y :: r, m => by
    simp only [List.foldl_cons]
    obtain ⟨h1, h2⟩ := last_le farm r (if decide (y.f = farm) then (if m < y.d then y.d else m) else m)
    refine ⟨Int.le_trans ?_ h1, fun x hx hf => ?_⟩
    · simp only [decide_eq_true_eq]
      repeat' split
      all_goals omega
    · rcases List.mem_cons.1 hx with rfl | hx
      · refine Int.le_trans ?_ h1
        simp only [decide_eq_true_eq]
        rw [if_pos hf]
        split <;> omega
      · exact h2 x hx hf
theorem last_none {most : Nat} {l : List Rep} (hok : RepOK most l) (c1 : chkE l = 0) {farm : Int} (h : lastS l farm = -1) : linesS l farm = [] ∧ l.any (refP farm) = false := by
  have hno : ∀ x ∈ l, x.f ≠ farm := fun x hx hf => by
    unfold lastS at h
    rw [if_pos (by rw [c1]; rfl)] at h
    have h1 := (last_le farm l (-1)).2 x hx hf
    have h2 := hok.all x hx
    omega
  refine ⟨List.eq_nil_iff_forall_not_mem.2 fun n hn => ?_, ?_⟩
  · obtain ⟨x, hx, hf, _⟩ := (mem_lines c1 n).1 hn
    exact hno x hx hf
  · rw [List.any_eq_false]
    intro x hx hp
    unfold refP at hp
    simp at hp
    exact hno x hx hp.1
set_option maxRecDepth 100000 in
set_option maxHeartbeats 4000000 in
theorem walk_lines (a : Option Addr) (len cap : Nat) (w : World) (h : Keep.IntsAt w a len cap) : Calls Try.prog 4 #[.slice a len cap] w fun e w' => e = .returned (.bool true) ∧ Below w.heap.size w w' := by
  obtain ⟨hS, hsrc⟩ := src_of h
  refine law_of (args := [.d (.v (.slice a len cap))]) (vals := [.slice a len cap]) Try.func4 rfl rfl rfl rfl rfl hS rfl (fun i s u hs hu => ?_) ?_
  · match i, hs, hu with
    | 0, hs, hu => simp at hs hu; subst hs hu; exact .d _ _ (.v _)
    | i + 1, hs, hu => simp at hs
  refine AC.seq ?_
  refine AC.region ?_
  first | refine AO.pure (PureOp.assignD (SLe.eq rfl)) rfl rfl ?_ | refine AO.pure (PureOp.assignB (SLe.eq rfl)) rfl rfl ?_ | refine AO.pure (PureOp.assignT (SLe.eq rfl)) rfl rfl ?_ | refine AO.pure (PureOp.assignO (SLe.eq rfl)) rfl rfl ?_ | refine AO.pure (PureOp.assignP (SLe.eq rfl)) rfl rfl ?_ | refine AO.pure (PureOp.assignA (SLe.eq rfl)) rfl rfl ?_
  refine AO.nil ?_
  refine thenQ_normal ?_
  refine AC.seq ?_
  refine AC.region ?_
  first | refine AO.pure (PureOp.moveD (SLe.eq rfl)) rfl rfl ?_ | refine AO.pure (PureOp.moveB (SLe.eq rfl)) rfl rfl ?_ | refine AO.pure (PureOp.moveT (SLe.eq rfl)) rfl rfl ?_ | refine AO.pure (PureOp.moveO (SLe.eq rfl)) rfl rfl ?_ | refine AO.pure (PureOp.moveP (SLe.eq rfl)) rfl rfl ?_ | refine AO.pure (PureOp.moveA (SLe.eq rfl)) rfl rfl ?_
  refine AO.newT (SLe.eq rfl) hsrc (fun b hb => hb) (fun b hb => hb) rfl rfl rfl rfl ?_
  first | refine AO.pure (PureOp.assignD (SLe.eq rfl)) rfl rfl ?_ | refine AO.pure (PureOp.assignB (SLe.eq rfl)) rfl rfl ?_ | refine AO.pure (PureOp.assignT (SLe.eq rfl)) rfl rfl ?_ | refine AO.pure (PureOp.assignO (SLe.eq rfl)) rfl rfl ?_ | refine AO.pure (PureOp.assignP (SLe.eq rfl)) rfl rfl ?_ | refine AO.pure (PureOp.assignA (SLe.eq rfl)) rfl rfl ?_
  refine AO.nil ?_
  refine thenQ_normal ?_
  refine AC.seq ?_
  refine AC.region ?_
  first | refine AO.pure (PureOp.moveD (SLe.eq rfl)) rfl rfl ?_ | refine AO.pure (PureOp.moveB (SLe.eq rfl)) rfl rfl ?_ | refine AO.pure (PureOp.moveT (SLe.eq rfl)) rfl rfl ?_ | refine AO.pure (PureOp.moveO (SLe.eq rfl)) rfl rfl ?_ | refine AO.pure (PureOp.moveP (SLe.eq rfl)) rfl rfl ?_ | refine AO.pure (PureOp.moveA (SLe.eq rfl)) rfl rfl ?_
  refine AO.tcall (.tp (SLe.eq rfl) (.cons (SLe.eq rfl) (by first | exact .d _ | exact View.osr rfl rfl | exact .bx rfl rfl | exact .agg (by repeat (first | exact .nil | refine .cons (by first | exact .d _ | exact View.osr rfl rfl) ?_)) | exact .fn (by repeat (first | exact .nil | refine .cons (by first | exact .d _ | exact View.osr rfl rfl | exact .bx rfl rfl) ?_))) .nil)) (reports_c 8 (by omega)) rfl (by kernel_rfl) rfl ?_
  rintro _ ⟨l, rfl, hok⟩
  have hrl := rr_length l
  have hlen := hok.len
  have c1 := hok.chk (by omega)
  have hb1 : l.length ≤ 4611686018427387903 := by omega
  have hb3 : l.length ≤ 4611686018427387904 := by omega
  have hb5 : ∀ f : Int, (linesS l f).length ≤ 4611686018427387903 := fun f => Nat.le_trans (linesS_len l f) hb1
  first | refine AO.pure (PureOp.assignD (SLe.eq rfl)) rfl rfl ?_ | refine AO.pure (PureOp.assignB (SLe.eq rfl)) rfl rfl ?_ | refine AO.pure (PureOp.assignT (SLe.eq rfl)) rfl rfl ?_ | refine AO.pure (PureOp.assignO (SLe.eq rfl)) rfl rfl ?_ | refine AO.pure (PureOp.assignP (SLe.eq rfl)) rfl rfl ?_ | refine AO.pure (PureOp.assignA (SLe.eq rfl)) rfl rfl ?_
  refine AO.nil ?_
  refine thenQ_normal ?_
  refine AC.seq ?_
  refine AC.seq ?_
  refine AC.region ?_
  first | refine AO.pure (PureOp.assignD (SLe.eq rfl)) rfl rfl ?_ | refine AO.pure (PureOp.assignB (SLe.eq rfl)) rfl rfl ?_ | refine AO.pure (PureOp.assignT (SLe.eq rfl)) rfl rfl ?_ | refine AO.pure (PureOp.assignO (SLe.eq rfl)) rfl rfl ?_ | refine AO.pure (PureOp.assignP (SLe.eq rfl)) rfl rfl ?_ | refine AO.pure (PureOp.assignA (SLe.eq rfl)) rfl rfl ?_
  refine AO.nil ?_
  refine thenQ_normal ?_
  refine AC.block ?_
  refine AC.loop (ι := Nat) (fun f => ⟨[(4, .d (.sl 7 (rr l))), (5, .d (iD (f : Int)))], [], [], 0, true, 65⟩) (fun f => 1 ≤ f ∧ f ≤ 5) (fun f => 5 - f) 1 ?_ ⟨Nat.le_refl 1, by omega⟩ ?_
  · refine Le.mk [] ⟨(by first | exact ⟨SLe.eq rfl, rfl⟩ | exact rfl | exact ⟨SLe.nil rfl, rfl⟩ | exact ⟨SLe.int rfl (by omega), rfl⟩ | exact ⟨SLe.bool rfl (by simp_all), rfl⟩ | exact ⟨SLe.sl rfl (by simp_all), rfl⟩), (by first | exact ⟨SLe.eq rfl, rfl⟩ | exact rfl | exact ⟨SLe.nil rfl, rfl⟩ | exact ⟨SLe.int rfl (by omega), rfl⟩ | exact ⟨SLe.bool rfl (by simp_all), rfl⟩ | exact ⟨SLe.sl rfl (by simp_all), rfl⟩), trivial⟩ trivial trivial rfl rfl rfl rfl rfl
  · rintro f ⟨hf1, hf2⟩
    refine AC.seq ?_
    refine AC.seq ?_
    refine AC.region ?_
    first | refine AO.pure (PureOp.moveD (SLe.eq rfl)) rfl rfl ?_ | refine AO.pure (PureOp.moveB (SLe.eq rfl)) rfl rfl ?_ | refine AO.pure (PureOp.moveT (SLe.eq rfl)) rfl rfl ?_ | refine AO.pure (PureOp.moveO (SLe.eq rfl)) rfl rfl ?_ | refine AO.pure (PureOp.moveP (SLe.eq rfl)) rfl rfl ?_ | refine AO.pure (PureOp.moveA (SLe.eq rfl)) rfl rfl ?_
    refine AO.pure (PureOp.leq (SLe.eq rfl) (SLe.eq rfl)) rfl rfl ?_
    refine AO.nil ?_
    refine thenQ_normal ?_
    refine AC.cond (SLe.eq rfl) (fun hb => ?_) (fun hb => ?_)
    · skip
      have hf3 : f ≤ 4 := by have := of_decide_eq_true hb; omega
      refine AC.skip ?_
      refine thenQ_normal ?_
      refine AC.seq ?_
      refine AC.block ?_
      refine AC.seq ?_
      refine AC.region ?_
      first | refine AO.pure (PureOp.moveD (SLe.eq rfl)) rfl rfl ?_ | refine AO.pure (PureOp.moveB (SLe.eq rfl)) rfl rfl ?_ | refine AO.pure (PureOp.moveT (SLe.eq rfl)) rfl rfl ?_ | refine AO.pure (PureOp.moveO (SLe.eq rfl)) rfl rfl ?_ | refine AO.pure (PureOp.moveP (SLe.eq rfl)) rfl rfl ?_ | refine AO.pure (PureOp.moveA (SLe.eq rfl)) rfl rfl ?_
      first | refine AO.pure (PureOp.moveD (SLe.eq rfl)) rfl rfl ?_ | refine AO.pure (PureOp.moveB (SLe.eq rfl)) rfl rfl ?_ | refine AO.pure (PureOp.moveT (SLe.eq rfl)) rfl rfl ?_ | refine AO.pure (PureOp.moveO (SLe.eq rfl)) rfl rfl ?_ | refine AO.pure (PureOp.moveP (SLe.eq rfl)) rfl rfl ?_ | refine AO.pure (PureOp.moveA (SLe.eq rfl)) rfl rfl ?_
      refine AO.pure (PureOp.pcall (.cons (SLe.eq rfl) (by first | exact .d _ | exact View.osr rfl rfl | exact .bx rfl rfl | exact .agg (by repeat (first | exact .nil | refine .cons (by first | exact .d _ | exact View.osr rfl rfl) ?_)) | exact .fn (by repeat (first | exact .nil | refine .cons (by first | exact .d _ | exact View.osr rfl rfl | exact .bx rfl rfl) ?_))) (.cons (SLe.eq rfl) (by first | exact .d _ | exact View.osr rfl rfl | exact .bx rfl rfl | exact .agg (by repeat (first | exact .nil | refine .cons (by first | exact .d _ | exact View.osr rfl rfl) ?_)) | exact .fn (by repeat (first | exact .nil | refine .cons (by first | exact .d _ | exact View.osr rfl rfl | exact .bx rfl rfl) ?_))) .nil)) (lines_any l f hb1) (by kernel_rfl)) rfl rfl ?_
      first | refine AO.pure (PureOp.assignD (SLe.eq rfl)) rfl rfl ?_ | refine AO.pure (PureOp.assignB (SLe.eq rfl)) rfl rfl ?_ | refine AO.pure (PureOp.assignT (SLe.eq rfl)) rfl rfl ?_ | refine AO.pure (PureOp.assignO (SLe.eq rfl)) rfl rfl ?_ | refine AO.pure (PureOp.assignP (SLe.eq rfl)) rfl rfl ?_ | refine AO.pure (PureOp.assignA (SLe.eq rfl)) rfl rfl ?_
      refine AO.nil ?_
      refine thenQ_normal ?_
      refine AC.seq ?_
      refine AC.seq ?_
      refine AC.region ?_
      first | refine AO.pure (PureOp.assignD (SLe.eq rfl)) rfl rfl ?_ | refine AO.pure (PureOp.assignB (SLe.eq rfl)) rfl rfl ?_ | refine AO.pure (PureOp.assignT (SLe.eq rfl)) rfl rfl ?_ | refine AO.pure (PureOp.assignO (SLe.eq rfl)) rfl rfl ?_ | refine AO.pure (PureOp.assignP (SLe.eq rfl)) rfl rfl ?_ | refine AO.pure (PureOp.assignA (SLe.eq rfl)) rfl rfl ?_
      refine AO.nil ?_
      refine thenQ_normal ?_
      refine AC.block ?_
      refine AC.loop (ι := Nat) (fun line => ⟨[(4, .d (.sl 7 (rr l))), (5, .d (iD (f : Int))), (6, .d (.sl 1 (ir (linesS l f)))), (7, .d (iD (line : Int)))], [], [], 0, true, 65⟩) (fun line => line ≤ 3) (fun line => 3 - line) 0 ?_ (Nat.zero_le _) ?_
      · refine Le.mk [] ⟨(by first | exact ⟨SLe.eq rfl, rfl⟩ | exact rfl | exact ⟨SLe.nil rfl, rfl⟩ | exact ⟨SLe.int rfl (by omega), rfl⟩ | exact ⟨SLe.bool rfl (by simp_all), rfl⟩ | exact ⟨SLe.sl rfl (by simp_all), rfl⟩), (by first | exact ⟨SLe.eq rfl, rfl⟩ | exact rfl | exact ⟨SLe.nil rfl, rfl⟩ | exact ⟨SLe.int rfl (by omega), rfl⟩ | exact ⟨SLe.bool rfl (by simp_all), rfl⟩ | exact ⟨SLe.sl rfl (by simp_all), rfl⟩), (by first | exact ⟨SLe.eq rfl, rfl⟩ | exact rfl | exact ⟨SLe.nil rfl, rfl⟩ | exact ⟨SLe.int rfl (by omega), rfl⟩ | exact ⟨SLe.bool rfl (by simp_all), rfl⟩ | exact ⟨SLe.sl rfl (by simp_all), rfl⟩), (by first | exact ⟨SLe.eq rfl, rfl⟩ | exact rfl | exact ⟨SLe.nil rfl, rfl⟩ | exact ⟨SLe.int rfl (by omega), rfl⟩ | exact ⟨SLe.bool rfl (by simp_all), rfl⟩ | exact ⟨SLe.sl rfl (by simp_all), rfl⟩), trivial⟩ trivial trivial rfl rfl rfl rfl rfl
      · rintro line hln
        refine AC.seq ?_
        refine AC.seq ?_
        refine AC.region ?_
        first | refine AO.pure (PureOp.moveD (SLe.eq rfl)) rfl rfl ?_ | refine AO.pure (PureOp.moveB (SLe.eq rfl)) rfl rfl ?_ | refine AO.pure (PureOp.moveT (SLe.eq rfl)) rfl rfl ?_ | refine AO.pure (PureOp.moveO (SLe.eq rfl)) rfl rfl ?_ | refine AO.pure (PureOp.moveP (SLe.eq rfl)) rfl rfl ?_ | refine AO.pure (PureOp.moveA (SLe.eq rfl)) rfl rfl ?_
        refine AO.pure (PureOp.lss (SLe.eq rfl) (SLe.eq rfl)) rfl rfl ?_
        refine AO.nil ?_
        refine thenQ_normal ?_
        refine AC.cond (SLe.eq rfl) (fun hb => ?_) (fun hb => ?_)
        · skip
          have hl3 : line < 3 := by have := of_decide_eq_true hb; omega
          refine AC.skip ?_
          refine thenQ_normal ?_
          refine AC.seq ?_
          refine AC.block ?_
          refine AC.seq ?_
          refine AC.region ?_
          first | refine AO.pure (PureOp.moveD (SLe.eq rfl)) rfl rfl ?_ | refine AO.pure (PureOp.moveB (SLe.eq rfl)) rfl rfl ?_ | refine AO.pure (PureOp.moveT (SLe.eq rfl)) rfl rfl ?_ | refine AO.pure (PureOp.moveO (SLe.eq rfl)) rfl rfl ?_ | refine AO.pure (PureOp.moveP (SLe.eq rfl)) rfl rfl ?_ | refine AO.pure (PureOp.moveA (SLe.eq rfl)) rfl rfl ?_
          first | refine AO.pure (PureOp.moveD (SLe.eq rfl)) rfl rfl ?_ | refine AO.pure (PureOp.moveB (SLe.eq rfl)) rfl rfl ?_ | refine AO.pure (PureOp.moveT (SLe.eq rfl)) rfl rfl ?_ | refine AO.pure (PureOp.moveO (SLe.eq rfl)) rfl rfl ?_ | refine AO.pure (PureOp.moveP (SLe.eq rfl)) rfl rfl ?_ | refine AO.pure (PureOp.moveA (SLe.eq rfl)) rfl rfl ?_
          first | refine AO.pure (PureOp.moveD (SLe.eq rfl)) rfl rfl ?_ | refine AO.pure (PureOp.moveB (SLe.eq rfl)) rfl rfl ?_ | refine AO.pure (PureOp.moveT (SLe.eq rfl)) rfl rfl ?_ | refine AO.pure (PureOp.moveO (SLe.eq rfl)) rfl rfl ?_ | refine AO.pure (PureOp.moveP (SLe.eq rfl)) rfl rfl ?_ | refine AO.pure (PureOp.moveA (SLe.eq rfl)) rfl rfl ?_
          refine AO.pure (PureOp.pcall (.cons (SLe.eq rfl) (by first | exact .d _ | exact View.osr rfl rfl | exact .bx rfl rfl | exact .agg (by repeat (first | exact .nil | refine .cons (by first | exact .d _ | exact View.osr rfl rfl) ?_)) | exact .fn (by repeat (first | exact .nil | refine .cons (by first | exact .d _ | exact View.osr rfl rfl | exact .bx rfl rfl) ?_))) (.cons (SLe.eq rfl) (by first | exact .d _ | exact View.osr rfl rfl | exact .bx rfl rfl | exact .agg (by repeat (first | exact .nil | refine .cons (by first | exact .d _ | exact View.osr rfl rfl) ?_)) | exact .fn (by repeat (first | exact .nil | refine .cons (by first | exact .d _ | exact View.osr rfl rfl | exact .bx rfl rfl) ?_))) (.cons (SLe.eq rfl) (by first | exact .d _ | exact View.osr rfl rfl | exact .bx rfl rfl | exact .agg (by repeat (first | exact .nil | refine .cons (by first | exact .d _ | exact View.osr rfl rfl) ?_)) | exact .fn (by repeat (first | exact .nil | refine .cons (by first | exact .d _ | exact View.osr rfl rfl | exact .bx rfl rfl) ?_))) .nil))) (line_any l f line hb1) (by kernel_rfl)) rfl rfl ?_
          refine AO.pure (PureOp.field1 (k := 0) (SLe.eq rfl) rfl (by kernel_rfl)) rfl rfl ?_
          first | refine AO.pure (PureOp.assignD (SLe.eq rfl)) rfl rfl ?_ | refine AO.pure (PureOp.assignB (SLe.eq rfl)) rfl rfl ?_ | refine AO.pure (PureOp.assignT (SLe.eq rfl)) rfl rfl ?_ | refine AO.pure (PureOp.assignO (SLe.eq rfl)) rfl rfl ?_ | refine AO.pure (PureOp.assignP (SLe.eq rfl)) rfl rfl ?_ | refine AO.pure (PureOp.assignA (SLe.eq rfl)) rfl rfl ?_
          refine AO.nil ?_
          refine thenQ_normal ?_
          refine AC.seq ?_
          refine AC.region ?_
          first | refine AO.pure (PureOp.moveD (SLe.eq rfl)) rfl rfl ?_ | refine AO.pure (PureOp.moveB (SLe.eq rfl)) rfl rfl ?_ | refine AO.pure (PureOp.moveT (SLe.eq rfl)) rfl rfl ?_ | refine AO.pure (PureOp.moveO (SLe.eq rfl)) rfl rfl ?_ | refine AO.pure (PureOp.moveP (SLe.eq rfl)) rfl rfl ?_ | refine AO.pure (PureOp.moveA (SLe.eq rfl)) rfl rfl ?_
          first | refine AO.pure (PureOp.moveD (SLe.eq rfl)) rfl rfl ?_ | refine AO.pure (PureOp.moveB (SLe.eq rfl)) rfl rfl ?_ | refine AO.pure (PureOp.moveT (SLe.eq rfl)) rfl rfl ?_ | refine AO.pure (PureOp.moveO (SLe.eq rfl)) rfl rfl ?_ | refine AO.pure (PureOp.moveP (SLe.eq rfl)) rfl rfl ?_ | refine AO.pure (PureOp.moveA (SLe.eq rfl)) rfl rfl ?_
          refine AO.pure (PureOp.pcall (.cons (SLe.eq rfl) (by first | exact .d _ | exact View.osr rfl rfl | exact .bx rfl rfl | exact .agg (by repeat (first | exact .nil | refine .cons (by first | exact .d _ | exact View.osr rfl rfl) ?_)) | exact .fn (by repeat (first | exact .nil | refine .cons (by first | exact .d _ | exact View.osr rfl rfl | exact .bx rfl rfl) ?_))) (.cons (SLe.eq rfl) (by first | exact .d _ | exact View.osr rfl rfl | exact .bx rfl rfl | exact .agg (by repeat (first | exact .nil | refine .cons (by first | exact .d _ | exact View.osr rfl rfl) ?_)) | exact .fn (by repeat (first | exact .nil | refine .cons (by first | exact .d _ | exact View.osr rfl rfl | exact .bx rfl rfl) ?_))) .nil)) (has_any (linesS l f) line (hb5 f)) (by kernel_rfl)) rfl rfl ?_
          first | refine AO.pure (PureOp.moveD (SLe.eq rfl)) rfl rfl ?_ | refine AO.pure (PureOp.moveB (SLe.eq rfl)) rfl rfl ?_ | refine AO.pure (PureOp.moveT (SLe.eq rfl)) rfl rfl ?_ | refine AO.pure (PureOp.moveO (SLe.eq rfl)) rfl rfl ?_ | refine AO.pure (PureOp.moveP (SLe.eq rfl)) rfl rfl ?_ | refine AO.pure (PureOp.moveA (SLe.eq rfl)) rfl rfl ?_
          first | refine AO.guarded rfl rfl (fun hG => PureOp.moveD (SLe.eq rfl)) rfl rfl ?_ | refine AO.guarded rfl rfl (fun hG => PureOp.moveB (SLe.eq rfl)) rfl rfl ?_ | refine AO.guarded rfl rfl (fun hG => PureOp.moveT (SLe.eq rfl)) rfl rfl ?_ | refine AO.guarded rfl rfl (fun hG => PureOp.moveO (SLe.eq rfl)) rfl rfl ?_ | refine AO.guarded rfl rfl (fun hG => PureOp.moveP (SLe.eq rfl)) rfl rfl ?_ | refine AO.guarded rfl rfl (fun hG => PureOp.moveA (SLe.eq rfl)) rfl rfl ?_
          refine AO.guarded rfl rfl (fun hG => PureOp.eql (SLe.cnd rfl (by first | exact hG | (simp only [Bool.and_eq_true, beq_iff_eq] at hG ⊢; simp [hG]) | simp_all)) (SLe.eq rfl)) rfl rfl ?_
          refine AO.pure (PureOp.pickAnd (SLe.eq rfl) rfl rfl (by intro h; first | (simp_all; done) | (simp_all; exact Decidable.imp_iff_not_or.1 (by assumption)))) rfl rfl ?_
          first | refine AO.pure (PureOp.moveD (SLe.eq rfl)) rfl rfl ?_ | refine AO.pure (PureOp.moveB (SLe.eq rfl)) rfl rfl ?_ | refine AO.pure (PureOp.moveT (SLe.eq rfl)) rfl rfl ?_ | refine AO.pure (PureOp.moveO (SLe.eq rfl)) rfl rfl ?_ | refine AO.pure (PureOp.moveP (SLe.eq rfl)) rfl rfl ?_ | refine AO.pure (PureOp.moveA (SLe.eq rfl)) rfl rfl ?_
          first | refine AO.guarded rfl rfl (fun hG => PureOp.moveD (SLe.eq rfl)) rfl rfl ?_ | refine AO.guarded rfl rfl (fun hG => PureOp.moveB (SLe.eq rfl)) rfl rfl ?_ | refine AO.guarded rfl rfl (fun hG => PureOp.moveT (SLe.eq rfl)) rfl rfl ?_ | refine AO.guarded rfl rfl (fun hG => PureOp.moveO (SLe.eq rfl)) rfl rfl ?_ | refine AO.guarded rfl rfl (fun hG => PureOp.moveP (SLe.eq rfl)) rfl rfl ?_ | refine AO.guarded rfl rfl (fun hG => PureOp.moveA (SLe.eq rfl)) rfl rfl ?_
          first | refine AO.guarded rfl rfl (fun hG => PureOp.moveD (SLe.eq rfl)) rfl rfl ?_ | refine AO.guarded rfl rfl (fun hG => PureOp.moveB (SLe.eq rfl)) rfl rfl ?_ | refine AO.guarded rfl rfl (fun hG => PureOp.moveT (SLe.eq rfl)) rfl rfl ?_ | refine AO.guarded rfl rfl (fun hG => PureOp.moveO (SLe.eq rfl)) rfl rfl ?_ | refine AO.guarded rfl rfl (fun hG => PureOp.moveP (SLe.eq rfl)) rfl rfl ?_ | refine AO.guarded rfl rfl (fun hG => PureOp.moveA (SLe.eq rfl)) rfl rfl ?_
          refine AO.guarded rfl rfl (fun hG => PureOp.pcall (.cons (SLe.cnd rfl (by first | exact hG | (simp only [Bool.and_eq_true, beq_iff_eq] at hG ⊢; simp [hG]) | simp_all)) (by first | exact .d _ | exact View.osr rfl rfl | exact .bx rfl rfl | exact .agg (by repeat (first | exact .nil | refine .cons (by first | exact .d _ | exact View.osr rfl rfl) ?_)) | exact .fn (by repeat (first | exact .nil | refine .cons (by first | exact .d _ | exact View.osr rfl rfl | exact .bx rfl rfl) ?_))) (.cons (SLe.cnd rfl (by first | exact hG | (simp only [Bool.and_eq_true, beq_iff_eq] at hG ⊢; simp [hG]) | simp_all)) (by first | exact .d _ | exact View.osr rfl rfl | exact .bx rfl rfl | exact .agg (by repeat (first | exact .nil | refine .cons (by first | exact .d _ | exact View.osr rfl rfl) ?_)) | exact .fn (by repeat (first | exact .nil | refine .cons (by first | exact .d _ | exact View.osr rfl rfl | exact .bx rfl rfl) ?_))) .nil)) (has_any (linesS l f) line (hb5 f)) (by kernel_rfl)) rfl rfl ?_
          refine AO.guarded rfl rfl (fun hG => PureOp.not (SLe.cnd rfl (by first | exact hG | (simp only [Bool.and_eq_true, beq_iff_eq] at hG ⊢; simp [hG]) | simp_all))) rfl rfl ?_
          first | refine AO.guarded rfl rfl (fun hG => PureOp.moveD (SLe.cnd rfl (by first | exact hG | (simp only [Bool.and_eq_true, beq_iff_eq] at hG ⊢; simp [hG]) | simp_all))) rfl rfl ?_ | refine AO.guarded rfl rfl (fun hG => PureOp.moveB (SLe.cnd rfl (by first | exact hG | (simp only [Bool.and_eq_true, beq_iff_eq] at hG ⊢; simp [hG]) | simp_all))) rfl rfl ?_ | refine AO.guarded rfl rfl (fun hG => PureOp.moveT (SLe.cnd rfl (by first | exact hG | (simp only [Bool.and_eq_true, beq_iff_eq] at hG ⊢; simp [hG]) | simp_all))) rfl rfl ?_ | refine AO.guarded rfl rfl (fun hG => PureOp.moveO (SLe.cnd rfl (by first | exact hG | (simp only [Bool.and_eq_true, beq_iff_eq] at hG ⊢; simp [hG]) | simp_all))) rfl rfl ?_ | refine AO.guarded rfl rfl (fun hG => PureOp.moveP (SLe.cnd rfl (by first | exact hG | (simp only [Bool.and_eq_true, beq_iff_eq] at hG ⊢; simp [hG]) | simp_all))) rfl rfl ?_ | refine AO.guarded rfl rfl (fun hG => PureOp.moveA (SLe.cnd rfl (by first | exact hG | (simp only [Bool.and_eq_true, beq_iff_eq] at hG ⊢; simp [hG]) | simp_all))) rfl rfl ?_
          first | refine AO.guarded rfl rfl (fun hG => PureOp.moveD (SLe.eq rfl)) rfl rfl ?_ | refine AO.guarded rfl rfl (fun hG => PureOp.moveB (SLe.eq rfl)) rfl rfl ?_ | refine AO.guarded rfl rfl (fun hG => PureOp.moveT (SLe.eq rfl)) rfl rfl ?_ | refine AO.guarded rfl rfl (fun hG => PureOp.moveO (SLe.eq rfl)) rfl rfl ?_ | refine AO.guarded rfl rfl (fun hG => PureOp.moveP (SLe.eq rfl)) rfl rfl ?_ | refine AO.guarded rfl rfl (fun hG => PureOp.moveA (SLe.eq rfl)) rfl rfl ?_
          refine AO.guarded rfl rfl (fun hG => PureOp.neq (SLe.cnd rfl (by first | exact hG | (simp only [Bool.and_eq_true, beq_iff_eq] at hG ⊢; simp [hG]) | simp_all)) (SLe.eq rfl)) rfl rfl ?_
          refine AO.guarded rfl rfl (fun hG => PureOp.pickAnd (SLe.cnd rfl (by first | exact hG | (simp only [Bool.and_eq_true, beq_iff_eq] at hG ⊢; simp [hG]) | simp_all)) rfl rfl (by intro h; first | (simp_all; done) | (simp_all; exact Decidable.imp_iff_not_or.1 (by assumption)))) rfl rfl ?_
          first | refine AO.guarded rfl rfl (fun hG => PureOp.moveD (SLe.cnd rfl (by first | exact hG | (simp only [Bool.and_eq_true, beq_iff_eq] at hG ⊢; simp [hG]) | simp_all))) rfl rfl ?_ | refine AO.guarded rfl rfl (fun hG => PureOp.moveB (SLe.cnd rfl (by first | exact hG | (simp only [Bool.and_eq_true, beq_iff_eq] at hG ⊢; simp [hG]) | simp_all))) rfl rfl ?_ | refine AO.guarded rfl rfl (fun hG => PureOp.moveT (SLe.cnd rfl (by first | exact hG | (simp only [Bool.and_eq_true, beq_iff_eq] at hG ⊢; simp [hG]) | simp_all))) rfl rfl ?_ | refine AO.guarded rfl rfl (fun hG => PureOp.moveO (SLe.cnd rfl (by first | exact hG | (simp only [Bool.and_eq_true, beq_iff_eq] at hG ⊢; simp [hG]) | simp_all))) rfl rfl ?_ | refine AO.guarded rfl rfl (fun hG => PureOp.moveP (SLe.cnd rfl (by first | exact hG | (simp only [Bool.and_eq_true, beq_iff_eq] at hG ⊢; simp [hG]) | simp_all))) rfl rfl ?_ | refine AO.guarded rfl rfl (fun hG => PureOp.moveA (SLe.cnd rfl (by first | exact hG | (simp only [Bool.and_eq_true, beq_iff_eq] at hG ⊢; simp [hG]) | simp_all))) rfl rfl ?_
          first | refine AO.guarded rfl rfl (fun hG => PureOp.moveD (SLe.eq rfl)) rfl rfl ?_ | refine AO.guarded rfl rfl (fun hG => PureOp.moveB (SLe.eq rfl)) rfl rfl ?_ | refine AO.guarded rfl rfl (fun hG => PureOp.moveT (SLe.eq rfl)) rfl rfl ?_ | refine AO.guarded rfl rfl (fun hG => PureOp.moveO (SLe.eq rfl)) rfl rfl ?_ | refine AO.guarded rfl rfl (fun hG => PureOp.moveP (SLe.eq rfl)) rfl rfl ?_ | refine AO.guarded rfl rfl (fun hG => PureOp.moveA (SLe.eq rfl)) rfl rfl ?_
          refine AO.guarded rfl rfl (fun hG => PureOp.neq (SLe.cnd rfl (by first | exact hG | (simp only [Bool.and_eq_true, beq_iff_eq] at hG ⊢; simp [hG]) | simp_all)) (SLe.eq rfl)) rfl rfl ?_
          refine AO.guarded rfl rfl (fun hG => PureOp.pickAnd (SLe.cnd rfl (by first | exact hG | (simp only [Bool.and_eq_true, beq_iff_eq] at hG ⊢; simp [hG]) | simp_all)) rfl rfl (by intro h; first | (simp_all; done) | (simp_all; exact Decidable.imp_iff_not_or.1 (by assumption)))) rfl rfl ?_
          refine AO.pure (PureOp.pickOr (SLe.eq rfl) rfl rfl (by intro h; first | (simp_all; done) | (simp_all; exact Decidable.imp_iff_not_or.1 (by assumption)))) rfl rfl ?_
          refine AO.nil ?_
          refine thenQ_normal ?_
          refine AC.cond (SLe.eq rfl) (fun hb => ?_) (fun hb => ?_)
          · skip
            obtain ⟨p1, p2⟩ := lines_plain hok c1 f line
            by_cases hm : (line : Int) ∈ linesS l f
            · have := p1 hm; simp [hm, this] at hb
            · have := p2 hm; simp [hm] at hb; omega
          · skip
            refine AC.skip ?_
            refine blockQ_normal ?_
            refine thenQ_normal ?_
            refine AC.region ?_
            first | refine AO.pure (PureOp.moveD (SLe.eq rfl)) rfl rfl ?_ | refine AO.pure (PureOp.moveB (SLe.eq rfl)) rfl rfl ?_ | refine AO.pure (PureOp.moveT (SLe.eq rfl)) rfl rfl ?_ | refine AO.pure (PureOp.moveO (SLe.eq rfl)) rfl rfl ?_ | refine AO.pure (PureOp.moveP (SLe.eq rfl)) rfl rfl ?_ | refine AO.pure (PureOp.moveA (SLe.eq rfl)) rfl rfl ?_
            refine AO.pure (PureOp.add (SLe.eq rfl) (SLe.eq rfl) (by omega) (by omega)) rfl rfl ?_
            first | refine AO.pure (PureOp.assignD (SLe.eq rfl)) rfl rfl ?_ | refine AO.pure (PureOp.assignB (SLe.eq rfl)) rfl rfl ?_ | refine AO.pure (PureOp.assignT (SLe.eq rfl)) rfl rfl ?_ | refine AO.pure (PureOp.assignO (SLe.eq rfl)) rfl rfl ?_ | refine AO.pure (PureOp.assignP (SLe.eq rfl)) rfl rfl ?_ | refine AO.pure (PureOp.assignA (SLe.eq rfl)) rfl rfl ?_
            refine AO.nil ?_
            refine thenQ_normal ?_
            refine ⟨line + 1, (by omega), (by omega), ?_⟩
            refine Le.mk [] ⟨(by first | exact ⟨SLe.eq rfl, rfl⟩ | exact rfl | exact ⟨SLe.nil rfl, rfl⟩ | exact ⟨SLe.int rfl (by omega), rfl⟩ | exact ⟨SLe.bool rfl (by simp_all), rfl⟩ | exact ⟨SLe.sl rfl (by simp_all), rfl⟩), (by first | exact ⟨SLe.eq rfl, rfl⟩ | exact rfl | exact ⟨SLe.nil rfl, rfl⟩ | exact ⟨SLe.int rfl (by omega), rfl⟩ | exact ⟨SLe.bool rfl (by simp_all), rfl⟩ | exact ⟨SLe.sl rfl (by simp_all), rfl⟩), (by first | exact ⟨SLe.eq rfl, rfl⟩ | exact rfl | exact ⟨SLe.nil rfl, rfl⟩ | exact ⟨SLe.int rfl (by omega), rfl⟩ | exact ⟨SLe.bool rfl (by simp_all), rfl⟩ | exact ⟨SLe.sl rfl (by simp_all), rfl⟩), (by first | exact ⟨SLe.eq rfl, rfl⟩ | exact rfl | exact ⟨SLe.nil rfl, rfl⟩ | exact ⟨SLe.int rfl (by omega), rfl⟩ | exact ⟨SLe.bool rfl (by simp_all), rfl⟩ | exact ⟨SLe.sl rfl (by simp_all), rfl⟩), trivial⟩ trivial trivial rfl rfl rfl rfl rfl
        · skip
          refine AC.exit ?_
          refine thenQ_exit ?_
          refine thenQ_exit ?_
          refine blockQ_hit ?_
          refine thenQ_normal ?_
          refine AC.seq ?_
          refine AC.region ?_
          first | refine AO.pure (PureOp.moveD (SLe.eq rfl)) rfl rfl ?_ | refine AO.pure (PureOp.moveB (SLe.eq rfl)) rfl rfl ?_ | refine AO.pure (PureOp.moveT (SLe.eq rfl)) rfl rfl ?_ | refine AO.pure (PureOp.moveO (SLe.eq rfl)) rfl rfl ?_ | refine AO.pure (PureOp.moveP (SLe.eq rfl)) rfl rfl ?_ | refine AO.pure (PureOp.moveA (SLe.eq rfl)) rfl rfl ?_
          first | refine AO.pure (PureOp.moveD (SLe.eq rfl)) rfl rfl ?_ | refine AO.pure (PureOp.moveB (SLe.eq rfl)) rfl rfl ?_ | refine AO.pure (PureOp.moveT (SLe.eq rfl)) rfl rfl ?_ | refine AO.pure (PureOp.moveO (SLe.eq rfl)) rfl rfl ?_ | refine AO.pure (PureOp.moveP (SLe.eq rfl)) rfl rfl ?_ | refine AO.pure (PureOp.moveA (SLe.eq rfl)) rfl rfl ?_
          refine AO.pure (PureOp.pcall (.cons (SLe.eq rfl) (by first | exact .d _ | exact View.osr rfl rfl | exact .bx rfl rfl | exact .agg (by repeat (first | exact .nil | refine .cons (by first | exact .d _ | exact View.osr rfl rfl) ?_)) | exact .fn (by repeat (first | exact .nil | refine .cons (by first | exact .d _ | exact View.osr rfl rfl | exact .bx rfl rfl) ?_))) (.cons (SLe.eq rfl) (by first | exact .d _ | exact View.osr rfl rfl | exact .bx rfl rfl | exact .agg (by repeat (first | exact .nil | refine .cons (by first | exact .d _ | exact View.osr rfl rfl) ?_)) | exact .fn (by repeat (first | exact .nil | refine .cons (by first | exact .d _ | exact View.osr rfl rfl | exact .bx rfl rfl) ?_))) .nil)) (last_any l f hb1) (by kernel_rfl)) rfl rfl ?_
          refine AO.pure (PureOp.eql (SLe.eq rfl) (SLe.eq rfl)) rfl rfl ?_
          first | refine AO.pure (PureOp.moveD (SLe.eq rfl)) rfl rfl ?_ | refine AO.pure (PureOp.moveB (SLe.eq rfl)) rfl rfl ?_ | refine AO.pure (PureOp.moveT (SLe.eq rfl)) rfl rfl ?_ | refine AO.pure (PureOp.moveO (SLe.eq rfl)) rfl rfl ?_ | refine AO.pure (PureOp.moveP (SLe.eq rfl)) rfl rfl ?_ | refine AO.pure (PureOp.moveA (SLe.eq rfl)) rfl rfl ?_
          first | refine AO.guarded rfl rfl (fun hG => PureOp.moveD (SLe.eq rfl)) rfl rfl ?_ | refine AO.guarded rfl rfl (fun hG => PureOp.moveB (SLe.eq rfl)) rfl rfl ?_ | refine AO.guarded rfl rfl (fun hG => PureOp.moveT (SLe.eq rfl)) rfl rfl ?_ | refine AO.guarded rfl rfl (fun hG => PureOp.moveO (SLe.eq rfl)) rfl rfl ?_ | refine AO.guarded rfl rfl (fun hG => PureOp.moveP (SLe.eq rfl)) rfl rfl ?_ | refine AO.guarded rfl rfl (fun hG => PureOp.moveA (SLe.eq rfl)) rfl rfl ?_
          first | refine AO.guarded rfl rfl (fun hG => PureOp.len (e := 3) (s' := 1) (SLe.cnd rfl (by first | exact hG | (simp only [Bool.and_eq_true, beq_iff_eq] at hG ⊢; simp [hG]) | simp_all)) (by kernel_rfl)) rfl rfl ?_ | refine AO.guarded rfl rfl (fun hG => PureOp.lenR (e := 3) (s' := 1) (SLe.cnd rfl (by first | exact hG | (simp only [Bool.and_eq_true, beq_iff_eq] at hG ⊢; simp [hG]) | simp_all)) rfl rfl (by kernel_rfl)) rfl rfl ?_ | refine AO.guarded rfl rfl (fun hG => PureOp.lenNil (e := 3) (s' := 1) (SLe.cnd rfl (by first | exact hG | (simp only [Bool.and_eq_true, beq_iff_eq] at hG ⊢; simp [hG]) | simp_all)) (by kernel_rfl)) rfl rfl ?_
          refine AO.guarded rfl rfl (fun hG => PureOp.gtr (SLe.cnd rfl (by first | exact hG | (simp only [Bool.and_eq_true, beq_iff_eq] at hG ⊢; simp [hG]) | simp_all)) (SLe.eq rfl)) rfl rfl ?_
          first | refine AO.guarded rfl rfl (fun hG => PureOp.moveD (SLe.cnd rfl (by first | exact hG | (simp only [Bool.and_eq_true, beq_iff_eq] at hG ⊢; simp [hG]) | simp_all))) rfl rfl ?_ | refine AO.guarded rfl rfl (fun hG => PureOp.moveB (SLe.cnd rfl (by first | exact hG | (simp only [Bool.and_eq_true, beq_iff_eq] at hG ⊢; simp [hG]) | simp_all))) rfl rfl ?_ | refine AO.guarded rfl rfl (fun hG => PureOp.moveT (SLe.cnd rfl (by first | exact hG | (simp only [Bool.and_eq_true, beq_iff_eq] at hG ⊢; simp [hG]) | simp_all))) rfl rfl ?_ | refine AO.guarded rfl rfl (fun hG => PureOp.moveO (SLe.cnd rfl (by first | exact hG | (simp only [Bool.and_eq_true, beq_iff_eq] at hG ⊢; simp [hG]) | simp_all))) rfl rfl ?_ | refine AO.guarded rfl rfl (fun hG => PureOp.moveP (SLe.cnd rfl (by first | exact hG | (simp only [Bool.and_eq_true, beq_iff_eq] at hG ⊢; simp [hG]) | simp_all))) rfl rfl ?_ | refine AO.guarded rfl rfl (fun hG => PureOp.moveA (SLe.cnd rfl (by first | exact hG | (simp only [Bool.and_eq_true, beq_iff_eq] at hG ⊢; simp [hG]) | simp_all))) rfl rfl ?_
          first | refine AO.guarded rfl rfl (fun hG => PureOp.moveD (SLe.eq rfl)) rfl rfl ?_ | refine AO.guarded rfl rfl (fun hG => PureOp.moveB (SLe.eq rfl)) rfl rfl ?_ | refine AO.guarded rfl rfl (fun hG => PureOp.moveT (SLe.eq rfl)) rfl rfl ?_ | refine AO.guarded rfl rfl (fun hG => PureOp.moveO (SLe.eq rfl)) rfl rfl ?_ | refine AO.guarded rfl rfl (fun hG => PureOp.moveP (SLe.eq rfl)) rfl rfl ?_ | refine AO.guarded rfl rfl (fun hG => PureOp.moveA (SLe.eq rfl)) rfl rfl ?_
          first | refine AO.guarded rfl rfl (fun hG => PureOp.moveD (SLe.eq rfl)) rfl rfl ?_ | refine AO.guarded rfl rfl (fun hG => PureOp.moveB (SLe.eq rfl)) rfl rfl ?_ | refine AO.guarded rfl rfl (fun hG => PureOp.moveT (SLe.eq rfl)) rfl rfl ?_ | refine AO.guarded rfl rfl (fun hG => PureOp.moveO (SLe.eq rfl)) rfl rfl ?_ | refine AO.guarded rfl rfl (fun hG => PureOp.moveP (SLe.eq rfl)) rfl rfl ?_ | refine AO.guarded rfl rfl (fun hG => PureOp.moveA (SLe.eq rfl)) rfl rfl ?_
          refine AO.guarded rfl rfl (fun hG => PureOp.pcall (.cons (SLe.cnd rfl (by first | exact hG | (simp only [Bool.and_eq_true, beq_iff_eq] at hG ⊢; simp [hG]) | simp_all)) (by first | exact .d _ | exact View.osr rfl rfl | exact .bx rfl rfl | exact .agg (by repeat (first | exact .nil | refine .cons (by first | exact .d _ | exact View.osr rfl rfl) ?_)) | exact .fn (by repeat (first | exact .nil | refine .cons (by first | exact .d _ | exact View.osr rfl rfl | exact .bx rfl rfl) ?_))) (.cons (SLe.cnd rfl (by first | exact hG | (simp only [Bool.and_eq_true, beq_iff_eq] at hG ⊢; simp [hG]) | simp_all)) (by first | exact .d _ | exact View.osr rfl rfl | exact .bx rfl rfl | exact .agg (by repeat (first | exact .nil | refine .cons (by first | exact .d _ | exact View.osr rfl rfl) ?_)) | exact .fn (by repeat (first | exact .nil | refine .cons (by first | exact .d _ | exact View.osr rfl rfl | exact .bx rfl rfl) ?_))) .nil)) (refused_any l f hb3) (by kernel_rfl)) rfl rfl ?_
          refine AO.guarded rfl rfl (fun hG => PureOp.pickOr (SLe.cnd rfl (by first | exact hG | (simp only [Bool.and_eq_true, beq_iff_eq] at hG ⊢; simp [hG]) | simp_all)) rfl rfl (by intro h; first | (simp_all; done) | (simp_all; exact Decidable.imp_iff_not_or.1 (by assumption)))) rfl rfl ?_
          refine AO.pure (PureOp.pickAnd (SLe.eq rfl) rfl rfl (by intro h; first | (simp_all; done) | (simp_all; exact Decidable.imp_iff_not_or.1 (by assumption)))) rfl rfl ?_
          refine AO.nil ?_
          refine thenQ_normal ?_
          refine AC.cond (SLe.eq rfl) (fun hb => ?_) (fun hb => ?_)
          · skip
            by_cases hm : lastS l f = -1
            · obtain ⟨p1, p2⟩ := last_none hok c1 hm; rw [p1, p2] at hb; simp [ir] at hb
            · simp [hm] at hb
          · skip
            refine AC.skip ?_
            refine blockQ_normal ?_
            refine thenQ_normal ?_
            refine AC.region ?_
            first | refine AO.pure (PureOp.moveD (SLe.eq rfl)) rfl rfl ?_ | refine AO.pure (PureOp.moveB (SLe.eq rfl)) rfl rfl ?_ | refine AO.pure (PureOp.moveT (SLe.eq rfl)) rfl rfl ?_ | refine AO.pure (PureOp.moveO (SLe.eq rfl)) rfl rfl ?_ | refine AO.pure (PureOp.moveP (SLe.eq rfl)) rfl rfl ?_ | refine AO.pure (PureOp.moveA (SLe.eq rfl)) rfl rfl ?_
            refine AO.pure (PureOp.add (SLe.eq rfl) (SLe.eq rfl) (by omega) (by omega)) rfl rfl ?_
            first | refine AO.pure (PureOp.assignD (SLe.eq rfl)) rfl rfl ?_ | refine AO.pure (PureOp.assignB (SLe.eq rfl)) rfl rfl ?_ | refine AO.pure (PureOp.assignT (SLe.eq rfl)) rfl rfl ?_ | refine AO.pure (PureOp.assignO (SLe.eq rfl)) rfl rfl ?_ | refine AO.pure (PureOp.assignP (SLe.eq rfl)) rfl rfl ?_ | refine AO.pure (PureOp.assignA (SLe.eq rfl)) rfl rfl ?_
            refine AO.nil ?_
            refine thenQ_normal ?_
            refine ⟨f + 1, ⟨by omega, by omega⟩, (by omega), ?_⟩
            refine Le.mk [] ⟨(by first | exact ⟨SLe.eq rfl, rfl⟩ | exact rfl | exact ⟨SLe.nil rfl, rfl⟩ | exact ⟨SLe.int rfl (by omega), rfl⟩ | exact ⟨SLe.bool rfl (by simp_all), rfl⟩ | exact ⟨SLe.sl rfl (by simp_all), rfl⟩), (by first | exact ⟨SLe.eq rfl, rfl⟩ | exact rfl | exact ⟨SLe.nil rfl, rfl⟩ | exact ⟨SLe.int rfl (by omega), rfl⟩ | exact ⟨SLe.bool rfl (by simp_all), rfl⟩ | exact ⟨SLe.sl rfl (by simp_all), rfl⟩), trivial⟩ trivial trivial rfl rfl rfl rfl rfl
    · skip
      refine AC.exit ?_
      refine thenQ_exit ?_
      refine thenQ_exit ?_
      refine blockQ_hit ?_
      refine thenQ_normal ?_
      refine AC.seq ?_
      refine AC.region ?_
      refine AO.pure (PureOp.pcall .nil (awake_any) (by kernel_rfl)) rfl rfl ?_
      first | refine AO.pure (PureOp.assignD (SLe.eq rfl)) rfl rfl ?_ | refine AO.pure (PureOp.assignB (SLe.eq rfl)) rfl rfl ?_ | refine AO.pure (PureOp.assignT (SLe.eq rfl)) rfl rfl ?_ | refine AO.pure (PureOp.assignO (SLe.eq rfl)) rfl rfl ?_ | refine AO.pure (PureOp.assignP (SLe.eq rfl)) rfl rfl ?_ | refine AO.pure (PureOp.assignA (SLe.eq rfl)) rfl rfl ?_
      refine AO.nil ?_
      refine thenQ_normal ?_
      refine AC.ret ?_
      refine ⟨rfl, _, ?_, ResOf.one (by first | exact GetR.flat (SLe.eq rfl) rfl | exact GetR.nil (SLe.eq rfl) | exact GetR.ownR (SLe.eq rfl) rfl rfl (by simp [flatRows, D.flat]) | exact GetR.any (SLe.eq rfl) | exact GetR.ownA (SLe.eq rfl) rfl rfl)⟩
      rfl

end Vis
end Eng
end Go.Proofs.Ytmmekdkllccmdab
