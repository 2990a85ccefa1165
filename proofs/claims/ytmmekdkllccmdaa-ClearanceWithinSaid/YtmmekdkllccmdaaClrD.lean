/-
  Chapter 41: slices.SortStableFunc at findings, fewer than twenty of them.
-/
import Derived.Test.YtmmekdkllccmdaaClrC
import Derived.Test.YtmmekdkllccmdaaLaySort
namespace Go.Proofs.Ytmmekdkllccmdaa
open Go.RowKit Go.Sort Go.Shelf Go.Lib
set_option linter.unusedVariables false
namespace Clr
open Cal (ret_bool ret_int int_eq)
def cfm (x y : Fd) : Int := cmpI y.m x.m
theorem swo : SWO (ltOf cfm) := by
  have h : ∀ x y, ltOf cfm x y = decide (y.m < x.m) := by
    intro x y
    unfold ltOf cfm cmpI
    by_cases h : y.m < x.m
    · rw [if_pos h, decide_eq_true h]; rfl
    · rw [if_neg h, decide_eq_false h]
      split <;> rfl
  refine ⟨fun x => ?_, fun x y z => ?_, fun x y z => ?_⟩
  · rw [h]; simp
  · rw [h, h, h]; simp; omega
  · rw [h, h, h]; simp; omega

set_option maxHeartbeats 400000 in
theorem closure_any (x y : Fd) (W : World) : Calls Try.prog 71 #[.agg #[.int .i64 x.n, .int .i64 x.s, .int .i64 x.f, .int .i64 x.u, .int .i64 x.m], .agg #[.int .i64 y.n, .int .i64 y.s, .int .i64 y.f, .int .i64 y.u, .int .i64 y.m]] W fun e w' => e = .returned (.int .i64 (cfm x y)) ∧ ∃ q os', w' = grow (W.drewN q) os' := by
  obtain ⟨xn, xs, xf, xu, xm⟩ := x
  obtain ⟨yn, ys, yf, yu, ym⟩ := y
  simp only [cfm]
  generalize hr : cmpI ym xm = r
  go_enter Try.func71, Try.ntmps71
  go_wp2_with (go_at_call 72; refine (compare_any _ _ _).mono ?_; rw [hr]; rintro e w' ⟨rfl, rfl⟩)
  go_ret
  exact ⟨rfl, 0, _, by rw [alloc_eq_grow, alloc_eq_grow, grow_grow]; rfl⟩

theorem insert_any (blk off cap a b : Nat) (d : Array Fd) (w : World) (hH : HoldsK Fd.vs 5 w blk off d) (hblk : blk < w.heap.size) (hab : a ≤ b) (hb : b ≤ d.size) (hsz : d.size < 4611686018427387904) :
    Calls Try.prog 131 #[.slice (some ⟨blk, off, none⟩) d.size cap, .int .i64 a, .int .i64 b, .func (.func 71) #[] #[]] w fun e w' =>
      e = .returned (.tuple #[]) ∧ ∃ n os, w' = sortWorldK Fd.vs 5 w blk off n (Sort.insertionSort (ltOf cfm) d a b) os :=
  Go.Proofs.AnyQ.insertionSortCmpFunc Go.Proofs.Try.sortFd 5 Try.isAgg32 Try.sizeOf32 Fd.vs (fun _ => rfl) (fun x v hv => by simp [Fd.vs] at hv; rcases hv with rfl | rfl | rfl | rfl | rfl <;> rfl) cfm 71 #[] blk off cap a b d w
    (enters_of Try.func71 (by kernel_rfl) rfl) (fun _ _ _ _ x y => closure_any x y _) hH hblk hab hb hsz

set_option maxHeartbeats 400000 in
theorem insert_none (ad : Option Addr) (cap : Nat) (w : World) :
    Calls Try.prog 131 #[.slice ad 0 cap, .int .i64 0, .int .i64 0, .func (.func 71) #[] #[]] w fun e w' => e = .returned (.tuple #[]) ∧ w = w' := by
  go_enter Try.func131, Try.ntmps131
  go_wp2
  refine wp_loop_rounds 1 ?_
  rw [rounds_succ]
  go_wp2
  go_end0
  exact ⟨rfl, rfl⟩

set_option maxHeartbeats 1600000 in
/-- The sort of a whole slice of fewer than twenty, given what one insertion sort of it does. -/
theorem stable_any (ad : Option Addr) (n cap : Nat) (hn : n < 20) (w : World) (P : World → Prop)
    (h : Calls Try.prog 131 #[.slice ad n cap, .int .i64 0, .int .i64 n, .func (.func 71) #[] #[]] w fun e w' => e = .returned (.tuple #[]) ∧ P w') :
    Calls Try.prog 110 #[.slice ad n cap, .int .i64 n, .func (.func 71) #[] #[]] w fun e w' => e = .returned (.tuple #[]) ∧ P w' := by
  have h1 : ¬ 20 ≤ n := by omega
  go_enter Try.func110, Try.ntmps110
  go_wp2
  refine wp_loop_rounds 1 ?_
  rw [rounds_succ]
  go_wp2_with fail
  refine h.mono ?_
  rintro e w' ⟨rfl, hP⟩
  have hP' := Lib.hid hP
  clear hP h
  go_wp2
  refine wp_loop_rounds 1 ?_
  rw [rounds_succ]
  go_wp2
  go_end0
  exact ⟨rfl, hP'.out⟩
end Clr
end Go.Proofs.Ytmmekdkllccmdaa
