/-
  Chapter 41: slices.SortStableFunc at findings, up to twenty of them; what a share of an amount is.
-/
import Derived.Test.YtmmekdkllccmdaaEgS
import Derived.Test.YtmmekdkllccmdaaEgO
import Derived.Test.YtmmekdkllccmdaaTy
import Derived.Test.YtmmekdkllccmdaaLaySort
import Derived.Test.YtmmekdkllccmdaaExact
namespace Go.Proofs.Ytmmekdkllccmdaa
open Go.RowKit Go.Sort Go.Shelf Go.Lib
set_option linter.unusedVariables false
namespace Eng
namespace Clr
def vs (x : api_Finding) : List Value := [.int .i64 x.Number, .int .i64 x.Schemes, .int .i64 x.From, .int .i64 x.Until, .int .i64 x.Mille]
def cmpI (a b : Int) : Int := if a < b then -1 else if b < a then 1 else 0
def cfm (x y : api_Finding) : Int := cmpI y.Mille x.Mille
theorem nan_any (x : Int) (w : World) : Calls Try.prog 111 #[.int .i64 x] w fun e w' => e = .returned (.bool false) ∧ w = w' := by
  go_enter Try.func111, Try.ntmps111
  go_wp2
  go_ret
  exact ⟨congrArg (fun b => Ending.returned (.bool b)) (by simp), rfl⟩
theorem compare_any (a b : Int) (w : World) : Calls Try.prog 72 #[.int .i64 a, .int .i64 b] w fun e w' => e = .returned (.int .i64 (cmpI a b)) ∧ w = w' := by
  have h : a < b ∨ (¬ a < b ∧ b < a) ∨ (¬ a < b ∧ ¬ b < a) := by omega
  rcases h with h | ⟨h, h2⟩ | ⟨h, h2⟩
  · rw [show cmpI a b = -1 by unfold cmpI; rw [if_pos h]]
    go_enter Try.func72, Try.ntmps72
    go_wp2_with (go_at_call 111; refine (nan_any _ _).mono ?_; rintro e w' ⟨rfl, rfl⟩)
    go_ret
    exact ⟨rfl, rfl⟩
  · rw [show cmpI a b = 1 by unfold cmpI; rw [if_neg h, if_pos h2]]
    go_enter Try.func72, Try.ntmps72
    go_wp2_with (go_at_call 111; refine (nan_any _ _).mono ?_; rintro e w' ⟨rfl, rfl⟩)
    go_ret
    exact ⟨rfl, rfl⟩
  · rw [show cmpI a b = 0 by unfold cmpI; rw [if_neg h, if_neg h2]]
    go_enter Try.func72, Try.ntmps72
    go_wp2_with (go_at_call 111; refine (nan_any _ _).mono ?_; rintro e w' ⟨rfl, rfl⟩)
    go_ret
    exact ⟨rfl, rfl⟩
theorem swo : SWO (ltOf cfm) := by
  have h : ∀ x y, ltOf cfm x y = decide (y.Mille < x.Mille) := by
    intro x y
    unfold ltOf cfm cmpI
    by_cases h : y.Mille < x.Mille
    · rw [if_pos h, decide_eq_true h]; rfl
    · rw [if_neg h, decide_eq_false h]
      split <;> rfl
  refine ⟨fun x => ?_, fun x y z => ?_, fun x y z => ?_⟩
  · rw [h]; simp
  · rw [h, h, h]; simp; omega
  · rw [h, h, h]; simp; omega
set_option maxHeartbeats 400000 in
theorem closure_any (x y : api_Finding) (W : World) : Calls Try.prog 71 #[.agg #[.int .i64 x.Number, .int .i64 x.Schemes, .int .i64 x.From, .int .i64 x.Until, .int .i64 x.Mille], .agg #[.int .i64 y.Number, .int .i64 y.Schemes, .int .i64 y.From, .int .i64 y.Until, .int .i64 y.Mille]] W fun e w' => e = .returned (.int .i64 (cfm x y)) ∧ ∃ q os', w' = grow (W.drewN q) os' := by
  obtain ⟨xn, xs, xf, xu, xm⟩ := x
  obtain ⟨yn, ys, yf, yu, ym⟩ := y
  simp only [cfm]
  generalize hr : cmpI ym xm = r
  go_enter Try.func71, Try.ntmps71
  go_wp2_with (go_at_call 72; refine (compare_any _ _ _).mono ?_; rw [hr]; rintro e w' ⟨rfl, rfl⟩)
  go_ret
  exact ⟨rfl, 0, _, by rw [alloc_eq_grow, alloc_eq_grow, grow_grow]; rfl⟩
theorem insert_any (blk off cap a b : Nat) (d : Array api_Finding) (w : World) (hH : HoldsK vs 5 w blk off d) (hblk : blk < w.heap.size) (hab : a ≤ b) (hb : b ≤ d.size) (hsz : d.size < 4611686018427387904) :
    Calls Try.prog 131 #[.slice (some ⟨blk, off, none⟩) d.size cap, .int .i64 a, .int .i64 b, .func (.func 71) #[] #[]] w fun e w' =>
      e = .returned (.tuple #[]) ∧ ∃ n os, w' = sortWorldK vs 5 w blk off n (Sort.insertionSort (ltOf cfm) d a b) os :=
  Go.Proofs.AnyQ.insertionSortCmpFunc Go.Proofs.Try.sortFd 5 Try.isAgg32 Try.sizeOf32 vs (fun _ => rfl) (fun x v hv => by simp [vs] at hv; rcases hv with rfl | rfl | rfl | rfl | rfl <;> rfl) cfm 71 #[] blk off cap a b d w
    (enters_of Try.func71 (by kernel_rfl) rfl) (fun _ _ _ _ x y => closure_any x y _) hH hblk hab hb hsz
set_option maxHeartbeats 400000 in
theorem insert_none (ad : Option Addr) (cap : Nat) (w : World) :
    Calls Try.prog 131 #[.slice ad 0 cap, .int .i64 0, .int .i64 0, .func (.func 71) #[] #[]] w fun e w' => e = .returned (.tuple #[]) ∧ w = w' := by
  go_enter Try.func131, Try.ntmps131
  go_wp2
  refine wp_loop_rounds 1 ?_
  rw [rounds_succ]
  go_wp2
  go_end0
  exact ⟨rfl, rfl⟩
set_option maxHeartbeats 400000 in
theorem insert_end (ad : Option Addr) (n cap a : Nat) (ha : a < 4611686018427387904) (w : World) :
    Calls Try.prog 131 #[.slice ad n cap, .int .i64 a, .int .i64 a, .func (.func 71) #[] #[]] w fun e w' => e = .returned (.tuple #[]) ∧ w = w' := by
  have h1 : IntKind.i64.wrap ((a : Int) + 1) = (a : Int) + 1 := by rw [IntWalk.i64_in _ (by omega)]
  have h2 : ¬ (a : Int) + 1 < (a : Int) := by omega
  go_enter Try.func131, Try.ntmps131
  go_wp2
  refine wp_loop_rounds 1 ?_
  rw [rounds_succ]
  go_wp2
  go_end0
  exact ⟨rfl, rfl⟩
set_option maxHeartbeats 1600000 in
/-- The sort of a whole slice of fewer than twenty, given what one insertion sort of it does. -/
theorem stable_any (ad : Option Addr) (n cap : Nat) (hn : n < 20) (w : World) (P : World → Prop)
    (h : Calls Try.prog 131 #[.slice ad n cap, .int .i64 0, .int .i64 n, .func (.func 71) #[] #[]] w fun e w' => e = .returned (.tuple #[]) ∧ P w') :
    Calls Try.prog 110 #[.slice ad n cap, .int .i64 n, .func (.func 71) #[] #[]] w fun e w' => e = .returned (.tuple #[]) ∧ P w' := by
  have h1 : ¬ 20 ≤ n := by omega
  go_enter Try.func110, Try.ntmps110
  go_wp2
  refine wp_loop_rounds 1 ?_
  rw [rounds_succ]
  go_wp2_with fail
  refine h.mono ?_
  rintro e w' ⟨rfl, hP⟩
  have hP' := Lib.hid hP
  clear hP h
  go_wp2
  refine wp_loop_rounds 1 ?_
  rw [rounds_succ]
  go_wp2
  go_end0
  exact ⟨rfl, hP'.out⟩
set_option maxHeartbeats 1600000 in
theorem stable_20 (ad : Option Addr) (cap : Nat) (w : World) (P : World → Prop)
    (h : Calls Try.prog 131 #[.slice ad 20 cap, .int .i64 0, .int .i64 20, .func (.func 71) #[] #[]] w fun e w' => e = .returned (.tuple #[]) ∧ P w') :
    Calls Try.prog 110 #[.slice ad 20 cap, .int .i64 20, .func (.func 71) #[] #[]] w fun e w' => e = .returned (.tuple #[]) ∧ P w' := by
  go_enter Try.func110, Try.ntmps110
  go_wp2
  refine wp_loop_rounds 2 ?_
  rw [rounds_succ]
  go_wp2_with fail
  refine h.mono ?_
  rintro e w' ⟨rfl, hP⟩
  have hP' := Lib.hid hP
  clear hP h
  go_wp2
  rw [rounds_succ]
  go_wp2_with (go_at_call 131; refine (insert_end ad 20 cap 20 (by omega) _).mono ?_; rintro e w' ⟨rfl, rfl⟩)
  refine wp_loop_rounds 1 ?_
  rw [rounds_succ]
  go_wp2
  go_end0
  exact ⟨rfl, hP'.out⟩
/-- What the sort does to the findings. -/
def Sorted (l l' : List api_Finding) : Prop := l'.Perm l ∧ l'.Pairwise (fun x y => y.Mille ≤ x.Mille)
theorem sorts : SortsK Try.prog 70 (.func (.func 71) #[] #[]) vs 5 20 Sorted := by
  refine ⟨fun w => ?_, fun g cap l w hl hH hg => ?_⟩
  · have hs := stable_any none 0 0 (by omega) w (fun w' => w = w') (insert_none none 0 w)
    have hs' := Lib.hid hs
    clear hs
    go_enter Try.func70, Try.ntmps70
    go_wp2_with (go_at_call 110; refine hs'.out.mono ?_; rintro e w' ⟨rfl, rfl⟩)
    go_end0
    exact ⟨rfl, rfl⟩
  · obtain ⟨n, hn⟩ : ∃ n, l.length = n := ⟨_, rfl⟩
    have hd : l.toArray.size = n := by simpa using hn
    have hi := insert_any g 0 cap 0 n l.toArray w hH hg (by omega) (by omega) (by omega)
    rw [hd] at hi
    have hP := insertionSort_holds (lt := ltOf cfm) swo l.toArray 0 n (by omega) (by omega)
    obtain ⟨D, hD⟩ : ∃ D, Sort.insertionSort (ltOf cfm) l.toArray 0 n = D := ⟨_, rfl⟩
    rw [hD] at hi hP
    have hs := Lib.hid (show Calls Try.prog 110 #[.slice (some ⟨g, 0, none⟩) n cap, .int .i64 n, .func (.func 71) #[] #[]] w _ from by
      rcases Nat.lt_or_ge n 20 with h | h
      · exact stable_any (some ⟨g, 0, none⟩) n cap h w _ hi
      · have : n = 20 := by omega
        subst this
        exact stable_20 (some ⟨g, 0, none⟩) cap w _ hi)
    obtain ⟨⟨hsz, _, hperm⟩, hsorted⟩ := hP
    have hsz2 : D.size = n := by omega
    have hp2 : D.toList.Perm l := by
      rw [← hsz2] at hperm
      have h2 : l.toArray.extract 0 D.size = l.toArray := by rw [hsz]; simp
      rw [h2] at hperm
      simpa using hperm
    have hpw : D.toList.Pairwise (fun x y => y.Mille ≤ x.Mille) := by
      rw [List.pairwise_iff_getElem]
      intro i j hi hj hij
      have := hsorted i j (by omega) hij (by simpa [hsz2] using hj)
      have hi2 : i < D.size := by simpa using hi
      have hj2 : j < D.size := by simpa using hj
      rw [getElem!_pos D i hi2, getElem!_pos D j hj2] at this
      unfold ltOf cfm cmpI at this
      simp only [Array.getElem_toList]
      split at this
      · simp at this
      · omega
    have hfin : ∀ m os, ∃ (q : Nat) (l' : List api_Finding) (os' : Array Obj), l'.length = n ∧ Sorted l l' ∧ sortWorldK vs 5 w g 0 m D os = grow (putRow _root_.id (Sort.ahead w q) g 0 (flatK vs 5 l'.toArray)) os' := fun m os =>
      ⟨m, D.toList, os, by rw [Array.length_toList]; omega, ⟨hp2, hpw⟩, rfl⟩
    have hfin' := Lib.hid hfin
    rw [hn]
    clear hfin hp2 hpw hperm hsorted hi hH hD hsz hsz2 hd hn hl
    go_enter Try.func70, Try.ntmps70
    go_wp2_with (go_at_call 110; refine hs.out.mono ?_; rintro e w' ⟨rfl, m, os, rfl⟩)
    go_end0
    exact ⟨rfl, hfin'.out m os⟩
end Clr
end Eng
end Go.Proofs.Ytmmekdkllccmdaa
