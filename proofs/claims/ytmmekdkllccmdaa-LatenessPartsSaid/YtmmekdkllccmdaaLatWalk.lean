/-
  The walks of package lateness and of landaidref30: what each function returns, for any numbers.
-/
import Derived.Test.YtmmekdkllccmdaaLatMath
import Derived.Test.YtmmekdkllccmdaaExact
import Derived.Deep.RegionWith
namespace Go.Proofs.Ytmmekdkllccmdaa
open Go.RowKit
set_option linter.unusedVariables false
namespace Lat
open Ex (ret_int ret_bool ret_pair below_drewN)

theorem int_eq {a b : Int} (h : a = b) : Value.int .i64 a = .int .i64 b := by rw [h]
theorem box3 {w w1 : World} {v0 v1 v2 : Value} {t : TypeId} (hb : Below (w.alloc (.cells #[v0, v1, v2] t)).heap.size (w.alloc (.cells #[v0, v1, v2] t)) w1) :
    w1.cell? ⟨w.heap.size, 0, none⟩ = some v0 ∧ w1.cell? ⟨w.heap.size, 1, none⟩ = some v1 ∧ w1.cell? ⟨w.heap.size, 2, none⟩ = some v2 ∧ Below w.heap.size w w1 := by
  have hh := heap_alloc_new w (.cells #[v0, v1, v2] t)
  have hc : ∀ o, w1.cell? ⟨w.heap.size, o, none⟩ = (w.alloc (.cells #[v0, v1, v2] t)).cell? ⟨w.heap.size, o, none⟩ := fun o => hb.cell (p := ⟨w.heap.size, o, none⟩) (by simp)
  refine ⟨?_, ?_, ?_, ((Below.refl _ _).alloc (Nat.le_refl _) _).trans (hb.mono (by simp))⟩
  · rw [hc, cell_of_row _ _ _ _ _ _ hh]; rfl
  · rw [hc, cell_of_row _ _ _ _ _ _ hh]; rfl
  · rw [hc, cell_of_row _ _ _ _ _ _ hh]; rfl

theorem day_any (n : Int) (w : World) : Calls Try.prog 94 #[.int .i64 n] w fun e w' => e = .returned (.bool (isDay n)) ∧ w = w' := by
  unfold isDay
  go_enter Try.func94, Try.ntmps94
  go_wp2
  all_goals
    go_ret
    exact ⟨ret_bool (by rw [Bool.eq_iff_iff]; simp [*]; try omega), rfl⟩
theorem before_any (d : Int) (h : 0 ≤ d) (h2 : d ≤ 40000) (w : World) : Calls Try.prog 95 #[.int .i64 d] w fun e w' => e = .returned (.int .i64 (bef d)) ∧ w = w' := by
  unfold bef
  go_enter Try.func95, Try.ntmps95
  go_wp2
  all_goals
    go_ret
    exact ⟨ret_int (by omega), rfl⟩
theorem working_any (n : Int) (w : World) : Calls Try.prog 52 #[.int .i64 n] w fun e w' => e = .returned (.bool (wrk n)) ∧ w = w' := by
  have hw := Lib.hid (show wrk n = (isDay n && decide (n % 7 < 5)) from rfl)
  obtain ⟨c, hc⟩ : ∃ c, wrk n = c := ⟨_, rfl⟩
  rw [hc] at hw ⊢
  clear hc
  cases hd : isDay n
  · go_enter Try.func52, Try.ntmps52
    go_wp2_with (go_at_call 94; refine (day_any _ _).mono ?_; rintro e w' ⟨rfl, rfl⟩)
    go_ret
    exact ⟨ret_bool (by rw [hw.out, hd]; rfl), rfl⟩
  · have h := (isDay_iff n).1 hd
    go_enter Try.func52, Try.ntmps52
    go_wp2_with (go_at_call 94; refine (day_any _ _).mono ?_; rintro e w' ⟨rfl, rfl⟩)
    all_goals
      go_ret
      exact ⟨ret_bool (by rw [hw.out, hd, Bool.eq_iff_iff]; simp [*]), rfl⟩
set_option maxHeartbeats 400000 in
theorem check_any (due last mille : Int) (w : World) :
    Calls Try.prog 97 #[.agg #[.int .i64 due, .int .i64 last, .int .i64 mille]] w fun e w' => e = .returned (.int .i64 (chk due last mille)) ∧ Below w.heap.size w w' := by
  have hch := Lib.hid (show chk due last mille = if 0 ≤ due ∧ due ≤ last ∧ last ≤ 36864 ∧ 0 ≤ mille ∧ mille ≤ 1000 then 0 else 66 from rfl)
  obtain ⟨c, hc⟩ : ∃ c, chk due last mille = c := ⟨_, rfl⟩
  rw [hc] at hch ⊢
  clear hc
  go_enter Try.func97, Try.ntmps97
  go_wp2
  all_goals
    go_ret
    exact ⟨ret_int (by rw [hch.out]; split <;> omega), (Below.refl _ _).alloc (Nat.le_refl _) _⟩

set_option maxHeartbeats 400000 in
theorem days_any (a b : Int) (w : World) : Calls Try.prog 53 #[.int .i64 a, .int .i64 b] w fun e w' => e = .returned (.int .i64 (dys a b)) ∧ w = w' := by
  by_cases h : 0 ≤ a ∧ a ≤ 36864 ∧ 0 ≤ b ∧ b ≤ 36864 ∧ a < b
  · have e : dys a b = bef (b + 1) - bef (a + 1) := by unfold dys; rw [if_pos h]
    rw [e]
    have d1 : isDay a = true := (isDay_iff a).2 (by omega)
    have d2 : isDay b = true := (isDay_iff b).2 (by omega)
    have b1 := bef_bd (a + 1) (by omega)
    have b2 := bef_bd (b + 1) (by omega)
    have hn : ¬ b ≤ a := by omega
    clear e
    go_enter Try.func53, Try.ntmps53
    go_wp2_with (first | (go_at_call 94; refine (day_any _ _).mono ?_; rintro e w' ⟨rfl, rfl⟩) | (go_at_call 95; refine (before_any _ (by omega) (by omega) _).mono ?_; rintro e w' ⟨rfl, rfl⟩))
    go_ret
    exact ⟨rfl, rfl⟩
  · have e : dys a b = 0 := by unfold dys; rw [if_neg h]
    rw [e]
    clear e
    cases d1 : isDay a
    · go_enter Try.func53, Try.ntmps53
      go_wp2_with (go_at_call 94; refine (day_any _ _).mono ?_; rintro e w' ⟨rfl, rfl⟩)
      go_ret
      exact ⟨rfl, rfl⟩
    · cases d2 : isDay b
      · go_enter Try.func53, Try.ntmps53
        go_wp2_with (go_at_call 94; refine (day_any _ _).mono ?_; rintro e w' ⟨rfl, rfl⟩)
        go_ret
        exact ⟨rfl, rfl⟩
      · have h1 := (isDay_iff a).1 d1
        have h2 := (isDay_iff b).1 d2
        have hn : b ≤ a := by omega
        clear h
        go_enter Try.func53, Try.ntmps53
        go_wp2_with (go_at_call 94; refine (day_any _ _).mono ?_; rintro e w' ⟨rfl, rfl⟩)
        go_ret
        exact ⟨rfl, rfl⟩

end Lat
end Go.Proofs.Ytmmekdkllccmdaa
