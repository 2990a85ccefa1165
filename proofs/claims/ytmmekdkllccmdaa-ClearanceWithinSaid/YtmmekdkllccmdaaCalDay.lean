/-
  The walks of package calendar and of landaidref03: days, years, places.
-/
import Derived.Test.YtmmekdkllccmdaaRows
import Derived.Test.YtmmekdkllccmdaaCalMath
import Derived.WalkKit
import Derived.WalkSpells
import Derived.WalkLawsBesides
import Derived.Lib.Hide
namespace Go.Proofs.Ytmmekdkllccmdaa
open Go.RowKit
set_option linter.unusedVariables false
namespace Cal
theorem ret_int {k : IntKind} {a b : Int} (h : a = b) : Ending.returned (.int k a) = .returned (.int k b) := by rw [h]
theorem ret_bool {a b : Bool} (h : a = b) : Ending.returned (.bool a) = .returned (.bool b) := by rw [h]
theorem int_eq {a b : Int} (h : a = b) : Value.int .i64 a = .int .i64 b := by rw [h]
def dayV (y p : Int) : Int := if 0 ≤ y ∧ y ≤ 100 then (if 0 ≤ p ∧ p < 365 then y * 365 + p else 0) else 0
def dayE (y p : Int) : Int := if 0 ≤ y ∧ y ≤ 100 then (if 0 ≤ p ∧ p < 365 then 0 else 9) else 18
def yearV (d : Int) : Int := if isD d then d / 365 else 0
def placeV (d : Int) : Int := if isD d then d % 365 else 0
def dE (d : Int) : Int := if isD d then 0 else 9

theorem right_any (d : Int) (w : World) : Calls Try.prog 89 #[.int .i64 d] w fun e w' => e = .returned (.bool (isD d)) ∧ w = w' := by
  unfold isD
  go_enter Try.func89, Try.ntmps89
  go_wp2
  all_goals
    go_ret
    exact ⟨ret_bool (by rw [Bool.eq_iff_iff]; simp [*]; try omega), rfl⟩
theorem day_any (y p : Int) (w : World) : Calls Try.prog 41 #[.int .i64 y, .int .i64 p] w fun e w' => e = .returned (.tuple #[.int .i64 (dayV y p), .int .i64 (dayE y p)]) ∧ w = w' := by
  by_cases h1 : 0 ≤ y ∧ y ≤ 100
  · by_cases h2 : 0 ≤ p ∧ p < 365
    · have e1 : dayV y p = y * 365 + p := by unfold dayV; rw [if_pos h1, if_pos h2]
      have e2 : dayE y p = 0 := by unfold dayE; rw [if_pos h1, if_pos h2]
      rw [e1, e2]
      clear e1 e2
      go_enter Try.func41, Try.ntmps41
      go_wp2
      go_ret2
      exact ⟨rfl, rfl⟩
    · have e1 : dayV y p = 0 := by unfold dayV; rw [if_pos h1, if_neg h2]
      have e2 : dayE y p = 9 := by unfold dayE; rw [if_pos h1, if_neg h2]
      rw [e1, e2]
      clear e1 e2
      have h2' : p < 0 ∨ (0 ≤ p ∧ 365 ≤ p) := by omega
      clear h2
      rcases h2' with h2 | ⟨h2, h3⟩
      all_goals
        go_enter Try.func41, Try.ntmps41
        go_wp2
        go_ret2
        exact ⟨rfl, rfl⟩
  · have e1 : dayV y p = 0 := by unfold dayV; rw [if_neg h1]
    have e2 : dayE y p = 18 := by unfold dayE; rw [if_neg h1]
    rw [e1, e2]
    clear e1 e2
    have h1' : y < 0 ∨ (0 ≤ y ∧ 100 < y) := by omega
    clear h1
    rcases h1' with h1 | ⟨h1, h3⟩
    all_goals
      go_enter Try.func41, Try.ntmps41
      go_wp2
      go_ret2
      exact ⟨rfl, rfl⟩
theorem year_any (d : Int) (w : World) : Calls Try.prog 39 #[.int .i64 d] w fun e w' => e = .returned (.tuple #[.int .i64 (yearV d), .int .i64 (dE d)]) ∧ w = w' := by
  unfold yearV dE
  cases h : isD d
  · go_enter Try.func39, Try.ntmps39
    go_wp2_with (go_at_call 89; refine (right_any _ _).mono ?_; rintro e w' ⟨rfl, rfl⟩)
    go_ret2
    exact ⟨rfl, rfl⟩
  · have hd := (isD_iff d).1 h
    go_enter Try.func39, Try.ntmps39
    go_wp2_with (go_at_call 89; refine (right_any _ _).mono ?_; rintro e w' ⟨rfl, rfl⟩)
    go_ret2
    exact ⟨rfl, rfl⟩
theorem place_any (d : Int) (w : World) : Calls Try.prog 40 #[.int .i64 d] w fun e w' => e = .returned (.tuple #[.int .i64 (placeV d), .int .i64 (dE d)]) ∧ w = w' := by
  unfold placeV dE
  cases h : isD d
  · go_enter Try.func40, Try.ntmps40
    go_wp2_with (go_at_call 89; refine (right_any _ _).mono ?_; rintro e w' ⟨rfl, rfl⟩)
    go_ret2
    exact ⟨rfl, rfl⟩
  · have hd := (isD_iff d).1 h
    go_enter Try.func40, Try.ntmps40
    go_wp2_with (go_at_call 89; refine (right_any _ _).mono ?_; rintro e w' ⟨rfl, rfl⟩)
    go_ret2
    exact ⟨rfl, rfl⟩

theorem rright_any (d : Int) (w : World) : Calls Try.prog 91 #[.int .i64 d] w fun e w' => e = .returned (.bool (isD d)) ∧ w = w' := by
  unfold isD
  go_enter Try.func91, Try.ntmps91
  go_wp2
  all_goals
    go_ret
    exact ⟨ret_bool (by rw [Bool.eq_iff_iff]; simp [*]; try omega), rfl⟩
theorem rday_any (y p : Int) (w : World) : Calls Try.prog 45 #[.int .i64 y, .int .i64 p] w fun e w' => e = .returned (.tuple #[.int .i64 (dayV y p), .int .i64 (dayE y p)]) ∧ w = w' := by
  by_cases h1 : 0 ≤ y ∧ y ≤ 100
  · by_cases h2 : 0 ≤ p ∧ p < 365
    · have e1 : dayV y p = y * 365 + p := by unfold dayV; rw [if_pos h1, if_pos h2]
      have e2 : dayE y p = 0 := by unfold dayE; rw [if_pos h1, if_pos h2]
      rw [e1, e2]
      clear e1 e2
      go_enter Try.func45, Try.ntmps45
      go_wp2
      go_ret2
      exact ⟨rfl, rfl⟩
    · have e1 : dayV y p = 0 := by unfold dayV; rw [if_pos h1, if_neg h2]
      have e2 : dayE y p = 9 := by unfold dayE; rw [if_pos h1, if_neg h2]
      rw [e1, e2]
      clear e1 e2
      have h2' : p < 0 ∨ (0 ≤ p ∧ 365 ≤ p) := by omega
      clear h2
      rcases h2' with h2 | ⟨h2, h3⟩
      all_goals
        go_enter Try.func45, Try.ntmps45
        go_wp2
        go_ret2
        exact ⟨rfl, rfl⟩
  · have e1 : dayV y p = 0 := by unfold dayV; rw [if_neg h1]
    have e2 : dayE y p = 18 := by unfold dayE; rw [if_neg h1]
    rw [e1, e2]
    clear e1 e2
    have h1' : y < 0 ∨ (0 ≤ y ∧ 100 < y) := by omega
    clear h1
    rcases h1' with h1 | ⟨h1, h3⟩
    all_goals
      go_enter Try.func45, Try.ntmps45
      go_wp2
      go_ret2
      exact ⟨rfl, rfl⟩
theorem ryear_any (d : Int) (w : World) : Calls Try.prog 46 #[.int .i64 d] w fun e w' => e = .returned (.tuple #[.int .i64 (yearV d), .int .i64 (dE d)]) ∧ w = w' := by
  unfold yearV dE
  cases h : isD d
  · go_enter Try.func46, Try.ntmps46
    go_wp2_with (go_at_call 91; refine (rright_any _ _).mono ?_; rintro e w' ⟨rfl, rfl⟩)
    go_ret2
    exact ⟨rfl, rfl⟩
  · have hd := (isD_iff d).1 h
    go_enter Try.func46, Try.ntmps46
    go_wp2_with (go_at_call 91; refine (rright_any _ _).mono ?_; rintro e w' ⟨rfl, rfl⟩)
    go_ret2
    exact ⟨rfl, rfl⟩
theorem rplace_any (d : Int) (w : World) : Calls Try.prog 47 #[.int .i64 d] w fun e w' => e = .returned (.tuple #[.int .i64 (placeV d), .int .i64 (dE d)]) ∧ w = w' := by
  unfold placeV dE
  cases h : isD d
  · go_enter Try.func47, Try.ntmps47
    go_wp2_with (go_at_call 91; refine (rright_any _ _).mono ?_; rintro e w' ⟨rfl, rfl⟩)
    go_ret2
    exact ⟨rfl, rfl⟩
  · have hd := (isD_iff d).1 h
    go_enter Try.func47, Try.ntmps47
    go_wp2_with (go_at_call 91; refine (rright_any _ _).mono ?_; rintro e w' ⟨rfl, rfl⟩)
    go_ret2
    exact ⟨rfl, rfl⟩

end Cal
end Go.Proofs.Ytmmekdkllccmdaa
