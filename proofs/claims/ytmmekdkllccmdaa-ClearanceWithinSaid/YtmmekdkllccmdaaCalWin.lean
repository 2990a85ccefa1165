/-
  The walks of package calendar and of landaidref03: windows.
-/
import Derived.Test.YtmmekdkllccmdaaCalDay
namespace Go.Proofs.Ytmmekdkllccmdaa
open Go.RowKit
set_option linter.unusedVariables false
namespace Cal

theorem box2 {w w1 : World} {v0 v1 : Value} {t : TypeId} (hb : Below (w.alloc (.cells #[v0, v1] t)).heap.size (w.alloc (.cells #[v0, v1] t)) w1) :
    w1.cell? ⟨w.heap.size, 0, none⟩ = some v0 ∧ w1.cell? ⟨w.heap.size, 1, none⟩ = some v1 ∧ Below w.heap.size w w1 := by
  have hh := heap_alloc_new w (.cells #[v0, v1] t)
  have hc : ∀ o, w1.cell? ⟨w.heap.size, o, none⟩ = (w.alloc (.cells #[v0, v1] t)).cell? ⟨w.heap.size, o, none⟩ := fun o => hb.cell (p := ⟨w.heap.size, o, none⟩) (by simp)
  refine ⟨?_, ?_, ((Below.refl _ _).alloc (Nat.le_refl _) _).trans (hb.mono (by simp))⟩
  · rw [hc, cell_of_row _ _ _ _ _ _ hh]; rfl
  · rw [hc, cell_of_row _ _ _ _ _ _ hh]; rfl

set_option maxHeartbeats 400000 in
theorem valid_any (f u : Int) (w : World) : Calls Try.prog 90 #[.agg #[.int .i64 f, .int .i64 u]] w fun e w' => e = .returned (.bool (vld f u)) ∧ Below w.heap.size w w' := by
  have hv := Lib.hid (vld_iff f u)
  obtain ⟨c, hc⟩ : ∃ c, vld f u = c := ⟨_, rfl⟩
  rw [hc] at hv ⊢
  clear hc
  go_enter Try.func90, Try.ntmps90
  go_wp2
  all_goals
    go_ret
    exact ⟨ret_bool (by rw [Bool.eq_iff_iff, hv.out]; simp [*]; try omega), (Below.refl _ _).alloc (Nat.le_refl _) _⟩

set_option maxHeartbeats 400000 in
theorem rvalid_any (f u : Int) (w : World) : Calls Try.prog 93 #[.agg #[.int .i64 f, .int .i64 u]] w fun e w' => e = .returned (.bool (vld f u)) ∧ Below w.heap.size w w' := by
  have hv := Lib.hid (vld_iff f u)
  obtain ⟨c, hc⟩ : ∃ c, vld f u = c := ⟨_, rfl⟩
  rw [hc] at hv ⊢
  clear hc
  go_enter Try.func93, Try.ntmps93
  go_wp2
  all_goals
    go_ret
    exact ⟨ret_bool (by rw [Bool.eq_iff_iff, hv.out]; simp [*]; try omega), (Below.refl _ _).alloc (Nat.le_refl _) _⟩

set_option maxHeartbeats 800000 in
theorem in_any (f u d : Int) (w : World) : Calls Try.prog 43 #[.agg #[.int .i64 f, .int .i64 u], .int .i64 d] w fun e w' => e = .returned (.bool (inn f u d)) ∧ Below w.heap.size w w' := by
  cases hd : isD d
  · rw [inn_day f u d hd]
    have h1 : dE d = 9 := by unfold dE; rw [hd]; rfl
    go_enter Try.func43, Try.ntmps43
    go_wp2_with (go_at_call 40; refine (place_any _ _).mono ?_; rintro e w' ⟨rfl, rfl⟩)
    go_ret
    exact ⟨rfl, (Below.refl _ _).alloc (Nat.le_refl _) _⟩
  · have h1 : dE d = 0 := by unfold dE; rw [hd]; rfl
    have h2 : placeV d = d % 365 := by unfold placeV; rw [hd]; rfl
    cases hv : vld f u
    · rw [inn_win f u d hv]
      go_enter Try.func43, Try.ntmps43
      go_wp2_with (go_at_call 40; refine (place_any _ _).mono ?_; rintro e w' ⟨rfl, rfl⟩)
      refine (valid_any _ _ _).mono ?_
      rw [hv]
      rintro e w1 ⟨rfl, hb⟩
      obtain ⟨c0, c1, hb0⟩ := box2 hb
      clear hb
      go_wp2
      go_ret
      exact ⟨rfl, hb0⟩
    · rw [inn_yes f u d hd hv]
      have hp := Lib.hid (show pin f u (d % 365) = if u < f then decide (f ≤ d % 365) || decide (d % 365 ≤ u) else decide (f ≤ d % 365) && decide (d % 365 ≤ u) from rfl)
      obtain ⟨c, hc⟩ : ∃ c, pin f u (d % 365) = c := ⟨_, rfl⟩
      rw [hc] at hp ⊢
      clear hc
      by_cases hlt : u < f
      all_goals
        go_enter Try.func43, Try.ntmps43
        go_wp2_with (go_at_call 40; refine (place_any _ _).mono ?_; rintro e w' ⟨rfl, rfl⟩)
        refine (valid_any _ _ _).mono ?_
        rw [hv]
        rintro e w1 ⟨rfl, hb⟩
        obtain ⟨c0, c1, hb0⟩ := box2 hb
        clear hb
        go_wp2
        all_goals
          go_ret
          exact ⟨ret_bool (by rw [hp.out, Bool.eq_iff_iff]; first | rw [if_pos hlt] | rw [if_neg (by omega)]
                              all_goals (simp [*]; try omega)), hb0⟩

set_option maxHeartbeats 800000 in
theorem rin_any (f u d : Int) (w : World) : Calls Try.prog 50 #[.agg #[.int .i64 f, .int .i64 u], .int .i64 d] w fun e w' => e = .returned (.bool (inn f u d)) ∧ Below w.heap.size w w' := by
  cases hv : vld f u
  · rw [inn_win f u d hv]
    go_enter Try.func50, Try.ntmps50
    go_wp2_with fail
    refine (rvalid_any _ _ _).mono ?_
    rw [hv]
    rintro e w1 ⟨rfl, hb⟩
    obtain ⟨c0, c1, hb0⟩ := box2 hb
    clear hb
    go_wp2_with (go_at_call 91; refine (rright_any _ _).mono ?_; rintro e w' ⟨rfl, rfl⟩)
    go_ret
    exact ⟨rfl, hb0⟩
  · cases hd : isD d
    · rw [inn_day f u d hd]
      go_enter Try.func50, Try.ntmps50
      go_wp2_with fail
      refine (rvalid_any _ _ _).mono ?_
      rw [hv]
      rintro e w1 ⟨rfl, hb⟩
      obtain ⟨c0, c1, hb0⟩ := box2 hb
      clear hb
      go_wp2_with (go_at_call 91; refine (rright_any _ _).mono ?_; rintro e w' ⟨rfl, rfl⟩)
      go_ret
      exact ⟨rfl, hb0⟩
    · rw [inn_yes f u d hd hv]
      have hd2 := (isD_iff d).1 hd
      have hp := Lib.hid (show pin f u (d % 365) = if u < f then decide (f ≤ d % 365) || decide (d % 365 ≤ u) else decide (f ≤ d % 365) && decide (d % 365 ≤ u) from rfl)
      obtain ⟨c, hc⟩ : ∃ c, pin f u (d % 365) = c := ⟨_, rfl⟩
      rw [hc] at hp ⊢
      clear hc
      have hcase : u < f ∨ f ≤ u := by omega
      rcases hcase with hlt | hlt
      all_goals
        go_enter Try.func50, Try.ntmps50
        go_wp2_with fail
        refine (rvalid_any _ _ _).mono ?_
        rw [hv]
        rintro e w1 ⟨rfl, hb⟩
        obtain ⟨c0, c1, hb0⟩ := box2 hb
        clear hb
        go_wp2_with (go_at_call 91; refine (rright_any _ _).mono ?_; rintro e w' ⟨rfl, rfl⟩)
        all_goals
          go_ret
          exact ⟨ret_bool (by rw [hp.out, Bool.eq_iff_iff]; first | rw [if_pos hlt] | rw [if_neg (by omega)]
                              all_goals (simp [*]; try omega)), hb0⟩

end Cal
end Go.Proofs.Ytmmekdkllccmdaa
