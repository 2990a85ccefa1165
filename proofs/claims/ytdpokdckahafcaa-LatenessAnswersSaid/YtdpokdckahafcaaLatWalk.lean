/-
  The walks of package lateness and of landaidref30: what each function returns, for any numbers.
-/
import Derived.Test.YtdpokdckahafcaaLatMath
import Derived.Test.YtdpokdckahafcaaExact
import Derived.Deep.RegionWith
namespace Go.Proofs.Ytdpokdckahafcaa
open Go.RowKit
set_option linter.unusedVariables false
namespace Lat
open Ex (ret_int ret_bool ret_pair below_drewN)

theorem int_eq {a b : Int} (h : a = b) : Value.int .i64 a = .int .i64 b := by rw [h]
theorem box3 {w w1 : World} {v0 v1 v2 : Value} {t : TypeId} (hb : Below (w.alloc (.cells #[v0, v1, v2] t)).heap.size (w.alloc (.cells #[v0, v1, v2] t)) w1) :
    w1.cell? ⟨w.heap.size, 0, none⟩ = some v0 ∧ w1.cell? ⟨w.heap.size, 1, none⟩ = some v1 ∧ w1.cell? ⟨w.heap.size, 2, none⟩ = some v2 ∧ Below w.heap.size w w1 := by
  have hh := heap_alloc_new w (.cells #[v0, v1, v2] t)
  have hc : ∀ o, w1.cell? ⟨w.heap.size, o, none⟩ = (w.alloc (.cells #[v0, v1, v2] t)).cell? ⟨w.heap.size, o, none⟩ := fun o => hb.cell (p := ⟨w.heap.size, o, none⟩) (by simp)
  refine ⟨?_, ?_, ?_, ((Below.refl _ _).alloc (Nat.le_refl _) _).trans (hb.mono (by simp))⟩
  · rw [hc, cell_of_row _ _ _ _ _ _ hh]; rfl
  · rw [hc, cell_of_row _ _ _ _ _ _ hh]; rfl
  · rw [hc, cell_of_row _ _ _ _ _ _ hh]; rfl

theorem day_any (n : Int) (w : World) : Calls Try.prog 18 #[.int .i64 n] w fun e w' => e = .returned (.bool (isDay n)) ∧ w = w' := by
  unfold isDay
  go_enter Try.func18, Try.ntmps18
  go_wp2
  all_goals
    go_ret
    exact ⟨ret_bool (by rw [Bool.eq_iff_iff]; simp [*]; try omega), rfl⟩
theorem before_any (d : Int) (h : 0 ≤ d) (h2 : d ≤ 40000) (w : World) : Calls Try.prog 21 #[.int .i64 d] w fun e w' => e = .returned (.int .i64 (bef d)) ∧ w = w' := by
  unfold bef
  go_enter Try.func21, Try.ntmps21
  go_wp2
  all_goals
    go_ret
    exact ⟨ret_int (by omega), rfl⟩
theorem working_any (n : Int) (w : World) : Calls Try.prog 15 #[.int .i64 n] w fun e w' => e = .returned (.bool (wrk n)) ∧ w = w' := by
  have hw := Lib.hid (show wrk n = (isDay n && decide (n % 7 < 5)) from rfl)
  obtain ⟨c, hc⟩ : ∃ c, wrk n = c := ⟨_, rfl⟩
  rw [hc] at hw ⊢
  clear hc
  cases hd : isDay n
  · go_enter Try.func15, Try.ntmps15
    go_wp2_with (go_at_call 18; refine (day_any _ _).mono ?_; rintro e w' ⟨rfl, rfl⟩)
    go_ret
    exact ⟨ret_bool (by rw [hw.out, hd]; rfl), rfl⟩
  · have h := (isDay_iff n).1 hd
    go_enter Try.func15, Try.ntmps15
    go_wp2_with (go_at_call 18; refine (day_any _ _).mono ?_; rintro e w' ⟨rfl, rfl⟩)
    all_goals
      go_ret
      exact ⟨ret_bool (by rw [hw.out, hd, Bool.eq_iff_iff]; simp [*]), rfl⟩
theorem rworking_any (n : Int) (w : World) : Calls Try.prog 16 #[.int .i64 n] w fun e w' => e = .returned (.bool (wrk n)) ∧ w = w' := by
  have hw := Lib.hid (show wrk n = (isDay n && decide (n % 7 < 5)) from rfl)
  have hi := Lib.hid (isDay_iff n)
  obtain ⟨c, hc⟩ : ∃ c, wrk n = c := ⟨_, rfl⟩
  rw [hc] at hw ⊢
  clear hc
  by_cases h0 : 0 ≤ n
  · by_cases h1 : n ≤ 36864
    · go_enter Try.func16, Try.ntmps16
      go_wp2
      all_goals
        go_ret
        exact ⟨ret_bool (by rw [hw.out, (hi.out).2 ⟨h0, h1⟩, Bool.eq_iff_iff]; simp [*]), rfl⟩
    · go_enter Try.func16, Try.ntmps16
      go_wp2
      go_ret
      exact ⟨ret_bool (by rw [hw.out, (isDay_not n).2 (by omega)]; rfl), rfl⟩
  · go_enter Try.func16, Try.ntmps16
    go_wp2
    go_ret
    exact ⟨ret_bool (by rw [hw.out, (isDay_not n).2 (by omega)]; rfl), rfl⟩

set_option maxHeartbeats 400000 in
theorem check_any (due last mille : Int) (w : World) :
    Calls Try.prog 7 #[.agg #[.int .i64 due, .int .i64 last, .int .i64 mille]] w fun e w' => e = .returned (.int .i64 (chk due last mille)) ∧ Below w.heap.size w w' := by
  have hch := Lib.hid (show chk due last mille = if 0 ≤ due ∧ due ≤ last ∧ last ≤ 36864 ∧ 0 ≤ mille ∧ mille ≤ 1000 then 0 else 66 from rfl)
  obtain ⟨c, hc⟩ : ∃ c, chk due last mille = c := ⟨_, rfl⟩
  rw [hc] at hch ⊢
  clear hc
  go_enter Try.func7, Try.ntmps7
  go_wp2
  all_goals
    go_ret
    exact ⟨ret_int (by rw [hch.out]; split <;> omega), (Below.refl _ _).alloc (Nat.le_refl _) _⟩

set_option maxHeartbeats 400000 in
theorem rcheck_any (due last mille : Int) (w : World) :
    Calls Try.prog 8 #[.agg #[.int .i64 due, .int .i64 last, .int .i64 mille]] w fun e w' => e = .returned (.int .i64 (chk due last mille)) ∧ Below w.heap.size w w' := by
  have hch := Lib.hid (show chk due last mille = if 0 ≤ due ∧ due ≤ last ∧ last ≤ 36864 ∧ 0 ≤ mille ∧ mille ≤ 1000 then 0 else 66 from rfl)
  obtain ⟨c, hc⟩ : ∃ c, chk due last mille = c := ⟨_, rfl⟩
  rw [hc] at hch ⊢
  clear hc
  go_enter Try.func8, Try.ntmps8
  go_wp2
  all_goals
    go_ret
    exact ⟨ret_int (by rw [hch.out]; split <;> omega), (Below.refl _ _).alloc (Nat.le_refl _) _⟩

set_option maxHeartbeats 400000 in
theorem days_any (a b : Int) (w : World) : Calls Try.prog 12 #[.int .i64 a, .int .i64 b] w fun e w' => e = .returned (.int .i64 (dys a b)) ∧ w = w' := by
  by_cases h : 0 ≤ a ∧ a ≤ 36864 ∧ 0 ≤ b ∧ b ≤ 36864 ∧ a < b
  · have e : dys a b = bef (b + 1) - bef (a + 1) := by unfold dys; rw [if_pos h]
    rw [e]
    have d1 : isDay a = true := (isDay_iff a).2 (by omega)
    have d2 : isDay b = true := (isDay_iff b).2 (by omega)
    have b1 := bef_bd (a + 1) (by omega)
    have b2 := bef_bd (b + 1) (by omega)
    have hn : ¬ b ≤ a := by omega
    clear e
    go_enter Try.func12, Try.ntmps12
    go_wp2_with (first | (go_at_call 18; refine (day_any _ _).mono ?_; rintro e w' ⟨rfl, rfl⟩) | (go_at_call 21; refine (before_any _ (by omega) (by omega) _).mono ?_; rintro e w' ⟨rfl, rfl⟩))
    go_ret
    exact ⟨rfl, rfl⟩
  · have e : dys a b = 0 := by unfold dys; rw [if_neg h]
    rw [e]
    clear e
    cases d1 : isDay a
    · go_enter Try.func12, Try.ntmps12
      go_wp2_with (go_at_call 18; refine (day_any _ _).mono ?_; rintro e w' ⟨rfl, rfl⟩)
      go_ret
      exact ⟨rfl, rfl⟩
    · cases d2 : isDay b
      · go_enter Try.func12, Try.ntmps12
        go_wp2_with (go_at_call 18; refine (day_any _ _).mono ?_; rintro e w' ⟨rfl, rfl⟩)
        go_ret
        exact ⟨rfl, rfl⟩
      · have h1 := (isDay_iff a).1 d1
        have h2 := (isDay_iff b).1 d2
        have hn : b ≤ a := by omega
        clear h
        go_enter Try.func12, Try.ntmps12
        go_wp2_with (go_at_call 18; refine (day_any _ _).mono ?_; rintro e w' ⟨rfl, rfl⟩)
        go_ret
        exact ⟨rfl, rfl⟩

set_option maxHeartbeats 400000 in
theorem rdays_any (a b : Int) (w : World) : Calls Try.prog 13 #[.int .i64 a, .int .i64 b] w fun e w' => e = .returned (.int .i64 (dys a b)) ∧ w = w' := by
  by_cases h : 0 ≤ a ∧ a ≤ 36864 ∧ 0 ≤ b ∧ b ≤ 36864
  · obtain ⟨m, hm⟩ : ∃ m, m = max a b := ⟨_, rfl⟩
    have hmb : a ≤ m ∧ b ≤ m ∧ m ≤ 36864 ∧ (a < b → m = b) ∧ (b ≤ a → m = a) := by omega
    have e : dys a b = bef (m + 1) - bef (a + 1) := by
      unfold dys
      split
      · rw [show m = b by omega]
      · rw [show m = a by omega]; omega
    have e' := Lib.hid e
    have hm1 : a ≤ m ∧ b ≤ m ∧ m ≤ 36864 := by omega
    have hmb' := Lib.hid hmb
    clear e hm hmb
    go_enter Try.func13, Try.ntmps13
    go_wp2
    go_loop [5, 6] (fun n d => ∃ i : Int, a + 1 ≤ i ∧ i ≤ m + 1 ∧ n = .int .i64 (bef i - bef (a + 1)) ∧ d = .int .i64 i) (fun _ d => (m + 1 - intOf d).toNat)
    case atStart => exact ⟨a + 1, by omega, by omega, by rw [Int.sub_self], rfl⟩
    case round =>
      obtain ⟨i, hi1, hi2, rfl, rfl⟩ := hrel
      have b1 := bef_bd i (by omega)
      have b2 := bef_bd (a + 1) (by omega)
      by_cases hlt : i ≤ b
      · have hs := bef_step i (by omega)
        have hs' := Lib.hid hs
        have hdy : isDay i = true := (isDay_iff i).2 (by omega)
        have hdy' := Lib.hid hdy
        clear hs hdy
        cases hw : wrk i
        · have hn : ¬ i % 7 < 5 := by
            intro hh
            have : wrk i = true := by unfold wrk; rw [hdy'.out]; simpa using hh
            rw [this] at hw; cases hw
          go_wp2_with (go_at_call 16; refine (rworking_any _ _).mono ?_; rintro e w' ⟨rfl, rfl⟩)
          go_round
          case rel => exact ⟨i + 1, by omega, by omega, int_eq (by rw [hs'.out, if_neg (by omega)]; omega), rfl⟩
          case measure => simp [intOf]; omega
        · have hn : i % 7 < 5 := by unfold wrk at hw; simp at hw; exact hw.2
          go_wp2_with (go_at_call 16; refine (rworking_any _ _).mono ?_; rintro e w' ⟨rfl, rfl⟩)
          go_round
          case rel => exact ⟨i + 1, by omega, by omega, int_eq (by rw [hs'.out, if_pos (by omega)]; omega), rfl⟩
          case measure => simp [intOf]; omega
      · have hmb := hmb'.out
        have hi : i = m + 1 := by omega
        subst hi
        clear hmb
        go_wp2
        go_ret
        exact ⟨ret_int e'.out.symm, rfl⟩
  · have e : dys a b = 0 := by unfold dys; rw [if_neg (by omega)]
    rw [e]
    clear e
    have h' : a < 0 ∨ (0 ≤ a ∧ 36864 < a) ∨ (0 ≤ a ∧ a ≤ 36864 ∧ b < 0) ∨ (0 ≤ a ∧ a ≤ 36864 ∧ 0 ≤ b ∧ 36864 < b) := by omega
    clear h
    rcases h' with h | ⟨h, h1⟩ | ⟨h, h1, h2⟩ | ⟨h, h1, h2, h3⟩
    all_goals
      go_enter Try.func13, Try.ntmps13
      go_wp2
      go_ret
      exact ⟨rfl, rfl⟩
end Lat
end Go.Proofs.Ytdpokdckahafcaa
