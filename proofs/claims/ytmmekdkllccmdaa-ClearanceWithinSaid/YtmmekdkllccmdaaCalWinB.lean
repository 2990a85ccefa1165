/-
  The walks of package calendar and of landaidref03: the days of a window, and the next one.
-/
import Derived.Test.YtmmekdkllccmdaaCalWin
namespace Go.Proofs.Ytmmekdkllccmdaa
open Go.RowKit
set_option linter.unusedVariables false
namespace Cal
set_option maxRecDepth 100000 in
set_option maxHeartbeats 800000 in
theorem days_any (f u : Int) (w : World) : Calls Try.prog 42 #[.agg #[.int .i64 f, .int .i64 u]] w fun e w' => e = .returned (.int .i64 (dys f u)) ∧ Below w.heap.size w w' := by
  cases hv : vld f u
  · have e : dys f u = 0 := by unfold dys; rw [hv]; rfl
    rw [e]
    clear e
    go_enter Try.func42, Try.ntmps42
    go_wp2_with fail
    refine (valid_any _ _ _).mono ?_
    rw [hv]
    rintro e w1 ⟨rfl, hb⟩
    obtain ⟨c0, c1, hb0⟩ := box2 hb
    clear hb
    go_wp2
    go_ret
    exact ⟨rfl, hb0⟩
  · have hf := (vld_iff f u).1 hv
    have hcase : u < f ∨ f ≤ u := by omega
    have e : dys f u = if u < f then 365 - f + u + 1 else u - f + 1 := by unfold dys; rw [hv]; rfl
    have e' := Lib.hid e
    obtain ⟨c, hc⟩ : ∃ c, dys f u = c := ⟨_, rfl⟩
    rw [hc] at e' ⊢
    clear e hc
    rcases hcase with hlt | hlt
    all_goals
      go_enter Try.func42, Try.ntmps42
      go_wp2_with fail
      refine (valid_any _ _ _).mono ?_
      rw [hv]
      rintro e w1 ⟨rfl, hb⟩
      obtain ⟨c0, c1, hb0⟩ := box2 hb
      clear hb
      go_wp2
      go_ret
      exact ⟨ret_int (by rw [e'.out]; split <;> omega), hb0⟩

set_option maxRecDepth 100000 in
set_option maxHeartbeats 800000 in
theorem rdays_any (f u : Int) (w : World) : Calls Try.prog 51 #[.agg #[.int .i64 f, .int .i64 u]] w fun e w' => e = .returned (.int .i64 (dys f u)) ∧ Below w.heap.size w w' := by
  have hy := Lib.hid (cnt_year f u)
  obtain ⟨c, hc⟩ : ∃ c, dys f u = c := ⟨_, rfl⟩
  rw [hc] at hy ⊢
  clear hc
  go_enter Try.func51, Try.ntmps51
  go_wp2
  obtain ⟨W0, hW0⟩ : ∃ W0, W0 = (w.alloc (.cells #[.int .i64 f, .int .i64 u] 61)) := ⟨_, rfl⟩
  rw [← hW0]
  have hW0' := Lib.hid hW0
  clear hW0
  go_loopw [3, 4] (fun n p wr => ∃ i : Nat, i ≤ 365 ∧ n = .int .i64 (cnt f u i) ∧ p = .int .i64 i ∧ Below W0.heap.size W0 wr) (fun _ p _ => 365 - (intOf p).toNat)
  case atStart => exact ⟨0, by omega, rfl, rfl, Below.refl _ _⟩
  case round =>
    obtain ⟨i, hi, rfl, rfl, hb⟩ := hrel
    have hbd := cnt_bd f u i
    have hb' := hb
    rw [hW0'.out] at hb'
    obtain ⟨c0, c1, hb0⟩ := box2 hb'
    clear hb'
    by_cases hlt : i < 365
    · have hs := Lib.hid (show cnt f u (i + 1) = cnt f u i + if inn f u i then 1 else 0 from rfl)
      have hB := Lib.hid hb
      clear hb hb0
      go_wp2_with fail
      refine (rin_any _ _ _ _).mono ?_
      rintro e w1 ⟨rfl, hb1⟩
      have hB1 := Lib.hid (hB.out.trans (hb1.mono hB.out.size))
      clear hb1
      cases hin : inn f u i
      · have hs1 := hs.out
        rw [hin] at hs1
        have hs2 := Lib.hid hs1
        clear hs1
        go_wp2
        go_roundw
        case rel => exact ⟨i + 1, by omega, int_eq (by have := hs2.out; simp at this; omega), by go_num, hB1.out⟩
        case measure => simp [intOf]; omega
      · have hs1 := hs.out
        rw [hin] at hs1
        have hs2 := Lib.hid hs1
        clear hs1
        go_wp2
        go_roundw
        case rel => exact ⟨i + 1, by omega, int_eq (by have := hs2.out; simp at this; omega), by go_num, hB1.out⟩
        case measure => simp [intOf]; omega
    · have e : i = 365 := by omega
      have hy2 := Lib.hid (show cnt f u i = c by rw [e]; exact hy.out)
      have hlt2 : ¬ (i : Int) < 365 := by omega
      clear c0 c1 e hb
      go_wp2
      go_ret
      exact ⟨ret_int hy2.out, hb0⟩

end Cal
end Go.Proofs.Ytmmekdkllccmdaa
