/-
  The laws of chapter 30: awake, the law that a tape gives, and the walks of the laws.
-/
import Derived.Test.YtmmekdkllccmdaaLatPay
import Derived.OpenShut
namespace Go.Proofs.Ytmmekdkllccmdaa
open Go.RowKit
set_option linter.unusedVariables false
namespace Lat
open Ex (ret_int ret_bool ret_pair below_drewN)

set_option maxHeartbeats 400000 in
theorem down_52 (w : World) : Calls Try.prog 67 #[.int .i64 5, .int .i64 2] w fun e w' => e = .returned (.int .i64 2) ∧ w = w' := by
  go_enter Try.func67, Try.ntmps67
  go_wp2
  go_ret
  exact ⟨rfl, rfl⟩

set_option maxHeartbeats 800000 in
theorem awake_any (w : World) : Calls Try.prog 54 #[] w fun e w' => e = .returned (.bool true) ∧ Below w.heap.size w w' := by
  have k1 : payV 4 20 10 8 1000 = 980 := by decide +kernel
  have k2 : payE 4 20 10 8 1000 = 0 := by decide +kernel
  have k3 : chk 4 20 10 = 0 := by decide +kernel
  have k4 : dys 4 8 = 2 := by decide +kernel
  have k5 : wrk 7 = true := by decide +kernel
  have k6 : wrk 5 = false := by decide +kernel
  go_enter Try.func54, Try.ntmps54
  go_wp2_with fail
  refine (pay_any _ _ _ _ _ _).mono ?_
  rw [k1, k2]
  rintro e w1 ⟨rfl, hb⟩
  obtain ⟨c0, c1, c2, hb0⟩ := box3 hb
  clear hb
  go_wp2_with fail
  refine (check_any _ _ _ _).mono ?_
  rw [k3]
  rintro e w2 ⟨rfl, hb2⟩
  have hb3 := Lib.hid (hb0.trans (hb2.mono hb0.size))
  clear hb0 hb2
  go_wp2_with (first | (go_at_call 53; refine (days_any _ _ _).mono ?_; rintro e w' ⟨rfl, rfl⟩) | (go_at_call 52; refine (working_any _ _).mono ?_; rintro e w' ⟨rfl, rfl⟩) | (go_at_call 67; refine (down_52 _).mono ?_; rintro e w' ⟨rfl, rfl⟩))
  go_ret
  exact ⟨rfl, hb3.out⟩

theorem payE_zero (due last mille at_ amount : Int) (h : (0 ≤ due ∧ due ≤ last ∧ last ≤ 36864 ∧ 0 ≤ mille ∧ mille ≤ 1000) ∧ (0 ≤ at_ ∧ at_ ≤ 36864) ∧ 0 ≤ amount ∧ amount ≤ 68719476736) : payE due last mille at_ amount = 0 := (payE_ok _ _ _ _ _).2 h

end Lat
end Go.Proofs.Ytmmekdkllccmdaa
