/-
  The laws of chapter 26: awake, and the walks of the laws.
-/
import Derived.Test.YtackhimcndkccaaEstRef
import Derived.Test.YtackhimcndkccaaEstPlain
import Derived.Test.YtackhimcndkccaaKeep
import Derived.OpenShut
namespace Go.Proofs.Ytackhimcndkccaa
open Go.RowKit
set_option linter.unusedVariables false
namespace Est

set_option maxHeartbeats 400000 in
theorem awake_any (w : World) : Calls Try.prog 25 #[] w fun e w' => e = .returned (.bool true) ∧ w = w' := by
  have k1 : upV 10 5 0 50 = 3 := by decide +kernel
  have k2 : err 10 5 0 50 = 0 := by decide +kernel
  have k3 : loV 10 10 4 50 = 4 := by decide +kernel
  have k4 : err 10 10 4 50 = 0 := by decide +kernel
  have k5 : cho 10 5 = 252 := by decide +kernel
  have k6 : atm 10 3 5 0 = 21 := by decide +kernel
  have k7 : rat 3 1 = 334 := by decide +kernel
  go_enter Try.func25, Try.ntmps25
  go_wp2_with (first | (go_at_call 13; refine (upper_any _ _ _ _ _).mono ?_; rintro e w' ⟨rfl, rfl⟩) | (go_at_call 15; refine (lower_any _ _ _ _ _).mono ?_; rintro e w' ⟨rfl, rfl⟩) | (go_at_call 17; refine (choices_any _ _ _).mono ?_; rintro e w' ⟨rfl, rfl⟩) | (go_at_call 21; refine (atmost_any _ _ _ _ _).mono ?_; rintro e w' ⟨rfl, rfl⟩) | (go_at_call 19; refine (samples_any _ _ _ _ _).mono ?_; rintro e w' ⟨rfl, rfl⟩) | (go_at_call 23; refine (rate_any _ _ _).mono ?_; rintro e w' ⟨rfl, rfl⟩))
  go_ret
  exact ⟨rfl, rfl⟩

/-! Pascal's rule. -/
theorem pascal (a b : Nat) (h1 : 1 ≤ a) (h2 : a ≤ 50) (h3 : b ≤ a) : cho a b = cho ((a : Int) - 1) ((b : Int) - 1) + cho ((a : Int) - 1) b := by
  obtain ⟨n, rfl⟩ : ∃ n, a = n + 1 := ⟨a - 1, by omega⟩
  have e1 : (((n + 1 : Nat) : Int) - 1) = n := by omega
  rw [e1, cho_nat _ _ h2, cho_nat n b (by omega)]
  cases b with
  | zero => rw [cho_out _ _ (by omega), bin_zero, bin_zero]; rfl
  | succ b =>
    rw [show (((b + 1 : Nat) : Int) - 1) = b by omega, cho_nat n b (by omega), bin]
    omega
theorem both_ends (a b : Nat) (h2 : a ≤ 50) (h3 : b ≤ a) : cho a b = cho a ((a : Int) - b) := by
  rw [show ((a : Int) - b) = ((a - b : Nat) : Int) by omega, cho_nat _ _ h2, cho_nat _ _ h2, bin_symm a b h3]
theorem cho_self (a : Nat) (h2 : a ≤ 50) : cho a a = 1 := by rw [cho_nat _ _ h2, bin_self]; rfl
theorem rat_bd (a b : Nat) (h1 : 1 ≤ a) (h2 : a ≤ 50) (h3 : b ≤ a) : 1000 * (b : Int) ≤ rat a b * a ∧ (rat a b - 1) * a ≤ 1000 * (b : Int) ∧ 0 ≤ rat a b ∧ rat a b ≤ 1000 := by
  have hp : peo a b = true := (peo_iff _ _).2 (by omega)
  unfold rat
  rw [hp, if_pos rfl]
  generalize hx : ((b : Int) * 1000 + a - 1) = x
  have h4 := Int.mul_ediv_add_emod x a
  have h5 := Int.emod_nonneg x (show (a : Int) ≠ 0 by omega)
  have h6 := Int.emod_lt_of_pos x (show (0 : Int) < a by omega)
  have h7 : (x / a) * a = a * (x / a) := Int.mul_comm _ _
  have h8 : (x / a - 1) * a = x / a * a - a := by rw [Int.sub_mul]; omega
  have h9 : 0 ≤ x / a := Int.ediv_nonneg (by omega) (by omega)
  have hcomm : (b : Int) * 1000 = 1000 * b := Int.mul_comm _ _
  refine ⟨by omega, by omega, h9, ?_⟩
  have h10 : x / a < 1001 := Int.ediv_lt_of_lt_mul (by omega) (by omega)
  omega

set_option maxHeartbeats 1000000 in
theorem walk_pascal (n k : Nat) (hn : n ≤ 255) (hk : k ≤ 255) (w : World) :
    Calls Try.prog 7 #[.int .u8 n, .int .u8 k] w fun e w' => e = .returned (.bool true) ∧ w = w' := by
  obtain ⟨a, ea⟩ : ∃ a : Nat, 1 + (n : Int) % 50 = a := ⟨1 + n % 50, by omega⟩
  obtain ⟨b, eb⟩ : ∃ b : Nat, (k : Int) % ((a : Int) + 1) = b := Int.eq_ofNat_of_zero_le (Int.emod_nonneg _ (by omega))
  have ha : 1 ≤ a ∧ a ≤ 50 := by omega
  have hb : b ≤ a := by
    have := Int.emod_lt_of_pos (k : Int) (show (0 : Int) < (a : Int) + 1 by omega)
    omega
  have t1 : (cho a b == cho ((a : Int) - 1) ((b : Int) - 1) + cho ((a : Int) - 1) b) = true := beq_iff_eq.2 (pascal a b ha.1 ha.2 hb)
  have t2 : (cho a b == cho a ((a : Int) - b)) = true := beq_iff_eq.2 (both_ends a b ha.2 hb)
  have t3 : (cho a a == 1) = true := beq_iff_eq.2 (cho_self a ha.2)
  obtain ⟨t4, t5, t6, t7⟩ := rat_bd a b ha.1 ha.2 hb
  have c1 := cho_bd ((a : Int) - 1) ((b : Int) - 1)
  have c2 := cho_bd ((a : Int) - 1) b
  have p1 : 0 ≤ rat a b * a ∧ rat a b * a ≤ 50000 := ⟨Int.mul_nonneg t6 (by omega), by have := Int.mul_le_mul t7 (show (a : Int) ≤ 50 by omega) (by omega) (by omega); omega⟩
  have p2 : -50 ≤ (rat a b - 1) * a ∧ (rat a b - 1) * a ≤ 50000 := by rw [Int.sub_mul]; omega
  go_enter Try.func7, Try.ntmps7
  go_wp2_with (first | (go_at_call 13; refine (upper_any _ _ _ _ _).mono ?_; rintro e w' ⟨rfl, rfl⟩) | (go_at_call 15; refine (lower_any _ _ _ _ _).mono ?_; rintro e w' ⟨rfl, rfl⟩) | (go_at_call 17; refine (choices_any _ _ _).mono ?_; rintro e w' ⟨rfl, rfl⟩) | (go_at_call 21; refine (atmost_any _ _ _ _ _).mono ?_; rintro e w' ⟨rfl, rfl⟩) | (go_at_call 19; refine (samples_any _ _ _ _ _).mono ?_; rintro e w' ⟨rfl, rfl⟩) | (go_at_call 23; refine (rate_any _ _ _).mono ?_; rintro e w' ⟨rfl, rfl⟩) | (go_at_call 25; refine (awake_any _).mono ?_; rintro e w' ⟨rfl, rfl⟩))
  go_ret
  exact ⟨rfl, rfl⟩

theorem emod_nat (x : Int) (m : Nat) (hm : 1 ≤ m) : ∃ r : Nat, x % (m : Int) = r ∧ r < m := by
  obtain ⟨r, hr⟩ := Int.eq_ofNat_of_zero_le (Int.emod_nonneg x (show (m : Int) ≠ 0 by omega))
  have := Int.emod_lt_of_pos x (show (0 : Int) < m by omega)
  exact ⟨r, hr, by omega⟩

set_option maxRecDepth 100000 in
set_option maxHeartbeats 1000000 in
theorem walk_rises (p q r : Nat) (al : Nat) (hp : p ≤ 255) (hq : q ≤ 255) (hr : r ≤ 255) (hal : al ≤ 65535) (w : World) :
    Calls Try.prog 5 #[.int .u8 p, .int .u8 q, .int .u8 r, .int .u16 al] w fun e w' => e = .returned (.bool true) ∧ w = w' := by
  obtain ⟨N, eN, hN⟩ : ∃ N : Nat, 1 + (p : Int) % 40 = N ∧ 1 ≤ N ∧ N ≤ 40 := ⟨1 + p % 40, by omega, by omega, by omega⟩
  obtain ⟨m', em', hm'⟩ := emod_nat q N (by omega)
  obtain ⟨m, em, hm⟩ : ∃ m : Nat, 1 + (m' : Int) = m ∧ 1 ≤ m ∧ m ≤ N := ⟨1 + m', by omega, by omega, by omega⟩
  obtain ⟨x, ex, hx⟩ := emod_nat r m (by omega)
  obtain ⟨a, ea, ha⟩ : ∃ a : Nat, 1 + (al : Int) % 499 = a ∧ 1 ≤ a ∧ a ≤ 499 := ⟨1 + al % 499, by omega, by omega, by omega⟩
  obtain ⟨u1, k1⟩ := upV_nat N m x a (by omega) (by omega) (by omega) (by omega) (by omega) (by omega) (by omega)
  obtain ⟨u2, k2⟩ := upV_nat N m (x + 1) a (by omega) (by omega) (by omega) (by omega) (by omega) (by omega) (by omega)
  obtain ⟨u3, k3⟩ := upV_nat N m x (2 * a) (by omega) (by omega) (by omega) (by omega) (by omega) (by omega) (by omega)
  have l1 := loV_nat N m x a (by omega) (by omega) (by omega) (by omega) (by omega) (by omega) (by omega)
  have l2 := loV_nat N m (x + 1) a (by omega) (by omega) (by omega) (by omega) (by omega) (by omega) (by omega)
  have l3 := loV_nat N m x (2 * a) (by omega) (by omega) (by omega) (by omega) (by omega) (by omega) (by omega)
  rw [show ((x + 1 : Nat) : Int) = (x : Int) + 1 by omega] at u2 k2 l2
  rw [show ((2 * a : Nat) : Int) = 2 * (a : Int) by omega] at u3 k3 l3
  have i1 : upV N m x a ≤ upV N m ((x : Int) + 1) a := by rw [u1, u2]; have := up_rises N m x a (by omega) (by omega) (by omega); omega
  have i2 : loV N m x a ≤ loV N m ((x : Int) + 1) a := by rw [l1, l2]; have := lo_rises N m x a (by omega) (by omega) (by omega); omega
  have i3 : loV N m x a ≤ upV N m x a := by rw [l1, u1]; have := lo_le_up N m x a (by omega) (by omega) (by omega); omega
  have i4 : upV N m x (2 * (a : Int)) ≤ upV N m x a := by rw [u3, u1]; have := up_closer N m x a (2 * a) (by omega) (by omega) (by omega) (by omega); omega
  have i5 : loV N m x a ≤ loV N m x (2 * (a : Int)) := by rw [l3, l1]; have := lo_closer N m x a (2 * a) (by omega) (by omega) (by omega) (by omega); omega
  have i6 : (x : Int) ≤ loV N m x a := by rw [l1]; have := lo_le N m x a (N - m) (N - m) (by omega); omega
  have i7 : upV N m x a ≤ (N : Int) - ((m : Int) - (x : Int)) := by rw [u1]; have := up_le N m x a (N - m); omega
  clear u1 u2 u3 l1 l2 l3
  go_enter Try.func5, Try.ntmps5
  go_wp2_with (first | (go_at_call 13; refine (upper_any _ _ _ _ _).mono ?_; rintro e w' ⟨rfl, rfl⟩) | (go_at_call 15; refine (lower_any _ _ _ _ _).mono ?_; rintro e w' ⟨rfl, rfl⟩) | (go_at_call 17; refine (choices_any _ _ _).mono ?_; rintro e w' ⟨rfl, rfl⟩) | (go_at_call 21; refine (atmost_any _ _ _ _ _).mono ?_; rintro e w' ⟨rfl, rfl⟩) | (go_at_call 19; refine (samples_any _ _ _ _ _).mono ?_; rintro e w' ⟨rfl, rfl⟩) | (go_at_call 23; refine (rate_any _ _ _).mono ?_; rintro e w' ⟨rfl, rfl⟩) | (go_at_call 25; refine (awake_any _).mono ?_; rintro e w' ⟨rfl, rfl⟩))
  go_ret
  exact ⟨rfl, rfl⟩

theorem nat_u8 {a : Int} (h : (Lit.int .u8 a).wf = true) : ∃ n : Nat, a = n ∧ n ≤ 255 := by
  have := bounds_u8 h
  obtain ⟨n, rfl⟩ := Int.eq_ofNat_of_zero_le this.1
  exact ⟨n, rfl, by omega⟩
theorem nat_u16 {a : Int} (h : (Lit.int .u16 a).wf = true) : ∃ n : Nat, a = n ∧ n ≤ 65535 := by
  have := bounds_u16 h
  obtain ⟨n, rfl⟩ := Int.eq_ofNat_of_zero_le this.1
  exact ⟨n, rfl, by omega⟩

end Est
end Go.Proofs.Ytackhimcndkccaa
