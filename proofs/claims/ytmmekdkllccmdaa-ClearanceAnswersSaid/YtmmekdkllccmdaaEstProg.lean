/-
  The walks of package estimate: what each function returns, for any numbers.
-/
import Derived.Test.YtmmekdkllccmdaaRows
import Derived.Test.YtmmekdkllccmdaaEstMath
import Derived.WalkKit
import Derived.WalkSpells
import Derived.WalkLawsBesides
import Derived.Lib.Hide
namespace Go.Proofs.Ytmmekdkllccmdaa
open Go.RowKit
namespace Est
theorem ret_bool {a b : Bool} (h : a = b) : Ending.returned (.bool a) = .returned (.bool b) := by rw [h]
theorem ret_int {k : IntKind} {a b : Int} (h : a = b) : Ending.returned (.int k a) = .returned (.int k b) := by rw [h]

theorem people_any (a b : Int) (w : World) :
    Calls Try.prog 85 #[.int .i64 a, .int .i64 b] w fun e w' => e = .returned (.bool (peo a b)) ∧ w = w' := by
  unfold peo
  go_enter Try.func85, Try.ntmps85
  go_wp2
  all_goals
    go_ret
    exact ⟨ret_bool (by rw [Bool.eq_iff_iff]; simp; try omega), rfl⟩

set_option maxHeartbeats 400000 in
theorem choices_in (n k : Nat) (h : k ≤ n) (h2 : n ≤ 50) (w : World) :
    Calls Try.prog 120 #[.int .i64 n, .int .i64 k] w fun e w' => e = .returned (.int .i64 (cho n k)) ∧ w = w' := by
  rw [cho_in n k h h2]
  have fin : ∃ m : Nat, bin n k = bin n m ∧ m ≤ n ∧ ((k ≤ n - k ∧ m = k) ∨ (n - k < k ∧ m = n - k)) := by
    by_cases hk : k ≤ n - k
    · exact ⟨k, rfl, h, .inl ⟨hk, rfl⟩⟩
    · exact ⟨n - k, bin_symm n k h, by omega, .inr ⟨by omega, rfl⟩⟩
  obtain ⟨m, hm, hmn, hcase⟩ := fin
  rw [hm]
  clear hm
  have hc : ((k : Int) ≤ (n : Int) - (k : Int) ∧ ((k : Int) = (m : Int))) ∨ (¬ ((k : Int) ≤ (n : Int) - (k : Int)) ∧ ((n : Int) - (k : Int) = (m : Int))) := by omega
  rcases hc with ⟨hc, he⟩ | ⟨hc, he⟩
  all_goals
    have he' := Lib.hid he
    clear he
    clear hcase
    go_enter Try.func120, Try.ntmps120
    go_wp2
    go_loop [5, 6, 27] (fun o _ c => ∃ i : Nat, i ≤ m ∧ o = .int .i64 (bin n i) ∧ c = .int .i64 i) (fun _ _ c => m - (intOf c).toNat)
    case atStart => exact ⟨0, by omega, by rw [bin_zero]; rfl, rfl⟩
    case round =>
      obtain ⟨i, hi, rfl, rfl⟩ := hrel
      have hq := he'.out
      by_cases hlt : i < m
      · have hb := bin_mul_le n i (by omega) h2
        have hd := bin_div n i (by omega)
        have hd' := Lib.hid hd
        have hlt2 : (i : Int) < (n : Int) - (k : Int) := by omega
        have hlt3 : i < k := by omega
        clear hd hq
        go_wp2
        go_round
        case rel => exact ⟨i + 1, by omega, by rw [hd'.out], by go_num⟩
        case measure => simp [intOf]; omega
      · have e : i = m := by omega
        subst e
        clear hq
        first
        | (have hlt3 : ¬ i < k := by have := he'.out; omega
           go_wp2
           go_ret
           exact ⟨rfl, rfl⟩)
        | (have hlt3 : ¬ (i : Int) < (n : Int) - (k : Int) := by have := he'.out; omega
           go_wp2
           go_ret
           exact ⟨rfl, rfl⟩)

set_option maxHeartbeats 400000 in
theorem choices_any (a b : Int) (w : World) :
    Calls Try.prog 120 #[.int .i64 a, .int .i64 b] w fun e w' => e = .returned (.int .i64 (cho a b)) ∧ w = w' := by
  by_cases h : 0 ≤ a ∧ a ≤ 50 ∧ 0 ≤ b ∧ b ≤ a
  · obtain ⟨n, rfl⟩ := Int.eq_ofNat_of_zero_le h.1
    obtain ⟨k, rfl⟩ := Int.eq_ofNat_of_zero_le h.2.2.1
    exact choices_in n k (by omega) (by omega) w
  · rw [cho_out a b h]
    have h' : a < 0 ∨ (0 ≤ a ∧ 50 < a) ∨ (0 ≤ a ∧ a ≤ 50 ∧ b < 0) ∨ (0 ≤ a ∧ a ≤ 50 ∧ 0 ≤ b ∧ a < b) := by omega
    clear h
    rcases h' with h | ⟨h, h1⟩ | ⟨h, h1, h2⟩ | ⟨h, h1, h2, h3⟩
    all_goals
      go_enter Try.func120, Try.ntmps120
      go_wp2
      go_ret
      exact ⟨rfl, rfl⟩

theorem right_any (N n x a : Int) (w : World) :
    Calls Try.prog 82 #[.int .i64 N, .int .i64 n, .int .i64 x, .int .i64 a] w fun e w' => e = .returned (.bool (rgt N n x a)) ∧ w = w' := by
  unfold rgt
  go_enter Try.func82, Try.ntmps82
  go_wp2_with (go_at_call 85; refine (people_any _ _ _).mono ?_; rintro e w' ⟨rfl, rfl⟩)
  all_goals
    go_ret
    exact ⟨ret_bool (by rw [Bool.eq_iff_iff]; simp [*]; try omega), rfl⟩

theorem likely_any (N n s a : Int) (w : World) (h : 0 ≤ s) (h2 : s ≤ 1125899906842624) (h3 : 0 ≤ a) (h4 : a ≤ 1000) :
    Calls Try.prog 83 #[.int .i64 N, .int .i64 n, .int .i64 s, .int .i64 a] w fun e w' => e = .returned (.bool (decide (a * cho N n < 1000 * s))) ∧ w = w' := by
  have hc := cho_bd N n
  have hm : 0 ≤ a * cho N n ∧ a * cho N n ≤ 1125899906842624000 := by
    constructor
    · exact Int.mul_nonneg h3 hc.1
    · have := Int.mul_le_mul h4 hc.2 hc.1 (by omega); omega
  go_enter Try.func83, Try.ntmps83
  go_wp2_with (go_at_call 120; refine (choices_any _ _ _).mono ?_; rintro e w' ⟨rfl, rfl⟩)
  go_ret
  exact ⟨rfl, rfl⟩

set_option maxHeartbeats 400000 in
theorem samples_any (N K n x : Int) (w : World) :
    Calls Try.prog 121 #[.int .i64 N, .int .i64 K, .int .i64 n, .int .i64 x] w fun e w' => e = .returned (.int .i64 (smp N K n x)) ∧ w = w' := by
  by_cases hp : peo N K = true
  · by_cases hq : peo N n = true
    · have e := smp_cho N K n x (by rw [hp, hq]; rfl)
      by_cases hx : 0 ≤ x ∧ x ≤ n
      · have hb := smp_bd N K n x
        rw [e] at hb
        have e' := Lib.hid e
        clear e
        have h1 := (peo_iff _ _).1 hp
        have h2 := (peo_iff _ _).1 hq
        go_enter Try.func121, Try.ntmps121
        go_wp2_with (first | (go_at_call 85; refine (people_any _ _ _).mono ?_; rintro e w' ⟨rfl, rfl⟩) | (go_at_call 120; refine (choices_any _ _ _).mono ?_; rintro e w' ⟨rfl, rfl⟩))
        go_ret
        exact ⟨ret_int e'.out.symm, rfl⟩
      · have e' : smp N K n x = 0 := by
          rw [e]
          have h2 := (peo_iff _ _).1 hq
          by_cases hx0 : 0 ≤ x
          · rw [cho_out (N - K) (n - x) (by omega), Int.mul_zero]
          · rw [cho_out K x (by omega), Int.zero_mul]
        rw [e']
        clear e e'
        have hx' : x < 0 ∨ (0 ≤ x ∧ n < x) := by omega
        clear hx
        rcases hx' with hx | ⟨hx, hx'⟩
        all_goals
          go_enter Try.func121, Try.ntmps121
          go_wp2_with (first | (go_at_call 85; refine (people_any _ _ _).mono ?_; rintro e w' ⟨rfl, rfl⟩) | (go_at_call 120; refine (choices_any _ _ _).mono ?_; rintro e w' ⟨rfl, rfl⟩))
          go_ret
          exact ⟨rfl, rfl⟩
    · have e' : smp N K n x = 0 := by unfold smp; simp [hq]
      rw [e']
      clear e'
      have hq' : peo N n = false := by simpa using hq
      clear hq
      go_enter Try.func121, Try.ntmps121
      go_wp2_with (first | (go_at_call 85; refine (people_any _ _ _).mono ?_; rintro e w' ⟨rfl, rfl⟩) | (go_at_call 120; refine (choices_any _ _ _).mono ?_; rintro e w' ⟨rfl, rfl⟩))
      go_ret
      exact ⟨rfl, rfl⟩
  · have e' : smp N K n x = 0 := by unfold smp; simp [hp]
    rw [e']
    clear e'
    have hp' : peo N K = false := by simpa using hp
    clear hp
    go_enter Try.func121, Try.ntmps121
    go_wp2_with (first | (go_at_call 85; refine (people_any _ _ _).mono ?_; rintro e w' ⟨rfl, rfl⟩) | (go_at_call 120; refine (choices_any _ _ _).mono ?_; rintro e w' ⟨rfl, rfl⟩))
    go_ret
    exact ⟨rfl, rfl⟩

theorem min_eq_of {a b : Int} (h : a ≤ b) : min a b = a := by omega
theorem atm_sat (N K n x : Int) (h : n ≤ x) : atm N K n x = atm N K n n := by
  unfold atm
  split
  · rename_i hp
    simp only [Bool.and_eq_true, peo_iff] at hp
    rw [cum_sat' _ _ n.toNat (x + 1).toNat (by omega), cum_sat' _ _ n.toNat (n + 1).toNat (by omega)]
  · rfl
theorem atm_neg (N K n x : Int) (h : x < 0) : atm N K n x = 0 := by
  unfold atm
  split
  · rw [show (x + 1).toNat = 0 from by omega]; rfl
  · rfl

set_option maxHeartbeats 400000 in
theorem atmost_in (N K n j : Nat) (x : Int) (h1 : 1 ≤ N) (h2 : N ≤ 50) (h3 : K ≤ N) (h4 : n ≤ N) (hx : (x ≤ n ∧ x + 1 = j) ∨ ((n : Int) < x ∧ j = n + 1)) (w : World) :
    Calls Try.prog 84 #[.int .i64 N, .int .i64 K, .int .i64 n, .int .i64 x] w fun e w' => e = .returned (.int .i64 (cum K (N - K) n j)) ∧ w = w' := by
  have hp : peo N K = true := (peo_iff _ _).2 (by omega)
  have hq : peo N n = true := (peo_iff _ _).2 (by omega)
  have hb := cum_bd N K n j h3 h2
  have hj : j ≤ n + 1 := by omega
  rcases hx with ⟨hx, he⟩ | ⟨hx, he⟩
  all_goals
    have he' := Lib.hid he
    clear he
    go_enter Try.func84, Try.ntmps84
    go_wp2_with (go_at_call 85; refine (people_any _ _ _).mono ?_; rintro e w' ⟨rfl, rfl⟩)
    go_loop [9, 10] (fun o c => ∃ i : Nat, i ≤ j ∧ o = .int .i64 (cum K (N - K) n i) ∧ c = .int .i64 i) (fun _ c => j - (intOf c).toNat)
    case atStart => exact ⟨0, by omega, rfl, rfl⟩
    case round =>
      obtain ⟨i, hi, rfl, rfl⟩ := hrel
      have hi2 := he'.out
      by_cases hlt : i < j
      · have hs := smp_nat N K n i h1 h2 h3 h4
        have hs' := Lib.hid hs
        have hb2 := cum_bd N K n (i + 1) h3 h2
        have hb3 : (cum K (N - K) n i : Int) + hyp K (N - K) n i ≤ 1125899906842624 := by rw [cum] at hb2; omega
        have hb4 : 0 ≤ (cum K (N - K) n i : Int) := by omega
        have hb5 : 0 ≤ (hyp K (N - K) n i : Int) := by omega
        have hlt2 : (i : Int) ≤ x := by omega
        have hlt3 : i ≤ n := by omega
        clear hs hi2 hb2
        go_wp2_with (go_at_call 121; refine (samples_any _ _ _ _ _).mono ?_; rintro e w' ⟨rfl, rfl⟩; rw [hs'.out])
        go_round
        case rel => exact ⟨i + 1, by omega, by rw [cum]; go_num, by go_num⟩
        case measure => simp [intOf]; omega
      · have e : i = j := by omega
        subst e
        clear hi2
        first
        | (have hlt3 : ¬ i ≤ n := by have := he'.out; omega
           go_wp2
           go_ret
           exact ⟨rfl, rfl⟩)
        | (have hlt3 : ¬ (i : Int) ≤ x := by have := he'.out; omega
           go_wp2
           go_ret
           exact ⟨rfl, rfl⟩)

set_option maxHeartbeats 400000 in
theorem atmost_any (N K n x : Int) (w : World) :
    Calls Try.prog 84 #[.int .i64 N, .int .i64 K, .int .i64 n, .int .i64 x] w fun e w' => e = .returned (.int .i64 (atm N K n x)) ∧ w = w' := by
  by_cases hp : peo N K = true
  · by_cases hq : peo N n = true
    · have h1 := (peo_iff _ _).1 hp
      have h2 := (peo_iff _ _).1 hq
      obtain ⟨N', rfl⟩ := Int.eq_ofNat_of_zero_le (show 0 ≤ N by omega)
      obtain ⟨K', rfl⟩ := Int.eq_ofNat_of_zero_le h1.2.2.1
      obtain ⟨n', rfl⟩ := Int.eq_ofNat_of_zero_le h2.2.2.1
      by_cases hx : x < 0
      · rw [atm_neg _ _ _ _ hx]
        go_enter Try.func84, Try.ntmps84
        go_wp2_with (go_at_call 85; refine (people_any _ _ _).mono ?_; rintro e w' ⟨rfl, rfl⟩)
        all_goals
          refine wp_loop_rounds 1 ?_
          rw [rounds_succ]
          go_wp2
          go_ret
          exact ⟨rfl, rfl⟩
      · by_cases hxn : x ≤ n'
        · obtain ⟨j, hj⟩ := Int.eq_ofNat_of_zero_le (show 0 ≤ x + 1 by omega)
          have e := atm_nat N' K' n' j (by omega) (by omega) (by omega) (by omega)
          rw [show x = (j : Int) - 1 by omega]
          rw [e]
          exact atmost_in N' K' n' j _ (by omega) (by omega) (by omega) (by omega) (.inl ⟨by omega, by omega⟩) w
        · have e := atm_nat N' K' n' (n' + 1) (by omega) (by omega) (by omega) (by omega)
          rw [atm_sat _ _ _ _ (by omega : (n' : Int) ≤ x)]
          rw [show (((n' + 1 : Nat) : Int) - 1) = n' by omega] at e
          rw [e]
          exact atmost_in N' K' n' (n' + 1) _ (by omega) (by omega) (by omega) (by omega) (.inr ⟨by omega, rfl⟩) w
    · have e' : atm N K n x = 0 := by unfold atm; simp [hq]
      rw [e']
      clear e'
      have hq' : peo N n = false := by simpa using hq
      clear hq
      go_enter Try.func84, Try.ntmps84
      go_wp2_with (go_at_call 85; refine (people_any _ _ _).mono ?_; rintro e w' ⟨rfl, rfl⟩)
      go_ret
      exact ⟨rfl, rfl⟩
  · have e' : atm N K n x = 0 := by unfold atm; simp [hp]
    rw [e']
    clear e'
    have hp' : peo N K = false := by simpa using hp
    clear hp
    go_enter Try.func84, Try.ntmps84
    go_wp2_with (go_at_call 85; refine (people_any _ _ _).mono ?_; rintro e w' ⟨rfl, rfl⟩)
    go_ret
    exact ⟨rfl, rfl⟩

end Est
end Go.Proofs.Ytmmekdkllccmdaa
