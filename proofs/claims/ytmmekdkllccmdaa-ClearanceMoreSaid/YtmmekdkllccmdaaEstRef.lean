/-
  The walks of landaidref26, and of what it calls of landaidref01: the same functions of numbers as those of package estimate.
-/
import Derived.Test.YtmmekdkllccmdaaEstProgB
namespace Go.Proofs.Ytmmekdkllccmdaa
open Go.RowKit
namespace Est

set_option maxHeartbeats 400000 in
theorem rchoices_in (n k : Nat) (h : k ≤ n) (h2 : n ≤ 50) (w : World) :
    Calls Try.prog 117 #[.int .i64 n, .int .i64 k] w fun e w' => e = .returned (.int .i64 (cho n k)) ∧ w = w' := by
  rw [cho_in n k h h2]
  have fin : ∃ m : Nat, bin n k = bin n m ∧ m ≤ n ∧ ((k ≤ n - k ∧ m = k) ∨ (n - k < k ∧ m = n - k)) := by
    by_cases hk : k ≤ n - k
    · exact ⟨k, rfl, h, .inl ⟨hk, rfl⟩⟩
    · exact ⟨n - k, bin_symm n k h, by omega, .inr ⟨by omega, rfl⟩⟩
  obtain ⟨m, hm, hmn, hcase⟩ := fin
  rw [hm]
  clear hm
  have hc : ((k : Int) ≤ (n : Int) - (k : Int) ∧ ((k : Int) = (m : Int))) ∨ (¬ ((k : Int) ≤ (n : Int) - (k : Int)) ∧ ((n : Int) - (k : Int) = (m : Int))) := by omega
  rcases hc with ⟨hc, he⟩ | ⟨hc, he⟩
  all_goals
    have he' := Lib.hid he
    clear he
    clear hcase
    go_enter Try.func117, Try.ntmps117
    go_wp2
    go_loop [5, 6] (fun o c => ∃ i : Nat, i ≤ m ∧ o = .int .i64 (bin n i) ∧ c = .int .i64 i) (fun _ c => m - (intOf c).toNat)
    case atStart => exact ⟨0, by omega, by rw [bin_zero]; rfl, rfl⟩
    case round =>
      obtain ⟨i, hi, rfl, rfl⟩ := hrel
      have hq := he'.out
      by_cases hlt : i < m
      · have hb := bin_mul_le n i (by omega) h2
        have hd := bin_div n i (by omega)
        have hd' := Lib.hid hd
        have hlt2 : (i : Int) < (n : Int) - (k : Int) := by omega
        have hlt3 : i < k := by omega
        clear hd hq
        go_wp2
        go_round
        case rel => exact ⟨i + 1, by omega, by rw [hd'.out], by go_num⟩
        case measure => simp [intOf]; omega
      · have e : i = m := by omega
        subst e
        clear hq
        first
        | (have hlt3 : ¬ i < k := by have := he'.out; omega
           go_wp2
           go_ret
           exact ⟨rfl, rfl⟩)
        | (have hlt3 : ¬ (i : Int) < (n : Int) - (k : Int) := by have := he'.out; omega
           go_wp2
           go_ret
           exact ⟨rfl, rfl⟩)

set_option maxHeartbeats 400000 in
theorem rchoices_any (a b : Int) (w : World) :
    Calls Try.prog 117 #[.int .i64 a, .int .i64 b] w fun e w' => e = .returned (.int .i64 (cho a b)) ∧ w = w' := by
  by_cases h : 0 ≤ a ∧ a ≤ 50 ∧ 0 ≤ b ∧ b ≤ a
  · obtain ⟨n, rfl⟩ := Int.eq_ofNat_of_zero_le h.1
    obtain ⟨k, rfl⟩ := Int.eq_ofNat_of_zero_le h.2.2.1
    exact rchoices_in n k (by omega) (by omega) w
  · rw [cho_out a b h]
    have h' : a < 0 ∨ (0 ≤ a ∧ 50 < a) ∨ (0 ≤ a ∧ a ≤ 50 ∧ b < 0) ∨ (0 ≤ a ∧ a ≤ 50 ∧ 0 ≤ b ∧ a < b) := by omega
    clear h
    rcases h' with h | ⟨h, h1⟩ | ⟨h, h1, h2⟩ | ⟨h, h1, h2, h3⟩
    all_goals
      go_enter Try.func117, Try.ntmps117
      go_wp2
      go_ret
      exact ⟨rfl, rfl⟩

def two (N K n : Int) : Bool := peo N K && peo N n
theorem two_iff (N K n : Int) : two N K n = true ↔ 1 ≤ N ∧ N ≤ 50 ∧ 0 ≤ K ∧ K ≤ N ∧ 0 ≤ n ∧ n ≤ N := by
  unfold two; rw [Bool.and_eq_true, peo_iff, peo_iff]; omega

theorem rright_any (N K n : Int) (w : World) :
    Calls Try.prog 118 #[.int .i64 N, .int .i64 K, .int .i64 n] w fun e w' => e = .returned (.bool (two N K n)) ∧ w = w' := by
  have e : two N K n = (decide (1 ≤ N) && decide (N ≤ 50) && decide (0 ≤ K) && decide (K ≤ N) && decide (0 ≤ n) && decide (n ≤ N)) := by
    rw [Bool.eq_iff_iff, two_iff]; simp; omega
  rw [e]
  clear e
  go_enter Try.func118, Try.ntmps118
  go_wp2
  all_goals
    go_ret
    exact ⟨ret_bool (by rw [Bool.eq_iff_iff]; simp [*]; try omega), rfl⟩

theorem ask_any (N n x a : Int) (w : World) :
    Calls Try.prog 115 #[.int .i64 N, .int .i64 n, .int .i64 x, .int .i64 a] w fun e w' => e = .returned (.bool (rgt N n x a)) ∧ w = w' := by
  have e : rgt N n x a = (decide (1 ≤ N) && decide (N ≤ 50) && decide (1 ≤ n) && decide (n ≤ N) && decide (0 ≤ x) && decide (x ≤ n) && decide (1 ≤ a) && decide (a < 1000)) := by
    rw [Bool.eq_iff_iff, rgt_iff]; simp; omega
  rw [e]
  clear e
  go_enter Try.func115, Try.ntmps115
  go_wp2
  all_goals
    go_ret
    exact ⟨ret_bool (by rw [Bool.eq_iff_iff]; simp [*]; try omega), rfl⟩

theorem smp_two (N K n x : Int) (h : two N K n = true) : smp N K n x = cho K x * cho (N - K) (n - x) := smp_cho N K n x h
theorem smp_out (N K n x : Int) (h : two N K n = false) : smp N K n x = 0 := by
  unfold two at h
  unfold smp
  rw [h]; rfl
theorem atm_out (N K n x : Int) (h : two N K n = false) : atm N K n x = 0 := by
  unfold two at h
  unfold atm
  rw [h]; rfl

set_option maxHeartbeats 400000 in
theorem rsamples_any (N K n x : Int) (hx1 : -9223372036854775808 ≤ x) (hx2 : x ≤ 9223372036854775807) (w : World) :
    Calls Try.prog 136 #[.int .i64 N, .int .i64 K, .int .i64 n, .int .i64 x] w fun e w' => e = .returned (.int .i64 (smp N K n x)) ∧ w = w' := by
  cases hp : two N K n
  · rw [smp_out N K n x hp]
    go_enter Try.func136, Try.ntmps136
    go_wp2_with (go_at_call 118; refine (rright_any _ _ _ _).mono ?_; rintro e w' ⟨rfl, rfl⟩)
    go_ret
    exact ⟨rfl, rfl⟩
  · have h := (two_iff _ _ _).1 hp
    have e := smp_two N K n x hp
    by_cases hx : 0 ≤ x
    · have hb := smp_bd N K n x
      rw [e] at hb
      have e' := Lib.hid e
      clear e
      go_enter Try.func136, Try.ntmps136
      go_wp2_with (first | (go_at_call 118; refine (rright_any _ _ _ _).mono ?_; rintro e w' ⟨rfl, rfl⟩) | (go_at_call 117; refine (rchoices_any _ _ _).mono ?_; rintro e w' ⟨rfl, rfl⟩))
      go_ret
      exact ⟨ret_int e'.out.symm, rfl⟩
    · have h0 : cho K x = 0 := cho_out K x (by omega)
      rw [h0, Int.zero_mul] at e
      rw [e]
      clear e
      have h0' := Lib.hid h0
      clear h0
      go_enter Try.func136, Try.ntmps136
      go_wp2_with fail
      refine (rright_any _ _ _ _).mono ?_
      rintro e w' ⟨rfl, rfl⟩
      go_wp2_with fail
      refine (rchoices_any _ _ _).mono ?_
      rintro e w' ⟨rfl, rfl⟩
      rw [h0'.out]
      go_wp2_with fail
      refine (rchoices_any _ _ _).mono ?_
      rintro e w' ⟨rfl, rfl⟩
      go_wp2
      go_ret
      exact ⟨rfl, rfl⟩

set_option maxHeartbeats 400000 in
theorem ratmost_in (N K n j : Nat) (x : Int) (h1 : 1 ≤ N) (h2 : N ≤ 50) (h3 : K ≤ N) (h4 : n ≤ N) (hx : (x ≤ n ∧ x + 1 = j) ∨ ((n : Int) < x ∧ j = n + 1)) (w : World) :
    Calls Try.prog 116 #[.int .i64 N, .int .i64 K, .int .i64 n, .int .i64 x] w fun e w' => e = .returned (.int .i64 (cum K (N - K) n j)) ∧ w = w' := by
  have hp : two N K n = true := (two_iff _ _ _).2 (by omega)
  have hb := cum_bd N K n j h3 h2
  have hj : j ≤ n + 1 := by omega
  rcases hx with ⟨hx, he⟩ | ⟨hx, he⟩
  all_goals
    have he' := Lib.hid he
    clear he
    go_enter Try.func116, Try.ntmps116
    go_wp2_with (go_at_call 118; refine (rright_any _ _ _ _).mono ?_; rintro e w' ⟨rfl, rfl⟩)
    go_loop [9, 10] (fun o c => ∃ i : Nat, i ≤ j ∧ o = .int .i64 (cum K (N - K) n i) ∧ c = .int .i64 i) (fun _ c => j - (intOf c).toNat)
    case atStart => exact ⟨0, by omega, rfl, rfl⟩
    case round =>
      obtain ⟨i, hi, rfl, rfl⟩ := hrel
      have hi2 := he'.out
      by_cases hlt : i < j
      · have hs := smp_nat N K n i h1 h2 h3 h4
        have hs' := Lib.hid hs
        have hb2 := cum_bd N K n (i + 1) h3 h2
        have hb3 : (cum K (N - K) n i : Int) + hyp K (N - K) n i ≤ 1125899906842624 := by rw [cum] at hb2; omega
        have hb4 : 0 ≤ (cum K (N - K) n i : Int) := by omega
        have hb5 : 0 ≤ (hyp K (N - K) n i : Int) := by omega
        have hlt2 : (i : Int) ≤ x := by omega
        have hlt3 : i ≤ n := by omega
        clear hs hi2 hb2
        go_wp2_with (go_at_call 136; refine (rsamples_any _ _ _ _ (by omega) (by omega) _).mono ?_; rintro e w' ⟨rfl, rfl⟩; rw [hs'.out])
        go_round
        case rel => exact ⟨i + 1, by omega, by rw [cum]; go_num, by go_num⟩
        case measure => simp [intOf]; omega
      · have e : i = j := by omega
        subst e
        clear hi2
        first
        | (have hlt3 : ¬ i ≤ n := by have := he'.out; omega
           go_wp2
           go_ret
           exact ⟨rfl, rfl⟩)
        | (have hlt3 : ¬ (i : Int) ≤ x := by have := he'.out; omega
           go_wp2
           go_ret
           exact ⟨rfl, rfl⟩)

set_option maxHeartbeats 400000 in
theorem ratmost_any (N K n x : Int) (w : World) :
    Calls Try.prog 116 #[.int .i64 N, .int .i64 K, .int .i64 n, .int .i64 x] w fun e w' => e = .returned (.int .i64 (atm N K n x)) ∧ w = w' := by
  cases hp : two N K n
  · rw [atm_out N K n x hp]
    go_enter Try.func116, Try.ntmps116
    go_wp2_with (go_at_call 118; refine (rright_any _ _ _ _).mono ?_; rintro e w' ⟨rfl, rfl⟩)
    go_ret
    exact ⟨rfl, rfl⟩
  · have h := (two_iff _ _ _).1 hp
    obtain ⟨N', rfl⟩ := Int.eq_ofNat_of_zero_le (show 0 ≤ N by omega)
    obtain ⟨K', rfl⟩ := Int.eq_ofNat_of_zero_le h.2.2.1
    obtain ⟨n', rfl⟩ := Int.eq_ofNat_of_zero_le h.2.2.2.2.1
    by_cases hx : x < 0
    · rw [atm_neg _ _ _ _ hx]
      go_enter Try.func116, Try.ntmps116
      go_wp2_with (go_at_call 118; refine (rright_any _ _ _ _).mono ?_; rintro e w' ⟨rfl, rfl⟩)
      all_goals
        refine wp_loop_rounds 1 ?_
        rw [rounds_succ]
        go_wp2
        go_ret
        exact ⟨rfl, rfl⟩
    · by_cases hxn : x ≤ n'
      · obtain ⟨j, hj⟩ := Int.eq_ofNat_of_zero_le (show 0 ≤ x + 1 by omega)
        have e := atm_nat N' K' n' j (by omega) (by omega) (by omega) (by omega)
        rw [show x = (j : Int) - 1 by omega]
        rw [e]
        exact ratmost_in N' K' n' j _ (by omega) (by omega) (by omega) (by omega) (.inl ⟨by omega, by omega⟩) w
      · have e := atm_nat N' K' n' (n' + 1) (by omega) (by omega) (by omega) (by omega)
        rw [atm_sat _ _ _ _ (by omega : (n' : Int) ≤ x)]
        rw [show (((n' + 1 : Nat) : Int) - 1) = n' by omega] at e
        rw [e]
        exact ratmost_in N' K' n' (n' + 1) _ (by omega) (by omega) (by omega) (by omega) (.inr ⟨by omega, rfl⟩) w

theorem mille_bd (a : Nat) (N n : Int) (ha : a < 1000) : 0 ≤ (a : Int) * cho N n ∧ (a : Int) * cho N n ≤ 1125899906842624000 := by
  have hc := cho_bd N n
  constructor
  · exact Int.mul_nonneg (by omega) hc.1
  · have := Int.mul_le_mul (show (a : Int) ≤ 1000 by omega) hc.2 hc.1 (by omega); omega

set_option maxHeartbeats 400000 in
theorem rupper_in (N n x a : Nat) (h1 : 1 ≤ N) (h2 : N ≤ 50) (h3 : 1 ≤ n) (h4 : n ≤ N) (hx : x ≤ n) (ha : 1 ≤ a) (ha2 : a < 1000) (w : World) :
    Calls Try.prog 80 #[.int .i64 N, .int .i64 n, .int .i64 x, .int .i64 a] w fun e w' => e = .returned (.tuple #[.int .i64 (up N n x a (N - n)), .int .i64 0]) ∧ w = w' := by
  have hr : rgt N n x a = true := (rgt_iff _ _ _ _).2 (by omega)
  go_enter Try.func80, Try.ntmps80
  go_wp2_with (go_at_call 115; refine (ask_any _ _ _ _ _).mono ?_; rintro e w' ⟨rfl, rfl⟩)
  go_loop [10] (fun c => ∃ d : Nat, d ≤ N - n ∧ up N n x a (N - n) = up N n x a d ∧ c = .int .i64 ((x : Int) + (d : Int))) (fun c => (intOf c - x).toNat)
  case atStart => exact ⟨N - n, by omega, rfl, by go_num⟩
  case round =>
    obtain ⟨d, hd, hu, rfl⟩ := hrel
    have hu' := Lib.hid hu
    clear hu
    have hb := atm_bd N ((x : Int) + (d : Int)) n x
    have hb2 := cho_bd N n
    have hb3 := mille_bd a N n ha2
    have hl := lik_up N n x a d h1 h2 h4 hx hd
    cases hc : upOk N n x a (x + d)
    · rw [hc] at hl
      have hn : 1000 * atm N ((x : Int) + (d : Int)) n x ≤ (a : Int) * cho N n := by simpa using hl
      have hlt : 0 < d := by
        rcases Nat.eq_zero_or_pos d with h0 | h0
        · subst h0; rw [Nat.add_zero, upOk_x N n x a (by omega) h4 ha2] at hc; cases hc
        · exact h0
      clear hl
      go_wp2_with (first | (go_at_call 116; refine (ratmost_any _ _ _ _ _).mono ?_; rintro e w' ⟨rfl, rfl⟩) | (go_at_call 117; refine (rchoices_any _ _ _).mono ?_; rintro e w' ⟨rfl, rfl⟩))
      go_round
      case rel =>
        obtain ⟨d', rfl⟩ : ∃ d', d = d' + 1 := ⟨d - 1, by omega⟩
        refine ⟨d', by omega, ?_, by go_num⟩
        rw [hu'.out, up, if_neg (by rw [hc]; simp)]
      case measure => simp [intOf]; omega
    · rw [hc] at hl
      have hn : ¬ 1000 * atm N ((x : Int) + (d : Int)) n x ≤ (a : Int) * cho N n := by simpa using hl
      clear hl
      go_wp2_with (first | (go_at_call 116; refine (ratmost_any _ _ _ _ _).mono ?_; rintro e w' ⟨rfl, rfl⟩) | (go_at_call 117; refine (rchoices_any _ _ _).mono ?_; rintro e w' ⟨rfl, rfl⟩))
      go_ret2
      refine ⟨ret_pair ?_ rfl, rfl⟩
      rw [hu'.out]
      cases d with
      | zero => rw [up]; simp
      | succ d' => rw [up, if_pos hc]; omega

set_option maxHeartbeats 400000 in
theorem rupper_any (N n x a : Int) (w : World) :
    Calls Try.prog 80 #[.int .i64 N, .int .i64 n, .int .i64 x, .int .i64 a] w fun e w' => e = .returned (.tuple #[.int .i64 (upV N n x a), .int .i64 (err N n x a)]) ∧ w = w' := by
  by_cases hr : rgt N n x a = true
  · have h := (rgt_iff _ _ _ _).1 hr
    unfold upV err
    rw [if_pos hr, if_pos hr]
    obtain ⟨N', rfl⟩ := Int.eq_ofNat_of_zero_le (show 0 ≤ N by omega)
    obtain ⟨n', rfl⟩ := Int.eq_ofNat_of_zero_le (show 0 ≤ n by omega)
    obtain ⟨x', rfl⟩ := Int.eq_ofNat_of_zero_le (show 0 ≤ x by omega)
    obtain ⟨a', rfl⟩ := Int.eq_ofNat_of_zero_le (show 0 ≤ a by omega)
    exact rupper_in N' n' x' a' (by omega) (by omega) (by omega) (by omega) (by omega) (by omega) (by omega) w
  · unfold upV err
    rw [if_neg hr, if_neg hr]
    have hr' : rgt N n x a = false := by simpa using hr
    clear hr
    go_enter Try.func80, Try.ntmps80
    go_wp2_with (go_at_call 115; refine (ask_any _ _ _ _ _).mono ?_; rintro e w' ⟨rfl, rfl⟩)
    go_ret2
    exact ⟨rfl, rfl⟩

/-! Quotients, rounded. -/
theorem proper_any (a b : Int) (w : World) :
    Calls Try.prog 137 #[.int .i64 a, .int .i64 b] w fun e w' => e = .returned (.bool (decide (-1125899906842624 ≤ a) && decide (a ≤ 1125899906842624) && decide (1 ≤ b) && decide (b ≤ 1099511627776))) ∧ w = w' := by
  go_enter Try.func137, Try.ntmps137
  go_wp2
  all_goals
    go_ret
    exact ⟨ret_bool (by rw [Bool.eq_iff_iff]; simp [*]; try omega), rfl⟩
theorem proper_yes (a b : Int) (w : World) (h : -1125899906842624 ≤ a ∧ a ≤ 1125899906842624 ∧ 1 ≤ b ∧ b ≤ 1099511627776) :
    Calls Try.prog 137 #[.int .i64 a, .int .i64 b] w fun e w' => e = .returned (.bool true) ∧ w = w' :=
  (proper_any a b w).mono fun _ _ ⟨h1, h2⟩ => ⟨by rw [h1]; exact ret_bool (by simp; omega), h2⟩

/-- Down, of a number that is not positive: the quotient rounded up, negated. -/
theorem rdown_neg (a b : Int) (w : World) (ha : 0 ≤ a) (ha2 : a ≤ 1000000) (hb : 1 ≤ b) (hb2 : b ≤ 1000000) :
    Calls Try.prog 138 #[.int .i64 (-a), .int .i64 b] w fun e w' => e = .returned (.int .i64 (-((a + b - 1) / b))) ∧ w = w' := by
  have hq : a.tdiv b = a / b := Int.tdiv_eq_ediv_of_nonneg ha
  have hq' := Lib.hid hq
  have h1 := Int.mul_ediv_add_emod a b
  have h2 := Int.emod_nonneg a (show b ≠ 0 by omega)
  have h3 := Int.emod_lt_of_pos a (show 0 < b by omega)
  have hd0 : 0 ≤ a / b := Int.ediv_nonneg ha (by omega)
  have hd1 : a / b ≤ a := Int.ediv_le_self b ha
  have hm : b * (a / b) = (a / b) * b := Int.mul_comm _ _
  have hm0 : 0 ≤ (a / b) * b := Int.mul_nonneg hd0 (by omega)
  have hz : 0 ≤ a.tdiv b ∧ a.tdiv b ≤ 1000000 := by rw [hq]; omega
  have hn : -(a / b) * b = -((a / b) * b) := Int.neg_mul _ _
  have hz2 : -1000000 ≤ -(a.tdiv b) * b ∧ -(a.tdiv b) * b ≤ 0 := by rw [hq, hn]; omega
  by_cases hr : a % b = 0
  · have hval : (a + b - 1) / b = a / b := by
      have e : a + b - 1 = (b - 1) + b * (a / b) := by omega
      rw [e, Int.add_mul_ediv_left _ _ (by omega), Int.ediv_eq_zero_of_lt (by omega) (by omega)]; omega
    rw [hval]
    have hno : ¬ -a < -(a.tdiv b) * b := by rw [hq, hn]; omega
    clear hq hr h1 hm hval h2 h3 hm0 hn
    go_enter Try.func138, Try.ntmps138
    go_wp2_with (go_at_call 137; refine (proper_yes _ _ _ (by omega)).mono ?_; rintro e w' ⟨rfl, rfl⟩)
    go_ret
    exact ⟨ret_int (by rw [hq'.out]), rfl⟩
  · have hval : (a + b - 1) / b = a / b + 1 := by
      have e : a + b - 1 = (a % b - 1) + b * (a / b + 1) := by rw [Int.mul_add]; omega
      rw [e, Int.add_mul_ediv_left _ _ (by omega), Int.ediv_eq_zero_of_lt (by omega) (by omega)]; omega
    rw [hval]
    have hyes : -a < -(a.tdiv b) * b := by rw [hq, hn]; omega
    clear hq hr h1 hm hval h2 h3 hm0 hn
    go_enter Try.func138, Try.ntmps138
    go_wp2_with (go_at_call 137; refine (proper_yes _ _ _ (by omega)).mono ?_; rintro e w' ⟨rfl, rfl⟩)
    go_ret
    exact ⟨ret_int (by rw [hq'.out]; omega), rfl⟩

theorem rup_pos (a b : Int) (w : World) (ha : 0 ≤ a) (ha2 : a ≤ 1000000) (hb : 1 ≤ b) (hb2 : b ≤ 1000000) :
    Calls Try.prog 119 #[.int .i64 a, .int .i64 b] w fun e w' => e = .returned (.int .i64 ((a + b - 1) / b)) ∧ w = w' := by
  have h0 : 0 ≤ (a + b - 1) / b := Int.ediv_nonneg (by omega) (by omega)
  have h1 : (a + b - 1) / b ≤ a + b - 1 := Int.ediv_le_self b (by omega)
  go_enter Try.func119, Try.ntmps119
  go_wp2_with (first | (go_at_call 137; refine (proper_yes _ _ _ (by omega)).mono ?_; rintro e w' ⟨rfl, rfl⟩) | (go_at_call 138; refine (rdown_neg _ _ _ (by omega) (by omega) (by omega) (by omega)).mono ?_; rintro e w' ⟨rfl, rfl⟩))
  go_ret
  exact ⟨ret_int (by omega), rfl⟩

theorem rrate_any (N K : Int) (w : World) :
    Calls Try.prog 81 #[.int .i64 N, .int .i64 K] w fun e w' => e = .returned (.int .i64 (rat N K)) ∧ w = w' := by
  have e2 : two N K 0 = peo N K := by rw [Bool.eq_iff_iff, two_iff, peo_iff]; omega
  have e2' := Lib.hid e2
  clear e2
  cases hp : peo N K
  · have e : rat N K = 0 := by unfold rat; rw [hp]; rfl
    rw [e]
    clear e
    go_enter Try.func81, Try.ntmps81
    go_wp2_with (go_at_call 118; refine (rright_any _ _ _ _).mono ?_; rintro e w' ⟨rfl, rfl⟩; rw [e2'.out])
    go_ret
    exact ⟨rfl, rfl⟩
  · have e : rat N K = (K * 1000 + N - 1) / N := by unfold rat; rw [hp]; rfl
    rw [e]
    have h := (peo_iff _ _).1 hp
    clear e
    go_enter Try.func81, Try.ntmps81
    go_wp2_with (first | (go_at_call 118; refine (rright_any _ _ _ _).mono ?_; rintro e w' ⟨rfl, rfl⟩; rw [e2'.out]) | (go_at_call 119; refine (rup_pos _ _ _ (by omega) (by omega) (by omega) (by omega)).mono ?_; rintro e w' ⟨rfl, rfl⟩))
    go_ret
    exact ⟨rfl, rfl⟩
end Est
end Go.Proofs.Ytmmekdkllccmdaa
