/-
  The walks of package estimate: the bounds, and the rate.
-/
import Derived.Test.YtmmekdkllccmdaaEstProg
namespace Go.Proofs.Ytmmekdkllccmdaa
open Go.RowKit
namespace Est

theorem lik_up (N n x a d : Nat) (h1 : 1 ≤ N) (h2 : N ≤ 50) (h4 : n ≤ N) (hx : x ≤ n) (hd : d ≤ N - n) :
    decide ((a : Int) * cho N n < 1000 * atm N ((x : Int) + (d : Int)) n x) = upOk N n x a (x + d) := by
  have e := atm_nat N (x + d) n (x + 1) h1 h2 (by omega) h4
  rw [show (((x + 1 : Nat) : Int) - 1) = x by omega] at e
  rw [show ((x : Int) + (d : Int)) = ((x + d : Nat) : Int) by omega, e, cho_nat N n h2]
  unfold upOk
  rw [Bool.eq_iff_iff]
  simp only [decide_eq_true_eq]
  generalize cum (x + d) (N - (x + d)) n (x + 1) = c
  generalize bin N n = b
  have : ((a * b : Nat) : Int) = (a : Int) * (b : Int) := by simp
  omega
theorem lik_lo (N n x a K : Nat) (h1 : 1 ≤ N) (h2 : N ≤ 50) (h4 : n ≤ N) (hK : K ≤ N) :
    decide ((a : Int) * cho N n < 1000 * (cho N n - atm N K n ((x : Int) - 1))) = loOk N n x a K := by
  have e := atm_nat N K n x h1 h2 hK h4
  rw [e, cho_nat N n h2]
  unfold loOk
  rw [Bool.eq_iff_iff]
  simp only [decide_eq_true_eq]
  have hc := cum_bound K (N - K) n x
  rw [show K + (N - K) = N from by omega] at hc
  generalize cum K (N - K) n x = c at *
  generalize bin N n = b at *
  have : ((a * b : Nat) : Int) = (a : Int) * (b : Int) := by simp
  omega
theorem ret_pair {k l : IntKind} {a b c d : Int} (h : a = b) (h2 : c = d) : Ending.returned (.tuple #[.int k a, .int l c]) = .returned (.tuple #[.int k b, .int l d]) := by rw [h, h2]

set_option maxHeartbeats 400000 in
theorem upper_in (N n x a : Nat) (h1 : 1 ≤ N) (h2 : N ≤ 50) (h3 : 1 ≤ n) (h4 : n ≤ N) (hx : x ≤ n) (ha : 1 ≤ a) (ha2 : a < 1000) (w : World) :
    Calls Try.prog 34 #[.int .i64 N, .int .i64 n, .int .i64 x, .int .i64 a] w fun e w' => e = .returned (.tuple #[.int .i64 (up N n x a (N - n)), .int .i64 0]) ∧ w = w' := by
  have hr : rgt N n x a = true := (rgt_iff _ _ _ _).2 (by omega)
  go_enter Try.func34, Try.ntmps34
  go_wp2_with (go_at_call 82; refine (right_any _ _ _ _ _).mono ?_; rintro e w' ⟨rfl, rfl⟩)
  go_loop [10] (fun c => ∃ d : Nat, d ≤ N - n ∧ up N n x a (N - n) = up N n x a d ∧ c = .int .i64 ((x : Int) + (d : Int))) (fun c => (intOf c - x).toNat)
  case atStart => exact ⟨N - n, by omega, rfl, by go_num⟩
  case round =>
    obtain ⟨d, hd, hu, rfl⟩ := hrel
    have hu' := Lib.hid hu
    clear hu
    by_cases hlt : 0 < d
    · have hb := atm_bd N ((x : Int) + (d : Int)) n x
      have hb2 := cho_bd N n
      have hl := lik_up N n x a d h1 h2 h4 hx hd
      have hl' := Lib.hid hl
      have hlt2 : (x : Int) < (x : Int) + (d : Int) := by omega
      clear hl
      go_wp2_with (go_at_call 84; refine (atmost_any _ _ _ _ _).mono ?_; rintro e w' ⟨rfl, rfl⟩)
      refine (likely_any _ _ _ _ _ (by omega) (by omega) (by omega) (by omega)).mono ?_
      rintro e w' ⟨rfl, rfl⟩
      rw [hl'.out]
      cases hc : upOk N n x a (x + d)
      · go_wp2
        go_round
        case rel =>
          obtain ⟨d', rfl⟩ : ∃ d', d = d' + 1 := ⟨d - 1, by omega⟩
          refine ⟨d', by omega, ?_, by go_num⟩
          rw [hu'.out, up, if_neg (by rw [hc]; simp)]
        case measure => simp [intOf]; omega
      · go_wp2
        go_ret2
        refine ⟨ret_pair ?_ rfl, rfl⟩
        rw [hu'.out]
        obtain ⟨d', rfl⟩ : ∃ d', d = d' + 1 := ⟨d - 1, by omega⟩
        rw [up, if_pos hc]; omega
    · have e : d = 0 := by omega
      subst e
      have hlt2 : ¬ (x : Int) < (x : Int) + ((0 : Nat) : Int) := by omega
      go_wp2
      go_ret2
      refine ⟨ret_pair ?_ rfl, rfl⟩
      rw [hu'.out, up]

set_option maxHeartbeats 400000 in
theorem upper_any (N n x a : Int) (w : World) :
    Calls Try.prog 34 #[.int .i64 N, .int .i64 n, .int .i64 x, .int .i64 a] w fun e w' => e = .returned (.tuple #[.int .i64 (upV N n x a), .int .i64 (err N n x a)]) ∧ w = w' := by
  by_cases hr : rgt N n x a = true
  · have h := (rgt_iff _ _ _ _).1 hr
    unfold upV err
    rw [if_pos hr, if_pos hr]
    obtain ⟨N', rfl⟩ := Int.eq_ofNat_of_zero_le (show 0 ≤ N by omega)
    obtain ⟨n', rfl⟩ := Int.eq_ofNat_of_zero_le (show 0 ≤ n by omega)
    obtain ⟨x', rfl⟩ := Int.eq_ofNat_of_zero_le (show 0 ≤ x by omega)
    obtain ⟨a', rfl⟩ := Int.eq_ofNat_of_zero_le (show 0 ≤ a by omega)
    exact upper_in N' n' x' a' (by omega) (by omega) (by omega) (by omega) (by omega) (by omega) (by omega) w
  · unfold upV err
    rw [if_neg hr, if_neg hr]
    have hr' : rgt N n x a = false := by simpa using hr
    clear hr
    go_enter Try.func34, Try.ntmps34
    go_wp2_with (go_at_call 82; refine (right_any _ _ _ _ _).mono ?_; rintro e w' ⟨rfl, rfl⟩)
    go_ret2
    exact ⟨rfl, rfl⟩

theorem rate_any (N K : Int) (w : World) :
    Calls Try.prog 35 #[.int .i64 N, .int .i64 K] w fun e w' => e = .returned (.int .i64 (rat N K)) ∧ w = w' := by
  cases hp : peo N K
  · have e : rat N K = 0 := by unfold rat; rw [hp]; rfl
    rw [e]
    clear e
    go_enter Try.func35, Try.ntmps35
    go_wp2_with (go_at_call 85; refine (people_any _ _ _).mono ?_; rintro e w' ⟨rfl, rfl⟩)
    go_ret
    exact ⟨rfl, rfl⟩
  · have e : rat N K = (K * 1000 + N - 1) / N := by unfold rat; rw [hp]; rfl
    rw [e]
    have h := (peo_iff _ _).1 hp
    clear e
    go_enter Try.func35, Try.ntmps35
    go_wp2_with (go_at_call 85; refine (people_any _ _ _).mono ?_; rintro e w' ⟨rfl, rfl⟩)
    go_ret
    exact ⟨rfl, rfl⟩
end Est
end Go.Proofs.Ytmmekdkllccmdaa
