/-
  The laws of chapter 26: the whole, and the theorem of the layer.
-/
import Derived.Test.YtackhimcndkccaaEstLaws
namespace Go.Proofs.Ytackhimcndkccaa
open Go.RowKit
set_option linter.unusedVariables false
namespace Est
theorem int_eq {a b : Int} (h : a = b) : Value.int .i64 a = .int .i64 b := by rw [h]

set_option maxRecDepth 100000 in
set_option maxHeartbeats 1000000 in
theorem walk_whole (p q : Nat) (al : Nat) (hp : p ≤ 255) (hq : q ≤ 255) (hal : al ≤ 65535) (w : World) :
    Calls Try.prog 6 #[.int .u8 p, .int .u8 q, .int .u16 al] w fun e w' => e = .returned (.bool true) ∧ ∃ n, w' = w.drewN n := by
  obtain ⟨N, eN, hN⟩ : ∃ N : Nat, 1 + (p : Int) % 50 = N ∧ 1 ≤ N ∧ N ≤ 50 := ⟨1 + p % 50, by omega, by omega, by omega⟩
  obtain ⟨x, ex, hx⟩ := emod_nat q (N + 1) (by omega)
  obtain ⟨m, em, hm⟩ := emod_nat al (N + 1) (by omega)
  rw [show ((N + 1 : Nat) : Int) = (N : Int) + 1 by omega] at ex em
  obtain ⟨a, ea, ha⟩ : ∃ a : Nat, 1 + (al : Int) % 998 = a ∧ 1 ≤ a ∧ a ≤ 998 := ⟨1 + al % 998, by omega, by omega, by omega⟩
  obtain ⟨u1, k1⟩ := upV_nat N N x a (by omega) (by omega) (by omega) (by omega) (by omega) (by omega) (by omega)
  have l1 := loV_nat N N x a (by omega) (by omega) (by omega) (by omega) (by omega) (by omega) (by omega)
  rw [Nat.sub_self, up] at u1
  rw [Nat.sub_self, lo, Nat.add_zero] at l1
  have hall := cum_all x (N - x) m (N + 1) (by omega)
  rw [show x + (N - x) = N from by omega] at hall
  have hmost := cum_all x (N - x) m (m + 1) (by omega)
  rw [show x + (N - x) = N from by omega] at hmost
  have e1 : cho N m = bin N m := cho_nat N m (by omega)
  have e2 : atm N x m m = bin N m := by
    have := atm_nat N x m (m + 1) (by omega) (by omega) (by omega) (by omega)
    rw [show (((m + 1 : Nat) : Int) - 1) = m by omega] at this
    rw [this, hmost]
  have hall' := Lib.hid hall
  have ks : IntKind.i64.wrap ((N : Int) + 1) = (N : Int) + 1 := by rw [IntWalk.i64_in _ (by omega)]
  have ks' := Lib.hid ks
  have em' := Lib.hid em
  clear hall hmost ks
  go_enter Try.func6, Try.ntmps6
  go_wp2_with (first | (go_at_call 13; refine (upper_any _ _ _ _ _).mono ?_; rintro e w' ⟨rfl, rfl⟩) | (go_at_call 15; refine (lower_any _ _ _ _ _).mono ?_; rintro e w' ⟨rfl, rfl⟩) | (go_at_call 17; refine (choices_any _ _ _).mono ?_; rintro e w' ⟨rfl, rfl⟩) | (go_at_call 21; refine (atmost_any _ _ _ _ _).mono ?_; rintro e w' ⟨rfl, rfl⟩) | (go_at_call 19; refine (samples_any _ _ _ _ _).mono ?_; rintro e w' ⟨rfl, rfl⟩) | (go_at_call 23; refine (rate_any _ _ _).mono ?_; rintro e w' ⟨rfl, rfl⟩) | (go_at_call 25; refine (awake_any _).mono ?_; rintro e w' ⟨rfl, rfl⟩))
  have kt : (al : Int).tmod ((N : Int) + 1) = m := by rw [Int.tmod_eq_emod_of_nonneg (by omega)]; exact em'.out
  have ks := ks'.out
  have kz : (((N : Int) + 1) == 0) = false := beq_eq_false_iff_ne.2 (by omega)
  clear em eN ex ea
  go_quiet (fail)
  clear kt ks kz
  go_wp2
  go_loop [13, 15] (fun o c => ∃ i : Nat, i ≤ N + 1 ∧ o = .int .i64 (cum x (N - x) m i) ∧ c = .int .i64 i) (fun _ c => N + 1 - (intOf c).toNat)
  case atStart => exact ⟨0, by omega, rfl, rfl⟩
  case round =>
    obtain ⟨i, hi, rfl, rfl⟩ := hrel
    by_cases hlt : (i : Int) ≤ N
    · have hs := smp_nat N x m i (by omega) (by omega) (by omega) (by omega)
      have hb2 := cum_bd N x m (i + 1) (by omega) (by omega)
      have hb3 : (cum x (N - x) m i : Int) + hyp x (N - x) m i ≤ 1125899906842624 := by rw [cum] at hb2; omega
      have hb4 : 0 ≤ (cum x (N - x) m i : Int) := by omega
      have hb5 : 0 ≤ (hyp x (N - x) m i : Int) := by omega
      clear hb2 e1 e2 u1 l1 k1
      go_wp2_with (first | (go_at_call 13; refine (upper_any _ _ _ _ _).mono ?_; rintro e w' ⟨rfl, rfl⟩) | (go_at_call 15; refine (lower_any _ _ _ _ _).mono ?_; rintro e w' ⟨rfl, rfl⟩) | (go_at_call 17; refine (choices_any _ _ _).mono ?_; rintro e w' ⟨rfl, rfl⟩) | (go_at_call 21; refine (atmost_any _ _ _ _ _).mono ?_; rintro e w' ⟨rfl, rfl⟩) | (go_at_call 19; refine (samples_any _ _ _ _ _).mono ?_; rintro e w' ⟨rfl, rfl⟩) | (go_at_call 23; refine (rate_any _ _ _).mono ?_; rintro e w' ⟨rfl, rfl⟩) | (go_at_call 25; refine (awake_any _).mono ?_; rintro e w' ⟨rfl, rfl⟩))
      go_round
      case rel => exact ⟨i + 1, by omega, by rw [cum]; go_num, by go_num⟩
      case measure => simp [intOf]; omega
    · have e : i = N + 1 := by omega
      subst e
      have hall := hall'.out
      clear hall' em' ks'
      go_wp2_with (first | (go_at_call 13; refine (upper_any _ _ _ _ _).mono ?_; rintro e w' ⟨rfl, rfl⟩) | (go_at_call 15; refine (lower_any _ _ _ _ _).mono ?_; rintro e w' ⟨rfl, rfl⟩) | (go_at_call 17; refine (choices_any _ _ _).mono ?_; rintro e w' ⟨rfl, rfl⟩) | (go_at_call 21; refine (atmost_any _ _ _ _ _).mono ?_; rintro e w' ⟨rfl, rfl⟩) | (go_at_call 19; refine (samples_any _ _ _ _ _).mono ?_; rintro e w' ⟨rfl, rfl⟩) | (go_at_call 23; refine (rate_any _ _ _).mono ?_; rintro e w' ⟨rfl, rfl⟩) | (go_at_call 25; refine (awake_any _).mono ?_; rintro e w' ⟨rfl, rfl⟩))
      go_ret
      exact ⟨rfl, _, rfl⟩

set_option maxRecDepth 100000 in
set_option maxHeartbeats 2000000 in
theorem walk_covers (p q r : Nat) (al : Nat) (hp : p ≤ 255) (hq : q ≤ 255) (hr : r ≤ 255) (hal : al ≤ 65535) (w : World) :
    Calls Try.prog 4 #[.int .u8 p, .int .u8 q, .int .u8 r, .int .u16 al] w fun e w' => e = .returned (.bool true) ∧ w = w' := by
  obtain ⟨N, eN, hN⟩ : ∃ N : Nat, 1 + (p : Int) % 30 = N ∧ 1 ≤ N ∧ N ≤ 30 := ⟨1 + p % 30, by omega, by omega, by omega⟩
  obtain ⟨m', em', hm'⟩ := emod_nat q N (by omega)
  obtain ⟨m, em, hm⟩ : ∃ m : Nat, 1 + (m' : Int) = m ∧ 1 ≤ m ∧ m ≤ N := ⟨1 + m', by omega, by omega, by omega⟩
  obtain ⟨k, ek, hk⟩ := emod_nat r (N + 1) (by omega)
  rw [show ((N + 1 : Nat) : Int) = (N : Int) + 1 by omega] at ek
  obtain ⟨a, ea, ha⟩ : ∃ a : Nat, 1 + (al : Int) % 998 = a ∧ 1 ≤ a ∧ a ≤ 998 := ⟨1 + al % 998, by omega, by omega, by omega⟩
  have cb := cho_bd N m
  have mb := mille_bd a N m (by omega)
  have hm2 : (m : Int) ≤ N ∧ (k : Int) ≤ N := by omega
  go_enter Try.func4, Try.ntmps4
  go_wp2_with (first | (go_at_call 13; refine (upper_any _ _ _ _ _).mono ?_; rintro e w' ⟨rfl, rfl⟩) | (go_at_call 15; refine (lower_any _ _ _ _ _).mono ?_; rintro e w' ⟨rfl, rfl⟩) | (go_at_call 17; refine (choices_any _ _ _).mono ?_; rintro e w' ⟨rfl, rfl⟩) | (go_at_call 21; refine (atmost_any _ _ _ _ _).mono ?_; rintro e w' ⟨rfl, rfl⟩) | (go_at_call 19; refine (samples_any _ _ _ _ _).mono ?_; rintro e w' ⟨rfl, rfl⟩) | (go_at_call 23; refine (rate_any _ _ _).mono ?_; rintro e w' ⟨rfl, rfl⟩) | (go_at_call 25; refine (awake_any _).mono ?_; rintro e w' ⟨rfl, rfl⟩))
  go_loop [14, 15, 16] (fun lw hg c => ∃ i : Nat, i ≤ m + 1 ∧ lw = .int .i64 (lowS N m k a i) ∧ hg = .int .i64 (highS N m k a i) ∧ c = .int .i64 i) (fun _ _ c => m + 1 - (intOf c).toNat)
  case atStart => exact ⟨0, by omega, rfl, rfl, rfl⟩
  case round =>
    obtain ⟨i, hi, rfl, rfl, rfl⟩ := hrel
    have q1 := lowS_bd N m k a i (by omega) (by omega) (by omega)
    have q2 := highS_bd N m k a i (by omega) (by omega)
    clear hp hq hr hal eN em ek ea em' hm'
    by_cases hlt : (i : Int) ≤ m
    · have hs := smp_cho N k m i (by rw [(peo_iff (N : Int) k).2 (by omega), (peo_iff (N : Int) m).2 (by omega)]; rfl)
      rw [smp_nat N k m i (by omega) (by omega) (by omega) (by omega)] at hs
      have hsb := hyp_le_cum k (N - k) m i
      have hsc := cum_bd N k m (i + 1) (by omega) (by omega)
      have hl : lowS N m k a (i + 1) = lowS N m k a i + if up N m i a (N - m) < k then hyp k (N - k) m i else 0 := rfl
      have hh : highS N m k a (i + 1) = highS N m k a i + if k < lo N m i a (N - m) (N - m) then hyp k (N - k) m i else 0 := rfl
      obtain ⟨H, hH⟩ : ∃ H, hyp k (N - k) m i = H := ⟨_, rfl⟩
      obtain ⟨u1, k1⟩ := upV_nat N m i a (by omega) (by omega) (by omega) (by omega) (by omega) (by omega) (by omega)
      have l1 := loV_nat N m i a (by omega) (by omega) (by omega) (by omega) (by omega) (by omega) (by omega)
      obtain ⟨u, hu⟩ : ∃ u, up N m i a (N - m) = u := ⟨_, rfl⟩
      obtain ⟨l, hl'⟩ : ∃ l, lo N m i a (N - m) (N - m) = l := ⟨_, rfl⟩
      rw [hH] at hs hsb hl hh
      rw [hu] at u1 hl
      rw [hl'] at l1 hh
      replace hs := hs.symm
      have hHb : H ≤ 1125899906842624 := by omega
      clear hH hu hl' hsb hsc
      have hLH : (u < k → lowS N m k a (i + 1) = lowS N m k a i + H) ∧ (¬ u < k → lowS N m k a (i + 1) = lowS N m k a i) ∧ (k < l → highS N m k a (i + 1) = highS N m k a i + H) ∧ (¬ k < l → highS N m k a (i + 1) = highS N m k a i) :=
        ⟨fun h => by rw [hl, if_pos h], fun h => by rw [hl, if_neg h]; rfl, fun h => by rw [hh, if_pos h], fun h => by rw [hh, if_neg h]; rfl⟩
      have hLH0 : H = 0 → lowS N m k a (i + 1) = lowS N m k a i ∧ highS N m k a (i + 1) = highS N m k a i := by
        intro h0
        subst h0
        rw [hl, hh]
        constructor <;> split <;> rfl
      clear hl hh
      have hLH' := Lib.hid hLH
      have hLH0' := Lib.hid hLH0
      clear hLH hLH0
      by_cases h0 : H = 0
      · have z1 := Lib.hid (hLH0'.out h0)
        subst h0
        go_wp2_with (first | (go_at_call 13; refine (upper_any _ _ _ _ _).mono ?_; rintro e w' ⟨rfl, rfl⟩) | (go_at_call 15; refine (lower_any _ _ _ _ _).mono ?_; rintro e w' ⟨rfl, rfl⟩) | (go_at_call 17; refine (choices_any _ _ _).mono ?_; rintro e w' ⟨rfl, rfl⟩) | (go_at_call 21; refine (atmost_any _ _ _ _ _).mono ?_; rintro e w' ⟨rfl, rfl⟩) | (go_at_call 19; refine (samples_any _ _ _ _ _).mono ?_; rintro e w' ⟨rfl, rfl⟩) | (go_at_call 23; refine (rate_any _ _ _).mono ?_; rintro e w' ⟨rfl, rfl⟩) | (go_at_call 25; refine (awake_any _).mono ?_; rintro e w' ⟨rfl, rfl⟩))
        go_round
        case rel =>
          have h0 := z1.out
          exact ⟨i + 1, by omega, int_eq (by omega), int_eq (by omega), by go_num⟩
        case measure => simp [intOf]; omega
      · have h0' : ((H : Int) == 0) = false := beq_eq_false_iff_ne.2 (by omega)
        go_wp2_with (first | (go_at_call 13; refine (upper_any _ _ _ _ _).mono ?_; rintro e w' ⟨rfl, rfl⟩) | (go_at_call 15; refine (lower_any _ _ _ _ _).mono ?_; rintro e w' ⟨rfl, rfl⟩) | (go_at_call 17; refine (choices_any _ _ _).mono ?_; rintro e w' ⟨rfl, rfl⟩) | (go_at_call 21; refine (atmost_any _ _ _ _ _).mono ?_; rintro e w' ⟨rfl, rfl⟩) | (go_at_call 19; refine (samples_any _ _ _ _ _).mono ?_; rintro e w' ⟨rfl, rfl⟩) | (go_at_call 23; refine (rate_any _ _ _).mono ?_; rintro e w' ⟨rfl, rfl⟩) | (go_at_call 25; refine (awake_any _).mono ?_; rintro e w' ⟨rfl, rfl⟩))
        all_goals
          go_round
          case rel =>
            obtain ⟨ha, hb, hc, hd⟩ := hLH'.out
            exact ⟨i + 1, by omega, int_eq (by omega), int_eq (by omega), by go_num⟩
          case measure => simp [intOf]; omega
    · have e : i = m + 1 := by omega
      subst e
      have f1 := covers_low N m k a (by omega) (by omega)
      have f2 := covers_high N m k a (by omega) (by omega)
      have f3 := cho_nat N m (by omega)
      have hm1 : ((a * bin N m : Nat) : Int) = (a : Int) * (bin N m : Int) := by simp
      rw [← f3] at hm1
      have g1 : (lowS N m k a (m + 1) : Int) * 1000 ≤ (a : Int) * cho N m := by omega
      have g2 : (highS N m k a (m + 1) : Int) * 1000 ≤ (a : Int) * cho N m := by omega
      clear f1 f2 f3 hm1
      go_wp2_with (first | (go_at_call 13; refine (upper_any _ _ _ _ _).mono ?_; rintro e w' ⟨rfl, rfl⟩) | (go_at_call 15; refine (lower_any _ _ _ _ _).mono ?_; rintro e w' ⟨rfl, rfl⟩) | (go_at_call 17; refine (choices_any _ _ _).mono ?_; rintro e w' ⟨rfl, rfl⟩) | (go_at_call 21; refine (atmost_any _ _ _ _ _).mono ?_; rintro e w' ⟨rfl, rfl⟩) | (go_at_call 19; refine (samples_any _ _ _ _ _).mono ?_; rintro e w' ⟨rfl, rfl⟩) | (go_at_call 23; refine (rate_any _ _ _).mono ?_; rintro e w' ⟨rfl, rfl⟩) | (go_at_call 25; refine (awake_any _).mono ?_; rintro e w' ⟨rfl, rfl⟩))
      go_ret
      exact ⟨rfl, rfl⟩

end Est
end Go.Proofs.Ytackhimcndkccaa
