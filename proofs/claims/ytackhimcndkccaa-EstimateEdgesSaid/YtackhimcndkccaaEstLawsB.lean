/-
  The laws of chapter 26: the edges.
-/
import Derived.Test.YtackhimcndkccaaEstLaws
namespace Go.Proofs.Ytackhimcndkccaa
open Go.RowKit
set_option linter.unusedVariables false
namespace Est
set_option maxRecDepth 100000 in
set_option maxHeartbeats 4000000 in
theorem walk_edges (p q r : Nat) (al : Nat) (hp : p ≤ 255) (hq : q ≤ 255) (hr : r ≤ 255) (hal : al ≤ 65535) (w : World) :
    Calls Try.prog 8 #[.int .u8 p, .int .u8 q, .int .u8 r, .int .u16 al] w fun e w' => e = .returned (.bool true) ∧ w = w' := by
  obtain ⟨N, eN, hN⟩ : ∃ N : Nat, 1 + (p : Int) % 40 = N ∧ 1 ≤ N ∧ N ≤ 40 := ⟨1 + p % 40, by omega, by omega, by omega⟩
  obtain ⟨m', em', hm'⟩ := emod_nat q N (by omega)
  obtain ⟨m, em, hm⟩ : ∃ m : Nat, 1 + (m' : Int) = m ∧ 1 ≤ m ∧ m ≤ N := ⟨1 + m', by omega, by omega, by omega⟩
  obtain ⟨x, ex, hx⟩ := emod_nat r (m + 1) (by omega)
  rw [show ((m + 1 : Nat) : Int) = (m : Int) + 1 by omega] at ex
  obtain ⟨a, ea, ha⟩ : ∃ a : Nat, 1 + (al : Int) % 998 = a ∧ 1 ≤ a ∧ a ≤ 998 := ⟨1 + al % 998, by omega, by omega, by omega⟩
  obtain ⟨u1, k1⟩ := upV_nat N m x a (by omega) (by omega) (by omega) (by omega) (by omega) (by omega) (by omega)
  have l1 := loV_nat N m x a (by omega) (by omega) (by omega) (by omega) (by omega) (by omega) (by omega)
  have b1 := up_le N m x a (N - m)
  have b2 := lo_le N m x a (N - m) (N - m) (by omega)
  have o1 := up_ok N m x a (by omega) (by omega) (by omega) (N - m)
  have o2 := lo_ok N m x a (by omega) (by omega) (by omega) (N - m)
  have g1 := up_edge N m x a (by omega)
  have g2 := lo_edge N m x a
  obtain ⟨u, hu⟩ : ∃ u, up N m x a (N - m) = u := ⟨_, rfl⟩
  obtain ⟨l, hl⟩ : ∃ l, lo N m x a (N - m) (N - m) = l := ⟨_, rfl⟩
  rw [hu] at u1 b1 o1 g1
  rw [hl] at l1 b2 o2 g2
  clear hu hl
  have cb := cho_bd N m
  have mb := mille_bd a N m (by omega)
  have a1 := atm_bd N u m x
  have a2 := atm_bd N ((u : Int) + 1) m x
  have a3 := atm_bd N l m ((x : Int) - 1)
  have a4 := atm_bd N ((l : Int) - 1) m ((x : Int) - 1)
  have t1 : (a : Int) * cho N m < 1000 * atm N u m x := by
    have := lik_up N m x a (u - x) (by omega) (by omega) (by omega) (by omega) (by omega)
    rw [show (x : Int) + ((u - x : Nat) : Int) = u by omega, show x + (u - x) = u by omega, o1] at this
    exact of_decide_eq_true this
  have t3 : (a : Int) * cho N m < 1000 * (cho N m - atm N l m ((x : Int) - 1)) := by
    have := lik_lo N m x a l (by omega) (by omega) (by omega) (by omega)
    rw [o2] at this
    exact of_decide_eq_true this
  have t2 : (u : Int) < (N : Int) - ((m : Int) - x) → 1000 * atm N ((u : Int) + 1) m x ≤ (a : Int) * cho N m := by
    intro hlt
    have := lik_up N m x a (u + 1 - x) (by omega) (by omega) (by omega) (by omega) (by omega)
    rw [show (x : Int) + ((u + 1 - x : Nat) : Int) = (u : Int) + 1 by omega, show x + (u + 1 - x) = u + 1 by omega, g1 (by omega)] at this
    have := of_decide_eq_false this
    omega
  have t4 : l ≠ x → 1000 * (cho N m - atm N ((l : Int) - 1) m ((x : Int) - 1)) ≤ (a : Int) * cho N m := by
    intro hne
    have := lik_lo N m x a (l - 1) (by omega) (by omega) (by omega) (by omega)
    rw [show (((l - 1 : Nat)) : Int) = (l : Int) - 1 by omega, g2 hne] at this
    have := of_decide_eq_false this
    omega
  clear o1 o2 g1 g2
  have c1 : ¬ ((u : Int) < x) := by omega
  have c2 : ¬ ((N : Int) - ((m : Int) - x) < u) := by omega
  have c3 : ¬ ((l : Int) < x) := by omega
  have c4 : ¬ ((N : Int) - ((m : Int) - x) < l) := by omega
  have t1' : ¬ (1000 * atm N u m x ≤ (a : Int) * cho N m) := by omega
  have t4' : ∀ M : Int, M = max 0 ((l : Int) - 1) → l ≠ x → 1000 * (cho N m - atm N M m ((x : Int) - 1)) ≤ (a : Int) * cho N m := by
    intro M hM hne
    rw [show M = (l : Int) - 1 by omega]
    exact t4 hne
  clear t4 a4 t1
  by_cases hlt : (u : Int) < (N : Int) - ((m : Int) - x)
  all_goals by_cases hl1 : (l : Int) ≤ 1
  · have t5 := t2 hlt
    have t6 : ¬ ((a : Int) * cho N m < 1000 * atm N ((u : Int) + 1) m x) := by omega
    have t7 := Lib.hid (t4' 0 (by omega))
    have a5 := atm_bd N 0 m ((x : Int) - 1)
    clear t2 t4' t5
    go_enter Try.func8, Try.ntmps8
    go_wp2_with (first | (go_at_call 13; refine (upper_any _ _ _ _ _).mono ?_; rintro e w' ⟨rfl, rfl⟩) | (go_at_call 15; refine (lower_any _ _ _ _ _).mono ?_; rintro e w' ⟨rfl, rfl⟩) | (go_at_call 17; refine (choices_any _ _ _).mono ?_; rintro e w' ⟨rfl, rfl⟩) | (go_at_call 21; refine (atmost_any _ _ _ _ _).mono ?_; rintro e w' ⟨rfl, rfl⟩) | (go_at_call 19; refine (samples_any _ _ _ _ _).mono ?_; rintro e w' ⟨rfl, rfl⟩) | (go_at_call 23; refine (rate_any _ _ _).mono ?_; rintro e w' ⟨rfl, rfl⟩) | (go_at_call 25; refine (awake_any _).mono ?_; rintro e w' ⟨rfl, rfl⟩))
    all_goals first
    | (go_ret
       exact ⟨rfl, rfl⟩)
    | (exfalso
       have := t7.out
       omega)
  · have t5 := t2 hlt
    have t6 : ¬ ((a : Int) * cho N m < 1000 * atm N ((u : Int) + 1) m x) := by omega
    have t7 := Lib.hid (t4' ((l : Int) - 1) (by omega))
    have a5 := atm_bd N ((l : Int) - 1) m ((x : Int) - 1)
    clear t2 t4' t5
    go_enter Try.func8, Try.ntmps8
    go_wp2_with (first | (go_at_call 13; refine (upper_any _ _ _ _ _).mono ?_; rintro e w' ⟨rfl, rfl⟩) | (go_at_call 15; refine (lower_any _ _ _ _ _).mono ?_; rintro e w' ⟨rfl, rfl⟩) | (go_at_call 17; refine (choices_any _ _ _).mono ?_; rintro e w' ⟨rfl, rfl⟩) | (go_at_call 21; refine (atmost_any _ _ _ _ _).mono ?_; rintro e w' ⟨rfl, rfl⟩) | (go_at_call 19; refine (samples_any _ _ _ _ _).mono ?_; rintro e w' ⟨rfl, rfl⟩) | (go_at_call 23; refine (rate_any _ _ _).mono ?_; rintro e w' ⟨rfl, rfl⟩) | (go_at_call 25; refine (awake_any _).mono ?_; rintro e w' ⟨rfl, rfl⟩))
    all_goals first
    | (go_ret
       exact ⟨rfl, rfl⟩)
    | (exfalso
       have := t7.out
       omega)
  · have t7 := Lib.hid (t4' 0 (by omega))
    have a5 := atm_bd N 0 m ((x : Int) - 1)
    clear t2 t4' a2
    go_enter Try.func8, Try.ntmps8
    go_wp2_with (first | (go_at_call 13; refine (upper_any _ _ _ _ _).mono ?_; rintro e w' ⟨rfl, rfl⟩) | (go_at_call 15; refine (lower_any _ _ _ _ _).mono ?_; rintro e w' ⟨rfl, rfl⟩) | (go_at_call 17; refine (choices_any _ _ _).mono ?_; rintro e w' ⟨rfl, rfl⟩) | (go_at_call 21; refine (atmost_any _ _ _ _ _).mono ?_; rintro e w' ⟨rfl, rfl⟩) | (go_at_call 19; refine (samples_any _ _ _ _ _).mono ?_; rintro e w' ⟨rfl, rfl⟩) | (go_at_call 23; refine (rate_any _ _ _).mono ?_; rintro e w' ⟨rfl, rfl⟩) | (go_at_call 25; refine (awake_any _).mono ?_; rintro e w' ⟨rfl, rfl⟩))
    all_goals first
    | (go_ret
       exact ⟨rfl, rfl⟩)
    | (exfalso
       have := t7.out
       omega)
  · have t7 := Lib.hid (t4' ((l : Int) - 1) (by omega))
    have a5 := atm_bd N ((l : Int) - 1) m ((x : Int) - 1)
    clear t2 t4' a2
    go_enter Try.func8, Try.ntmps8
    go_wp2_with (first | (go_at_call 13; refine (upper_any _ _ _ _ _).mono ?_; rintro e w' ⟨rfl, rfl⟩) | (go_at_call 15; refine (lower_any _ _ _ _ _).mono ?_; rintro e w' ⟨rfl, rfl⟩) | (go_at_call 17; refine (choices_any _ _ _).mono ?_; rintro e w' ⟨rfl, rfl⟩) | (go_at_call 21; refine (atmost_any _ _ _ _ _).mono ?_; rintro e w' ⟨rfl, rfl⟩) | (go_at_call 19; refine (samples_any _ _ _ _ _).mono ?_; rintro e w' ⟨rfl, rfl⟩) | (go_at_call 23; refine (rate_any _ _ _).mono ?_; rintro e w' ⟨rfl, rfl⟩) | (go_at_call 25; refine (awake_any _).mono ?_; rintro e w' ⟨rfl, rfl⟩))
    all_goals first
    | (go_ret
       exact ⟨rfl, rfl⟩)
    | (exfalso
       have := t7.out
       omega)

end Est
end Go.Proofs.Ytackhimcndkccaa
