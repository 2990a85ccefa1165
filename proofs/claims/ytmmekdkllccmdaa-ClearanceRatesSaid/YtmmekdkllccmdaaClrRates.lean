/-
  ClearanceRates: the plain law, and the walk.
-/
import Derived.Test.YtmmekdkllccmdaaClrH
import Derived.Test.YtmmekdkllccmdaaEstPlain
namespace Go.Proofs.Ytmmekdkllccmdaa
open Go.RowKit Go.Sort
set_option linter.unusedVariables false
namespace Clr
open Cal (ret_bool ret_int int_eq infoI)
theorem rates_plain (N m x : Nat) (h1 : 1 ≤ N) (h2 : N ≤ 50) (h3 : 1 ≤ m) (h4 : m ≤ N) (hx : x ≤ m) :
    Est.err N m x 50 = 0 ∧ ∃ U R P : Int, Est.upV N m x 50 = U ∧ Est.rat N U = R ∧ R * N = P ∧ 0 ≤ R ∧ R ≤ 2000 ∧ 1000 * (x : Int) ≤ P ∧ P ≤ 100000 := by
  obtain ⟨k1, k2⟩ := Est.upV_nat N m x 50 h1 h2 h3 h4 hx (by omega) (by omega)
  have hb := Est.up_le N m x 50 (N - m)
  obtain ⟨u, hu⟩ : ∃ u, Est.up N m x 50 (N - m) = u := ⟨_, rfl⟩
  rw [hu] at k1 hb
  have hp : Est.peo (N : Int) (u : Int) = true := (Est.peo_iff _ _).2 (by omega)
  refine ⟨k2, u, _, _, k1, rfl, rfl, ?_⟩
  have hr : Est.rat (N : Int) (u : Int) = ((u : Int) * 1000 + N - 1) / N := by unfold Est.rat; rw [hp]; rfl
  rw [hr]
  obtain ⟨q, hq⟩ : ∃ q, ((u : Int) * 1000 + N - 1) / N = q := ⟨_, rfl⟩
  have e1 := Int.emod_add_mul_ediv ((u : Int) * 1000 + N - 1) N
  have e2 := Int.emod_lt_of_pos ((u : Int) * 1000 + N - 1) (show (0 : Int) < N by omega)
  have e3 := Int.emod_nonneg ((u : Int) * 1000 + N - 1) (show (N : Int) ≠ 0 by omega)
  have e4 : 0 ≤ q := hq ▸ Int.ediv_nonneg (by omega) (by omega)
  rw [hq] at e1 ⊢
  rw [Int.mul_comm (N : Int) q] at e1
  have e5 : q ≤ 2000 := by
    have : q * 1 ≤ q * N := Int.mul_le_mul_of_nonneg_left (by omega) e4
    by_cases hN : N = 1
    · subst hN; omega
    · have h6 : q * 2 ≤ q * N := Int.mul_le_mul_of_nonneg_left (by omega) e4
      have h7 : ((u : Int) * 1000 + N - 1) / N ≤ 2000 := by
        refine Int.ediv_le_of_le_mul (by omega) ?_
        omega
      omega
  generalize q * (N : Int) = P at *
  exact ⟨e4, e5, by omega, by omega⟩
theorem flat_at (k : Int) (m : Nat) (h : k = m) (hm : m < 6) (w : World) : Calls Try.prog 30 #[.int .i64 k] w fun e w' => e = .returned (.int .i64 (flatV m)) ∧ Below w.heap.size w w' := by
  subst h; exact flat_ok m hm w
theorem flat_up (m : Nat) (h : m < 5) : flatV m < flatV (m + 1) ∧ 0 ≤ flatV m ∧ flatV (m + 1) ≤ 1000 := by
  have : m = 0 ∨ m = 1 ∨ m = 2 ∨ m = 3 ∨ m = 4 := by omega
  rcases this with rfl | rfl | rfl | rfl | rfl <;> decide

set_option maxRecDepth 100000 in
set_option maxHeartbeats 4000000 in
theorem walk_rates (a b c : Nat) (ha : a ≤ 255) (hb : b ≤ 255) (hc : c ≤ 255) (w : World) :
    Calls Try.prog 6 #[.int .u8 a, .int .u8 b, .int .u8 c] w fun e w' => e = .returned (.bool true) ∧ Below w.heap.size w w' := by
  obtain ⟨N0, hN0⟩ : ∃ x, (a : Int).tmod 50 = x := ⟨_, rfl⟩
  have hN1 : 0 ≤ N0 ∧ N0 < 50 := ⟨hN0 ▸ Int.tmod_nonneg _ (by omega), hN0 ▸ Int.tmod_lt_of_pos _ (by omega)⟩
  obtain ⟨N, hN⟩ := Int.eq_ofNat_of_zero_le (show 0 ≤ 1 + N0 by omega)
  obtain ⟨m0, hm0⟩ : ∃ x, (b : Int).tmod N = x := ⟨_, rfl⟩
  have hm1 : 0 ≤ m0 ∧ m0 < N := ⟨hm0 ▸ Int.tmod_nonneg _ (by omega), hm0 ▸ Int.tmod_lt_of_pos _ (by omega)⟩
  obtain ⟨m, hm⟩ := Int.eq_ofNat_of_zero_le (show 0 ≤ 1 + m0 by omega)
  obtain ⟨x0, hx0⟩ : ∃ x, (c : Int).tmod (m + 1) = x := ⟨_, rfl⟩
  have hx1 : 0 ≤ x0 ∧ x0 < m + 1 := ⟨hx0 ▸ Int.tmod_nonneg _ (by omega), hx0 ▸ Int.tmod_lt_of_pos _ (by omega)⟩
  obtain ⟨x, rfl⟩ := Int.eq_ofNat_of_zero_le hx1.1
  obtain ⟨hE, U, R, P, hU, hR, hP, b1, b2, b3, b4⟩ := rates_plain N m x (by omega) (by omega) (by omega) (by omega) (by omega)
  have hex := Lib.hid (fun W => extra_ok N m x 50 hE W)
  have hup := Lib.hid (fun W => Est.upper_any N m x 50 W)
  have hrt := Lib.hid (fun W => Est.rate_any N U W)
  rw [hU, hR] at hex
  rw [hU, hE] at hup
  rw [hR] at hrt
  have hNb : 1 ≤ (N : Int) ∧ (N : Int) ≤ 50 := by omega
  have hmb : 1 ≤ (m : Int) ∧ (m : Int) ≤ N := by omega
  clear hE hU hR
  go_enter Try.func6, Try.ntmps6
  go_wp2_with (first | (go_at_call 28; refine (hex.out _).mono ?_; rintro e w' ⟨rfl, rfl⟩) | (go_at_call 34; refine (hup.out _).mono ?_; rintro e w' ⟨rfl, rfl⟩))
  clear hN0 hm0 hx0 hN hm
  go_loopw [14] (fun k wr => ∃ j : Nat, j ≤ 5 ∧ k = .int .i64 ((j : Int) + 1) ∧ Below w.heap.size w wr) (fun k _ => 7 - (intOf k).toNat)
  case atStart => exact ⟨0, by omega, rfl, Below.refl _ _⟩
  case round =>
    obtain ⟨j, hj, rfl, hB⟩ := hrel
    have hB' := Lib.hid hB
    clear hB
    by_cases hjl : j < 5
    · obtain ⟨f1, f2, f3⟩ := flat_up j hjl
      obtain ⟨F1, hF1⟩ : ∃ F, flatV (j + 1) = F := ⟨_, rfl⟩
      obtain ⟨F0, hF0⟩ : ∃ F, flatV j = F := ⟨_, rfl⟩
      rw [hF1, hF0] at f1
      rw [hF0] at f2
      rw [hF1] at f3
      have hFs := Lib.hid (And.intro hF1 hF0)
      have hwm : IntKind.i64.wrap (j : Int) = (j : Int) := IntWalk.i64_in _ (by omega)
      clear hF1 hF0
      go_wp2_with fail
      refine (flat_at _ (j + 1) (by omega) (by omega) _).mono ?_
      rw [hFs.out.1]
      rintro e w1 ⟨rfl, hb1⟩
      have hB1 := Lib.hid (hB'.out.trans (hb1.mono hB'.out.size))
      clear hb1
      go_wp2_with fail
      refine (flat_at _ j (by omega) (by omega) _).mono ?_
      rw [hFs.out.2]
      rintro e w2 ⟨rfl, hb2⟩
      have hB2 := Lib.hid (hB1.out.trans (hb2.mono hB1.out.size))
      clear hb2
      go_wp2
      go_roundw
      case rel => exact ⟨j + 1, by omega, by go_num, hB2.out⟩
      case measure => simp [intOf]; omega
    · have hj5 : j = 5 := by omega
      subst hj5
      go_wp2_with (go_at_call 35; refine (hrt.out _).mono ?_; rintro e w' ⟨rfl, rfl⟩)
      refine (awake_any _).mono ?_
      rintro e w9 ⟨rfl, hb9⟩
      have hB9 := Lib.hid (hB'.out.trans (hb9.mono hB'.out.size))
      clear hb9
      go_wp2
      go_ret
      exact ⟨rfl, hB9.out⟩
end Clr
end Go.Proofs.Ytmmekdkllccmdaa
