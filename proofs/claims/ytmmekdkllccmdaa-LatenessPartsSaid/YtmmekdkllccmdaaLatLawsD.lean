/-
  LatenessParts: working days add up, and agree with the calendar.
-/
import Derived.Test.YtmmekdkllccmdaaLatLaws
import Derived.Test.YtmmekdkllccmdaaCalLaws
namespace Go.Proofs.Ytmmekdkllccmdaa
open Go.RowKit
set_option linter.unusedVariables false
namespace Lat
theorem dys_le (a b : Int) (h0 : 0 ≤ a) (h : a ≤ b) (hb : b ≤ 36864) : dys a b = bef (b + 1) - bef (a + 1) := by
  unfold dys
  split
  · rfl
  · rw [show a = b by omega]; omega
theorem wks_bef (a : Int) (h0 : 0 ≤ a) : ∀ k : Nat, Cal.wks [] a k = bef (a + k) - bef a
  | 0 => by rw [Cal.wks, show a + ((0 : Nat) : Int) = a by omega]; omega
  | k + 1 => by
    rw [Cal.wks, wks_bef a h0 k, show a + ((k + 1 : Nat) : Int) = a + k + 1 by omega, bef_step _ (by omega)]
    have : Cal.wk [] (a + k) = decide ((a + (k : Int)) % 7 < 5) := by simp [Cal.wk]
    rw [this]
    by_cases h : (a + (k : Int)) % 7 < 5
    · rw [decide_eq_true h, if_pos rfl, if_pos h]; omega
    · rw [decide_eq_false h, if_neg (by decide), if_neg h]; omega
theorem same_plain (x z : Int) (h0 : 0 ≤ x) (h : x ≤ z) (hz : z ≤ 36864) : Cal.wkE (x + 1) (z + 1) ([] : List Int).length = 0 ∧ Cal.wkV [] (x + 1) (z + 1) = dys x z := by
  have hE : Cal.wkE (x + 1) (z + 1) ([] : List Int).length = 0 := by
    unfold Cal.wkE; rw [if_neg (by omega), if_neg (by simp)]
  refine ⟨hE, ?_⟩
  unfold Cal.wkV
  rw [if_pos hE, wks_bef _ (by omega), dys_le x z h0 h hz]
  rw [show x + 1 + (((z + 1 - (x + 1)).toNat : Nat) : Int) = z + 1 by omega]

set_option maxRecDepth 100000 in
set_option maxHeartbeats 1600000 in
theorem walk_parts (a b c : Nat) (ha : a ≤ 65535) (hb : b ≤ 65535) (hc : c ≤ 65535) (w : World) :
    Calls Try.prog 12 #[.int .u16 a, .int .u16 b, .int .u16 c] w fun e w' => e = .returned (.bool true) ∧ Below w.heap.size w w' := by
  obtain ⟨x, hx⟩ : ∃ x, (a : Int).tmod 1000 = x := ⟨_, rfl⟩
  obtain ⟨b1, hb1⟩ : ∃ x, (b : Int).tmod 60 = x := ⟨_, rfl⟩
  obtain ⟨c1, hc1⟩ : ∃ x, (c : Int).tmod 60 = x := ⟨_, rfl⟩
  have hx0 : 0 ≤ x ∧ x < 1000 := ⟨hx ▸ Int.tmod_nonneg _ (by omega), hx ▸ Int.tmod_lt_of_pos _ (by omega)⟩
  have hb0 : 0 ≤ b1 ∧ b1 < 60 := ⟨hb1 ▸ Int.tmod_nonneg _ (by omega), hb1 ▸ Int.tmod_lt_of_pos _ (by omega)⟩
  have hc0 : 0 ≤ c1 ∧ c1 < 60 := ⟨hc1 ▸ Int.tmod_nonneg _ (by omega), hc1 ▸ Int.tmod_lt_of_pos _ (by omega)⟩
  obtain ⟨y, hy⟩ : ∃ y, x + b1 = y := ⟨_, rfl⟩
  obtain ⟨z, hz⟩ : ∃ z, y + c1 = z := ⟨_, rfl⟩
  have hy0 : x ≤ y ∧ y < 1060 := by omega
  have hz0 : y ≤ z ∧ z < 1120 := by omega
  have hxy := dys_le x y (by omega) (by omega) (by omega)
  have hyz := dys_le y z (by omega) (by omega) (by omega)
  have hxz := dys_le x z (by omega) (by omega) (by omega)
  have hsum : dys x z = dys x y + dys y z := by omega
  have hsum' := Lib.hid hsum
  have hxy' := Lib.hid hxy
  obtain ⟨k1, k2⟩ := same_plain x z (by omega) (by omega) (by omega)
  have hbd := dys_bd x y
  have hbd2 := dys_bd y z
  have hbd3 := dys_bd x z
  have hw := Lib.hid (Cal.working_any (x + 1) (z + 1) [] none 0 w (by decide) (.inl rfl))
  have hwv := Lib.hid (And.intro k1 k2)
  clear hxy hyz hxz hsum k1 k2
  go_enter Try.func12, Try.ntmps12
  go_wp2_with fail
  clear hx hb1 hc1 hy hz
  go_loop [10, 11] (fun n d => ∃ i : Int, x + 1 ≤ i ∧ i ≤ y + 1 ∧ n = .int .i64 (bef i - bef (x + 1)) ∧ d = .int .i64 i) (fun _ d => (y + 1 - intOf d).toNat)
  case atStart => exact ⟨x + 1, by omega, by omega, by rw [Int.sub_self], rfl⟩
  case round =>
    obtain ⟨i, hi1, hi2, rfl, rfl⟩ := hrel
    have b1 := bef_bd i (by omega)
    have b2 := bef_bd (x + 1) (by omega)
    by_cases hlt : i ≤ y
    · have hs' := Lib.hid (bef_step i (by omega))
      have hdy' := Lib.hid ((isDay_iff i).2 (by omega))
      cases hw2 : wrk i
      · have hn : ¬ i % 7 < 5 := by
          intro hh
          have : wrk i = true := by unfold wrk; rw [hdy'.out]; simpa using hh
          rw [this] at hw2; cases hw2
        go_wp2_with (go_at_call 52; refine (working_any _ _).mono ?_; rintro e w' ⟨rfl, rfl⟩)
        go_round
        case rel => exact ⟨i + 1, by omega, by omega, int_eq (by rw [hs'.out, if_neg (by omega)]; omega), rfl⟩
        case measure => simp [intOf]; omega
      · have hn : i % 7 < 5 := by unfold wrk at hw2; simp at hw2; exact hw2.2
        go_wp2_with (go_at_call 52; refine (working_any _ _).mono ?_; rintro e w' ⟨rfl, rfl⟩)
        go_round
        case rel => exact ⟨i + 1, by omega, by omega, int_eq (by rw [hs'.out, if_pos (by omega)]; omega), rfl⟩
        case measure => simp [intOf]; omega
    · have hi : i = y + 1 := by omega
      subst hi
      have hn : bef (y + 1) - bef (x + 1) = dys x y := hxy'.out.symm
      go_wp2_with fail
      refine (Cal.working_any (x + 1) (z + 1) [] none 0 _ (by decide) (.inl rfl)).mono ?_
      rw [hwv.out.1, hwv.out.2]
      rintro e w1 ⟨rfl, hB1⟩
      have hB := Lib.hid hB1
      clear hB1 b1 b2
      obtain ⟨p, hp⟩ : ∃ p, dys x y = p := ⟨_, rfl⟩
      obtain ⟨q, hq⟩ : ∃ q, dys y z = q := ⟨_, rfl⟩
      obtain ⟨r, hr⟩ : ∃ r, dys x z = r := ⟨_, rfl⟩
      have hs := hsum'.out
      rw [hp, hq, hr] at hs
      rw [hr]
      rw [hp] at hbd
      rw [hp]
      rw [hq] at hbd2
      rw [hr] at hbd3
      clear hn hsum' hxy'
      go_wp2_with (go_at_call 53; refine (days_any _ _ _).mono ?_; rintro e w' ⟨rfl, rfl⟩)
      refine (awake_any _).mono ?_
      rintro e w2 ⟨rfl, hB2⟩
      have hB3 := Lib.hid (hB.out.trans (hB2.mono hB.out.size))
      clear hB2
      go_wp2
      go_ret
      exact ⟨rfl, hB3.out⟩
end Lat
end Go.Proofs.Ytmmekdkllccmdaa
