/-
  The laws of chapter 30: the weekends.
-/
import Derived.Test.YtackhimcndkccabLatLaws
import Derived.Deep.RegionWith
namespace Go.Proofs.Ytackhimcndkccab
open Go.RowKit
set_option linter.unusedVariables false
namespace Lat
open Ex (ret_int ret_bool ret_pair below_drewN)

set_option maxRecDepth 100000 in
set_option maxHeartbeats 4000000 in
theorem walk_weekends (ad : Option Addr) (len cap am wk : Nat) (w : World) (ham : am ≤ 65535) (hwk : wk ≤ 255) (ht : Keep.IntsAt w ad len cap) :
    Calls Try.prog 5 #[.slice ad len cap, .int .u16 am, .int .u8 wk] w fun e w' => e = .returned (.bool true) ∧ Below w.heap.size w w' := by
  obtain ⟨f, ef, hf, hf1⟩ : ∃ f : Int, 7 * ((wk : Int) % 9) + 4 = f ∧ f % 7 = 4 ∧ 0 ≤ f ∧ f ≤ 60 := ⟨_, rfl, by omega, by omega, by omega⟩
  go_enter Try.func5, Try.ntmps5
  go_wp2_with fail
  refine (Keep.new_tp _ _ _ w w (Below.refl _ _) ht).mono ?_
  rintro e w1 ⟨bt, rfl, hT, _, _⟩
  clear ht
  go_wp2_with fail
  refine (late_any _ hT).mono ?_
  rintro e w2 ⟨due, last, mille, rfl, hl, hT, _⟩
  obtain ⟨l0, l1, l2, l3, l4, l5⟩ := hl
  have hbt := hT.1.lt
  have hTn' := Lib.hid (hT.next ((Below.refl _ _).alloc (Nat.le_refl _) (.cells #[.int .i64 due, .int .i64 last, .int .i64 mille] 24)))
  have hbk' := Lib.hid (heap_alloc_new w2 (.cells #[.int .i64 due, .int .i64 last, .int .i64 mille] 24))
  have hE := payE_zero due last mille f am (by omega)
  have hV := payV_bd _ _ _ _ _ hE
  clear hT
  go_wp2_with fail
  refine (pay_any _ _ _ _ _ _).mono ?_
  rw [hE]
  rintro e w3 ⟨rfl, hb⟩
  have hT := hTn'.out.next hb
  have hblk := Keep.blk_below hbk'.out hb
  obtain ⟨bl, hbl⟩ : ∃ bl, bl = w2.heap.size := ⟨_, rfl⟩
  rw [← hbl] at hblk
  rw [← hbl]
  have hne : bl ≠ bt := by omega
  clear hbl hbt hTn' hbk' hb
  obtain ⟨c0, c1, c2, f0, f1, f2⟩ := Keep.blk_cells3 hblk
  have hblk' := Lib.hid hblk
  have hT' := Lib.hid hT
  clear hblk hT f0 f1 f2
  go_wp2_with fail
  go_region_with (first | (go_at_call 9; refine (Keep.next_tp _ (by omega) _ hT'.out.drew).mono ?_; rintro e w4 ⟨r, rfl, r0, r1, hT, hG⟩; (have hblk := Keep.blk_grown (w := w3.drew) hblk'.out hG hne); (obtain ⟨d0, d1, d2, f0, f1, f2⟩ := Keep.blk_cells3 hblk); (have hblk2 := Lib.hid hblk); (have hT2 := Lib.hid hT); clear hblk hT hG f0 f1 f2) | (go_at_call 13; rw [show IntKind.i64.wrap (IntKind.i64.wrap (f + 1) + r) = f + (1 + r) from by rw [IntWalk.i64_in (f + 1) (by omega), IntWalk.i64_in _ (by omega)]; omega, IntWalk.i64_in (am : Int) (by omega)]; refine (pay_any _ _ _ _ _ _).mono ?_; rintro e w5 ⟨rfl, hb⟩))
  all_goals
    have hE2 := payE_zero due last mille (f + (1 + r)) am (by omega)
    have hVV : f + 2 ≤ last → payV due last mille f am = payV due last mille (f + (1 + r)) am := fun h => payV_weekend _ _ _ _ _ _ hf hf1.1 (by omega) hE hE2 h
    have hV2 := payV_bd _ _ _ _ _ hE2
    have hT := hT2.out.next hb
    have hblk := Keep.blk_below hblk2.out hb
    obtain ⟨V, hVe⟩ : ∃ V, payV due last mille f am = V := ⟨_, rfl⟩
    obtain ⟨V2, hVe2⟩ : ∃ V2, payV due last mille (f + (1 + r)) am = V2 := ⟨_, rfl⟩
    rw [hVe, hVe2] at hVV
    rw [hVe] at hV
    rw [hVe2] at hV2
    rw [hVe, hVe2, hE2]
    clear hVe hVe2 hE hE2
    obtain ⟨x0, x1, x2, f0, f1, f2⟩ := Keep.blk_cells3 hblk
    have hT3 := Lib.hid hT
    clear hblk hT hblk2 hT2 hT' hblk' hb f0 f1 f2 ef c0 c1 c2 d0 d1 d2
    by_cases hcase : f + 2 ≤ last
    · have hh := hVV hcase
      subst hh
      clear hVV
      go_wp2_with fail
      refine (Keep.next_tp _ (by omega) _ hT3.out).mono ?_
      rintro e w6 ⟨a, rfl, a0, a1, hT, _⟩
      have dw := dys_week a 1 a0 (by omega) (by omega)
      have t1 := dw.2.1
      have t2 := dw.2.2
      have hT4 := Lib.hid hT
      clear dw hT hT3
      go_wp2_with (first | (go_at_call 15; refine (days_any _ _ _).mono ?_; rintro e w' ⟨rfl, rfl⟩) | (go_at_call 21; refine (Keep.range_tp _ _ (by omega) (by omega) (by omega) (by omega) _ hT4.out).mono ?_; rintro e w7 ⟨k, rfl, k0, k1, hT, _⟩; (have hT5 := Lib.hid hT); (have t3 := (dys_week a k a0 (by omega) (by omega)).1); clear hT) | (go_at_call 20; refine (awake_any _).mono ?_; rintro e w8 ⟨rfl, hb8⟩))
      go_ret
      exact ⟨rfl, hT5.out.2.1.trans (hb8.mono hT5.out.2.1.size)⟩
    · clear hVV
      go_wp2_with fail
      refine (Keep.next_tp _ (by omega) _ hT3.out).mono ?_
      rintro e w6 ⟨a, rfl, a0, a1, hT, _⟩
      have dw := dys_week a 1 a0 (by omega) (by omega)
      have t1 := dw.2.1
      have t2 := dw.2.2
      have hT4 := Lib.hid hT
      clear dw hT hT3
      go_wp2_with (first | (go_at_call 15; refine (days_any _ _ _).mono ?_; rintro e w' ⟨rfl, rfl⟩) | (go_at_call 21; refine (Keep.range_tp _ _ (by omega) (by omega) (by omega) (by omega) _ hT4.out).mono ?_; rintro e w7 ⟨k, rfl, k0, k1, hT, _⟩; (have hT5 := Lib.hid hT); (have t3 := (dys_week a k a0 (by omega) (by omega)).1); clear hT) | (go_at_call 20; refine (awake_any _).mono ?_; rintro e w8 ⟨rfl, hb8⟩))
      go_ret
      exact ⟨rfl, hT5.out.2.1.trans (hb8.mono hT5.out.2.1.size)⟩
end Lat
end Go.Proofs.Ytackhimcndkccab
