/-
  The laws of chapter 26: what all functions return.
-/
import Derived.Test.YtackhimcndkccaaEstLaws
import Derived.Deep.DeepCutAuto
namespace Go.Proofs.Ytackhimcndkccaa
open Go.RowKit
set_option linter.unusedVariables false
namespace Est

def Cells4 (w : World) (b : Nat) (q0 q1 q2 q3 : Int) : Prop := w.cell? ⟨b, 0, none⟩ = some (.int .i64 q0) ∧ w.cell? ⟨b, 1, none⟩ = some (.int .i64 q1) ∧ w.cell? ⟨b, 2, none⟩ = some (.int .i64 q2) ∧ w.cell? ⟨b, 3, none⟩ = some (.int .i64 q3)
theorem cells4_new (w : World) (t : TypeId) (q0 q1 q2 q3 : Int) : Cells4 (w.alloc (.cells #[.int .i64 q0, .int .i64 q1, .int .i64 q2, .int .i64 q3] t)) w.heap.size q0 q1 q2 q3 := by
  have hh := heap_alloc_new w (.cells #[.int .i64 q0, .int .i64 q1, .int .i64 q2, .int .i64 q3] t)
  exact ⟨by rw [cell_of_row _ _ _ _ _ _ hh]; rfl, by rw [cell_of_row _ _ _ _ _ _ hh]; rfl, by rw [cell_of_row _ _ _ _ _ _ hh]; rfl, by rw [cell_of_row _ _ _ _ _ _ hh]; rfl⟩
/-- Four rows of four numbers. -/
def Rows4 (W : World) (Bs : Nat) : Prop := Bs < W.heap.size ∧ ∀ k, k < 4 → ∃ q0 q1 q2 q3 : Int, W.cell? ⟨Bs, k * 4, none⟩ = some (.int .i64 q0) ∧ W.cell? ⟨Bs, k * 4 + 1, none⟩ = some (.int .i64 q1) ∧ W.cell? ⟨Bs, k * 4 + 2, none⟩ = some (.int .i64 q2) ∧ W.cell? ⟨Bs, k * 4 + 3, none⟩ = some (.int .i64 q3) ∧
  (-9223372036854775808 ≤ q0 ∧ q0 ≤ 9223372036854775807) ∧ (-9223372036854775808 ≤ q1 ∧ q1 ≤ 9223372036854775807) ∧ (-9223372036854775808 ≤ q2 ∧ q2 ≤ 9223372036854775807) ∧ (-9223372036854775808 ≤ q3 ∧ q3 ≤ 9223372036854775807)
theorem Rows4.below {W W' : World} {Bs : Nat} (h : Rows4 W Bs) (hb : Below W.heap.size W W') : ∀ k, k < 4 → ∃ q0 q1 q2 q3 : Int, W'.cell? ⟨Bs, k * 4, none⟩ = some (.int .i64 q0) ∧ W'.cell? ⟨Bs, k * 4 + 1, none⟩ = some (.int .i64 q1) ∧ W'.cell? ⟨Bs, k * 4 + 2, none⟩ = some (.int .i64 q2) ∧ W'.cell? ⟨Bs, k * 4 + 3, none⟩ = some (.int .i64 q3) ∧
  (-9223372036854775808 ≤ q0 ∧ q0 ≤ 9223372036854775807) ∧ (-9223372036854775808 ≤ q1 ∧ q1 ≤ 9223372036854775807) ∧ (-9223372036854775808 ≤ q2 ∧ q2 ≤ 9223372036854775807) ∧ (-9223372036854775808 ≤ q3 ∧ q3 ≤ 9223372036854775807) := by
  intro k hk
  obtain ⟨q0, q1, q2, q3, z0, z1, z2, z3, hb'⟩ := h.2 k hk
  have hc : ∀ o, W'.cell? ⟨Bs, o, none⟩ = W.cell? ⟨Bs, o, none⟩ := fun o => hb.cell (p := ⟨Bs, o, none⟩) h.1
  exact ⟨q0, q1, q2, q3, (hc _).trans z0, (hc _).trans z1, (hc _).trans z2, (hc _).trans z3, hb'⟩
def I64 (a : Int) : Prop := -9223372036854775808 ≤ a ∧ a ≤ 9223372036854775807
theorem rows_at (w : World) (t : TypeId) (a0 a1 a2 a3 b0 b1 b2 b3 c0 c1 c2 c3 d0 d1 d2 d3 : Int)
    (ha0 : -9223372036854775808 ≤ a0 ∧ a0 ≤ 9223372036854775807) (ha1 : -9223372036854775808 ≤ a1 ∧ a1 ≤ 9223372036854775807) (ha2 : -9223372036854775808 ≤ a2 ∧ a2 ≤ 9223372036854775807) (ha3 : -9223372036854775808 ≤ a3 ∧ a3 ≤ 9223372036854775807)
    (hb0 : -9223372036854775808 ≤ b0 ∧ b0 ≤ 9223372036854775807) (hb1 : -9223372036854775808 ≤ b1 ∧ b1 ≤ 9223372036854775807) (hb2 : -9223372036854775808 ≤ b2 ∧ b2 ≤ 9223372036854775807) (hb3 : -9223372036854775808 ≤ b3 ∧ b3 ≤ 9223372036854775807)
    (hc0 : -9223372036854775808 ≤ c0 ∧ c0 ≤ 9223372036854775807) (hc1 : -9223372036854775808 ≤ c1 ∧ c1 ≤ 9223372036854775807) (hc2 : -9223372036854775808 ≤ c2 ∧ c2 ≤ 9223372036854775807) (hc3 : -9223372036854775808 ≤ c3 ∧ c3 ≤ 9223372036854775807)
    (hd0 : -9223372036854775808 ≤ d0 ∧ d0 ≤ 9223372036854775807) (hd1 : -9223372036854775808 ≤ d1 ∧ d1 ≤ 9223372036854775807) (hd2 : -9223372036854775808 ≤ d2 ∧ d2 ≤ 9223372036854775807) (hd3 : -9223372036854775808 ≤ d3 ∧ d3 ≤ 9223372036854775807) :
    Rows4 (w.alloc (.cells #[.int .i64 a0, .int .i64 a1, .int .i64 a2, .int .i64 a3, .int .i64 b0, .int .i64 b1, .int .i64 b2, .int .i64 b3, .int .i64 c0, .int .i64 c1, .int .i64 c2, .int .i64 c3, .int .i64 d0, .int .i64 d1, .int .i64 d2, .int .i64 d3] t)) w.heap.size := by
  refine ⟨by simp, fun k hk => ?_⟩
  have hh := heap_alloc_new w (.cells #[.int .i64 a0, .int .i64 a1, .int .i64 a2, .int .i64 a3, .int .i64 b0, .int .i64 b1, .int .i64 b2, .int .i64 b3, .int .i64 c0, .int .i64 c1, .int .i64 c2, .int .i64 c3, .int .i64 d0, .int .i64 d1, .int .i64 d2, .int .i64 d3] t)
  have hk' : k = 0 ∨ k = 1 ∨ k = 2 ∨ k = 3 := by omega
  rcases hk' with rfl | rfl | rfl | rfl
  · exact ⟨a0, a1, a2, a3, by rw [cell_of_row _ _ _ _ _ _ hh]; rfl, by rw [cell_of_row _ _ _ _ _ _ hh]; rfl, by rw [cell_of_row _ _ _ _ _ _ hh]; rfl, by rw [cell_of_row _ _ _ _ _ _ hh]; rfl, ha0, ha1, ha2, ha3⟩
  · exact ⟨b0, b1, b2, b3, by rw [cell_of_row _ _ _ _ _ _ hh]; rfl, by rw [cell_of_row _ _ _ _ _ _ hh]; rfl, by rw [cell_of_row _ _ _ _ _ _ hh]; rfl, by rw [cell_of_row _ _ _ _ _ _ hh]; rfl, hb0, hb1, hb2, hb3⟩
  · exact ⟨c0, c1, c2, c3, by rw [cell_of_row _ _ _ _ _ _ hh]; rfl, by rw [cell_of_row _ _ _ _ _ _ hh]; rfl, by rw [cell_of_row _ _ _ _ _ _ hh]; rfl, by rw [cell_of_row _ _ _ _ _ _ hh]; rfl, hc0, hc1, hc2, hc3⟩
  · exact ⟨d0, d1, d2, d3, by rw [cell_of_row _ _ _ _ _ _ hh]; rfl, by rw [cell_of_row _ _ _ _ _ _ hh]; rfl, by rw [cell_of_row _ _ _ _ _ _ hh]; rfl, by rw [cell_of_row _ _ _ _ _ _ hh]; rfl, hd0, hd1, hd2, hd3⟩

set_option maxRecDepth 100000 in
set_option maxHeartbeats 16000000 in
theorem walk_answers (a b c d : Int) (ad : Option Addr) (len cap : Nat) (w : World) (ha : -9223372036854775808 ≤ a ∧ a ≤ 9223372036854775807) (hb : -9223372036854775808 ≤ b ∧ b ≤ 9223372036854775807) (hc : -9223372036854775808 ≤ c ∧ c ≤ 9223372036854775807) (hd : -9223372036854775808 ≤ d ∧ d ≤ 9223372036854775807) (ht : Keep.IntsAt w ad len cap) :
    Calls Try.prog 3 #[.int .i64 a, .int .i64 b, .int .i64 c, .int .i64 d, .slice ad len cap] w fun e w' => e = .returned (.bool true) ∧ Below w.heap.size w w' := by
  have e1 := Keep.md_bd a 54
  have e2 := Keep.md_bd b 54
  have e3 := Keep.md_bd c 54
  have e4 := Keep.md_bd d 1003
  go_enter Try.func3, Try.ntmps3
  go_wp2_with fail
  refine (Keep.new_tp _ _ _ w w (Below.refl _ _) ht).mono ?_
  rintro e w1 ⟨bt, rfl, hT, _, _⟩
  clear ht
  go_wp2_with fail
  refine (Keep.range_tp _ _ (by omega) (by omega) (by omega) (by omega) _ hT).mono ?_
  rintro e w2 ⟨N, rfl, N0, N1, hT, _⟩
  go_wp2_with fail
  refine (Keep.range_tp _ _ (by omega) (by omega) (by omega) (by omega) _ hT).mono ?_
  rintro e w3 ⟨m, rfl, m0, m1, hT, _⟩
  go_wp2_with fail
  refine (Keep.next_tp _ (by omega) _ hT).mono ?_
  rintro e w4 ⟨x, rfl, x0, x1, hT, _⟩
  go_wp2_with fail
  refine (Keep.range_tp _ _ (by omega) (by omega) (by omega) (by omega) _ hT).mono ?_
  rintro e w5 ⟨al, rfl, al0, al1, hT, _⟩
  go_wp2_with fail
  refine (Keep.next_tp _ (by omega) _ hT).mono ?_
  rintro e w6 ⟨y1, rfl, y10, y11, hT, _⟩
  go_wp2_with fail
  refine (Keep.next_tp _ (by omega) _ hT).mono ?_
  rintro e w7 ⟨y2, rfl, y20, y21, hT, _⟩
  go_wp2_with fail
  refine (Keep.next_tp _ (by omega) _ hT).mono ?_
  rintro e w8 ⟨y3, rfl, y30, y31, hT, _⟩
  go_wp2_with (go_at_call 12; refine (Keep.mod_any _ _ (by omega) _).mono ?_; rintro e w' ⟨rfl, rfl⟩)
  have hR := rows_at w8 26 a b c d N m x al N y1 y2 y3 (Keep.md a 54 - 2) (Keep.md b 54 - 2) (Keep.md c 54 - 2) (Keep.md d 1003 - 1) (by omega) (by omega) (by omega) (by omega) (by omega) (by omega) (by omega) (by omega) (by omega) (by omega) (by omega) (by omega) (by omega) (by omega) (by omega) (by omega)
  have hB := hT.2.1.trans (((Below.refl w8.heap.size w8).alloc (Nat.le_refl _) (.cells #[.int .i64 a, .int .i64 b, .int .i64 c, .int .i64 d, .int .i64 N, .int .i64 m, .int .i64 x, .int .i64 al, .int .i64 N, .int .i64 y1, .int .i64 y2, .int .i64 y3, .int .i64 (Keep.md a 54 - 2), .int .i64 (Keep.md b 54 - 2), .int .i64 (Keep.md c 54 - 2), .int .i64 (Keep.md d 1003 - 1)] 26)).mono hT.2.1.size)
  obtain ⟨W, hW⟩ : ∃ W, W = w8.alloc (.cells #[.int .i64 a, .int .i64 b, .int .i64 c, .int .i64 d, .int .i64 N, .int .i64 m, .int .i64 x, .int .i64 al, .int .i64 N, .int .i64 y1, .int .i64 y2, .int .i64 y3, .int .i64 (Keep.md a 54 - 2), .int .i64 (Keep.md b 54 - 2), .int .i64 (Keep.md c 54 - 2), .int .i64 (Keep.md d 1003 - 1)] 26) := ⟨_, rfl⟩
  obtain ⟨Bs, hBs⟩ : ∃ Bs, Bs = w8.heap.size := ⟨_, rfl⟩
  rw [← hW, ← hBs] at hR
  rw [← hW] at hB
  rw [← hW, ← hBs]
  clear hW hBs hT
  clear e1 e2 e3 e4 N0 N1 m0 m1 x0 x1 al0 al1 y10 y11 y20 y21 y30 y31
  go_loopw [74] (fun kk wr => ∃ k : Nat, k ≤ 4 ∧ kk = .int .i64 k ∧ Below W.heap.size W wr) (fun kk _ => 4 - (intOf kk).toNat)
  case atStart => exact ⟨0, by omega, rfl, Below.refl _ _⟩
  case round =>
    obtain ⟨k, hk, rfl, hBr⟩ := hrel
    have hR' := hR.below hBr
    by_cases hlt : k < 4
    · obtain ⟨q0, q1, q2, q3, z0, z1, z2, z3, b0, b1, b2, b3⟩ := hR' k hlt
      clear hR' hR
      go_upto_region 10 with (first | (go_at_call 13; refine (upper_any _ _ _ _ _).mono ?_; rintro e w' ⟨rfl, rfl⟩) | (go_at_call 15; refine (lower_any _ _ _ _ _).mono ?_; rintro e w' ⟨rfl, rfl⟩) | (go_at_call 14; refine (rupper_any _ _ _ _ _).mono ?_; rintro e w' ⟨rfl, rfl⟩) | (go_at_call 16; refine (rlower_any _ _ _ _ _).mono ?_; rintro e w' ⟨rfl, rfl⟩))
      go_cut [15, 16, 17, 18, 19, 20, 21, 22, 23, 74] from 74 to 212 (fun s15 s16 s17 s18 s19 s20 s21 s22 s23 s74 wx => s15 = .pointer (some ⟨wr.heap.size, 0, none⟩) ∧ s16 = .int .i64 (upV q0 q1 q2 q3) ∧ s17 = .int .i64 (err q0 q1 q2 q3) ∧ s18 = .int .i64 (upV q0 q1 q2 q3) ∧ s19 = .int .i64 (err q0 q1 q2 q3) ∧ s20 = .int .i64 (loV q0 q1 q2 q3) ∧ s21 = .int .i64 (err q0 q1 q2 q3) ∧ s22 = .int .i64 (loV q0 q1 q2 q3) ∧ s23 = .int .i64 (err q0 q1 q2 q3) ∧ s74 = .int .i64 k ∧ Cells4 wx wr.heap.size q0 q1 q2 q3 ∧ Below W.heap.size W wx)
      case first =>
        as_aux_lemma =>
        go_wp2_with (first | (go_at_call 13; refine (upper_any _ _ _ _ _).mono ?_; rintro e w' ⟨rfl, rfl⟩) | (go_at_call 15; refine (lower_any _ _ _ _ _).mono ?_; rintro e w' ⟨rfl, rfl⟩) | (go_at_call 14; refine (rupper_any _ _ _ _ _).mono ?_; rintro e w' ⟨rfl, rfl⟩) | (go_at_call 16; refine (rlower_any _ _ _ _ _).mono ?_; rintro e w' ⟨rfl, rfl⟩))
        go_meet
        exact ⟨rfl, rfl, rfl, rfl, rfl, rfl, rfl, rfl, rfl, rfl, cells4_new wr _ q0 q1 q2 q3, hBr.alloc hBr.size _⟩
      case rest =>
        obtain ⟨rfl, rfl, rfl, rfl, rfl, rfl, rfl, rfl, rfl, rfl, hC, hBx⟩ := hcut
        obtain ⟨d0, d1, d2, d3⟩ := hC
        clear z0 z1 z2 z3
        as_aux_lemma =>
        go_wp2_with fail
        refine wp_region_quiet_lit (by kernel_rfl) (by kernel_rfl) ?_
        iterate 20 (first | go_big_quiet_step (first | (go_at_call 17; exact Keep.quiet_left (choices_any _ _ _)) | (go_at_call 18; exact Keep.quiet_left (rchoices_any _ _ _)) | (go_at_call 19; exact Keep.quiet_left (samples_any _ _ _ _ _)) | (go_at_call 20; exact Keep.quiet_left (rsamples_any _ _ _ _ (by omega) (by omega) _)) | (go_at_call 21; exact Keep.quiet_left (atmost_any _ _ _ _ _)) | (go_at_call 22; exact Keep.quiet_left (ratmost_any _ _ _ _ _)) | (go_at_call 23; exact Keep.quiet_left (rate_any _ _ _)) | (go_at_call 24; exact Keep.quiet_left (rrate_any _ _ _))) | quiet_step (first | (go_at_call 17; exact Keep.quiet_left (choices_any _ _ _)) | (go_at_call 18; exact Keep.quiet_left (rchoices_any _ _ _)) | (go_at_call 19; exact Keep.quiet_left (samples_any _ _ _ _ _)) | (go_at_call 20; exact Keep.quiet_left (rsamples_any _ _ _ _ (by omega) (by omega) _)) | (go_at_call 21; exact Keep.quiet_left (atmost_any _ _ _ _ _)) | (go_at_call 22; exact Keep.quiet_left (ratmost_any _ _ _ _ _)) | (go_at_call 23; exact Keep.quiet_left (rate_any _ _ _)) | (go_at_call 24; exact Keep.quiet_left (rrate_any _ _ _))))
        as_aux_lemma =>
        iterate 20 (first | go_big_quiet_step (first | (go_at_call 17; exact Keep.quiet_left (choices_any _ _ _)) | (go_at_call 18; exact Keep.quiet_left (rchoices_any _ _ _)) | (go_at_call 19; exact Keep.quiet_left (samples_any _ _ _ _ _)) | (go_at_call 20; exact Keep.quiet_left (rsamples_any _ _ _ _ (by omega) (by omega) _)) | (go_at_call 21; exact Keep.quiet_left (atmost_any _ _ _ _ _)) | (go_at_call 22; exact Keep.quiet_left (ratmost_any _ _ _ _ _)) | (go_at_call 23; exact Keep.quiet_left (rate_any _ _ _)) | (go_at_call 24; exact Keep.quiet_left (rrate_any _ _ _))) | quiet_step (first | (go_at_call 17; exact Keep.quiet_left (choices_any _ _ _)) | (go_at_call 18; exact Keep.quiet_left (rchoices_any _ _ _)) | (go_at_call 19; exact Keep.quiet_left (samples_any _ _ _ _ _)) | (go_at_call 20; exact Keep.quiet_left (rsamples_any _ _ _ _ (by omega) (by omega) _)) | (go_at_call 21; exact Keep.quiet_left (atmost_any _ _ _ _ _)) | (go_at_call 22; exact Keep.quiet_left (ratmost_any _ _ _ _ _)) | (go_at_call 23; exact Keep.quiet_left (rate_any _ _ _)) | (go_at_call 24; exact Keep.quiet_left (rrate_any _ _ _))))
        as_aux_lemma =>
        iterate 20 (first | go_big_quiet_step (first | (go_at_call 17; exact Keep.quiet_left (choices_any _ _ _)) | (go_at_call 18; exact Keep.quiet_left (rchoices_any _ _ _)) | (go_at_call 19; exact Keep.quiet_left (samples_any _ _ _ _ _)) | (go_at_call 20; exact Keep.quiet_left (rsamples_any _ _ _ _ (by omega) (by omega) _)) | (go_at_call 21; exact Keep.quiet_left (atmost_any _ _ _ _ _)) | (go_at_call 22; exact Keep.quiet_left (ratmost_any _ _ _ _ _)) | (go_at_call 23; exact Keep.quiet_left (rate_any _ _ _)) | (go_at_call 24; exact Keep.quiet_left (rrate_any _ _ _))) | quiet_step (first | (go_at_call 17; exact Keep.quiet_left (choices_any _ _ _)) | (go_at_call 18; exact Keep.quiet_left (rchoices_any _ _ _)) | (go_at_call 19; exact Keep.quiet_left (samples_any _ _ _ _ _)) | (go_at_call 20; exact Keep.quiet_left (rsamples_any _ _ _ _ (by omega) (by omega) _)) | (go_at_call 21; exact Keep.quiet_left (atmost_any _ _ _ _ _)) | (go_at_call 22; exact Keep.quiet_left (ratmost_any _ _ _ _ _)) | (go_at_call 23; exact Keep.quiet_left (rate_any _ _ _)) | (go_at_call 24; exact Keep.quiet_left (rrate_any _ _ _))))
        as_aux_lemma =>
        repeat (first | go_big_quiet_step (first | (go_at_call 17; exact Keep.quiet_left (choices_any _ _ _)) | (go_at_call 18; exact Keep.quiet_left (rchoices_any _ _ _)) | (go_at_call 19; exact Keep.quiet_left (samples_any _ _ _ _ _)) | (go_at_call 20; exact Keep.quiet_left (rsamples_any _ _ _ _ (by omega) (by omega) _)) | (go_at_call 21; exact Keep.quiet_left (atmost_any _ _ _ _ _)) | (go_at_call 22; exact Keep.quiet_left (ratmost_any _ _ _ _ _)) | (go_at_call 23; exact Keep.quiet_left (rate_any _ _ _)) | (go_at_call 24; exact Keep.quiet_left (rrate_any _ _ _))) | quiet_step (first | (go_at_call 17; exact Keep.quiet_left (choices_any _ _ _)) | (go_at_call 18; exact Keep.quiet_left (rchoices_any _ _ _)) | (go_at_call 19; exact Keep.quiet_left (samples_any _ _ _ _ _)) | (go_at_call 20; exact Keep.quiet_left (rsamples_any _ _ _ _ (by omega) (by omega) _)) | (go_at_call 21; exact Keep.quiet_left (atmost_any _ _ _ _ _)) | (go_at_call 22; exact Keep.quiet_left (ratmost_any _ _ _ _ _)) | (go_at_call 23; exact Keep.quiet_left (rate_any _ _ _)) | (go_at_call 24; exact Keep.quiet_left (rrate_any _ _ _))))
        refine wpQuiet_nil ?_
        intro _ hw'
        obtain ⟨nq, hw''⟩ := hw'
        subst hw''
        as_aux_lemma =>
        go_wp2
        go_roundw
        case rel => exact ⟨k + 1, by omega, by go_num, ⟨hBx.os, hBx.tape, hBx.output, hBx.size, hBx.block⟩⟩
        case measure => simp [intOf]; omega
    · have e : k = 4 := by omega
      subst e
      go_wp2_with (go_at_call 25; refine (awake_any _).mono ?_; rintro e w' ⟨rfl, rfl⟩)
      go_ret
      exact ⟨rfl, hB.trans (hBr.mono (by have := hB.size; omega))⟩
end Est
end Go.Proofs.Ytackhimcndkccaa
