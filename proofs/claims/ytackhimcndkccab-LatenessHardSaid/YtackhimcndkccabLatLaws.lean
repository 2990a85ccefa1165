/-
  The laws of chapter 30: awake, the law that a tape gives, and the walks of the laws.
-/
import Derived.Test.YtackhimcndkccabLatPay
import Derived.OpenShut
namespace Go.Proofs.Ytackhimcndkccab
open Go.RowKit
set_option linter.unusedVariables false
namespace Lat
open Ex (ret_int ret_bool ret_pair below_drewN)

set_option maxHeartbeats 400000 in
theorem down_52 (w : World) : Calls Try.prog 26 #[.int .i64 5, .int .i64 2] w fun e w' => e = .returned (.int .i64 2) ∧ w = w' := by
  go_enter Try.func26, Try.ntmps26
  go_wp2
  go_ret
  exact ⟨rfl, rfl⟩

set_option maxHeartbeats 800000 in
theorem awake_any (w : World) : Calls Try.prog 20 #[] w fun e w' => e = .returned (.bool true) ∧ Below w.heap.size w w' := by
  have k1 : payV 4 20 10 8 1000 = 980 := by decide +kernel
  have k2 : payE 4 20 10 8 1000 = 0 := by decide +kernel
  have k3 : chk 4 20 10 = 0 := by decide +kernel
  have k4 : dys 4 8 = 2 := by decide +kernel
  have k5 : wrk 7 = true := by decide +kernel
  have k6 : wrk 5 = false := by decide +kernel
  go_enter Try.func20, Try.ntmps20
  go_wp2_with fail
  refine (pay_any _ _ _ _ _ _).mono ?_
  rw [k1, k2]
  rintro e w1 ⟨rfl, hb⟩
  obtain ⟨c0, c1, c2, hb0⟩ := box3 hb
  clear hb
  go_wp2_with fail
  refine (check_any _ _ _ _).mono ?_
  rw [k3]
  rintro e w2 ⟨rfl, hb2⟩
  have hb3 := Lib.hid (hb0.trans (hb2.mono hb0.size))
  clear hb0 hb2
  go_wp2_with (first | (go_at_call 15; refine (days_any _ _ _).mono ?_; rintro e w' ⟨rfl, rfl⟩) | (go_at_call 18; refine (working_any _ _).mono ?_; rintro e w' ⟨rfl, rfl⟩) | (go_at_call 26; refine (down_52 _).mono ?_; rintro e w' ⟨rfl, rfl⟩))
  go_ret
  exact ⟨rfl, hb3.out⟩

/-- A law that the tape gives. -/
def LatePost (B bt : Nat) (w0 w : World) (e : Ending) (w' : World) : Prop :=
  ∃ due last mille : Int, e = .returned (.agg #[.int .i64 due, .int .i64 last, .int .i64 mille]) ∧ (0 ≤ due ∧ due < 40 ∧ due ≤ last ∧ last < due + 40 ∧ 0 ≤ mille ∧ mille < 60) ∧ Keep.Tp B bt w0 w' ∧ w.grownBy w' (some bt)

set_option maxHeartbeats 800000 in
theorem late_any {B bt : Nat} {w0 : World} (w : World) (hT : Keep.Tp B bt w0 w) : Calls Try.prog 8 #[.pointer (some ⟨bt, 0, none⟩)] w (LatePost B bt w0 w) := by
  have hlt := hT.1.lt
  have hA := Lib.hid (Keep.Tp.next hT ((Below.refl _ _).alloc (Nat.le_refl _) (.cells #[.int .i64 0, .int .i64 0, .int .i64 0] 24)))
  have hb0 : (w.alloc (.cells #[.int .i64 0, .int .i64 0, .int .i64 0] 24)).heap[w.heap.size]? = some (.cells #[.int .i64 0, .int .i64 0, .int .i64 0] 24 (0, 0)) := heap_alloc_new w _
  have hb0' := Lib.hid hb0
  have hg0 := Lib.hid (Keep.grown_alloc (Keep.grownBy_refl w (some bt)) (.cells #[.int .i64 0, .int .i64 0, .int .i64 0] 24))
  clear hb0 hT
  go_enter Try.func8, Try.ntmps8
  go_wp2_with fail
  refine (Keep.next_tp _ (by omega) _ hA.out).mono ?_
  rintro e w1 ⟨due, rfl, due0, due1, hT, g1⟩
  go_wp2_with fail
  refine (Keep.next_tp _ (by omega) _ hT).mono ?_
  rintro e w2 ⟨l, rfl, l0, l1, hT, g2⟩
  go_wp2_with fail
  refine (Keep.next_tp _ (by omega) _ hT).mono ?_
  rintro e w3 ⟨mille, rfl, mille0, mille1, hT, g3⟩
  have hbk := Keep.blk_grown (Keep.blk_grown (Keep.blk_grown hb0'.out g1 (by omega)) g2 (by omega)) g3 (by omega)
  have hg := Lib.hid (Keep.grownBy_trans (Keep.grownBy_trans (Keep.grownBy_trans hg0.out g1) g2) g3)
  obtain ⟨c0, c1, c2, f0, f1, f2⟩ := Keep.blk_cells3 hbk
  have hsz : w.heap.size < w3.heap.size := (Array.getElem?_eq_some_iff.1 hbk).1
  clear g1 g2 g3 hbk
  have hlt' : bt < w.heap.size := hlt
  clear hlt
  go_wp2_with fail
  refine bodyPost_ret (v := .agg #[.int .i64 due, .int .i64 (due + l), .int .i64 mille]) (by simp [results, Try.results8, go_sem, c0, c1, c2]) rfl ?_
  exact ⟨due, due + l, mille, rfl, by omega, ((hT.setCell (by omega) _).setCell (by omega) _).setCell (by omega) _, Keep.grown_setCell (Keep.grown_setCell (Keep.grown_setCell hg.out (.inr (Nat.le_refl _)) _) (.inr (Nat.le_refl _)) _) (.inr (Nat.le_refl _)) _⟩
theorem payE_zero (due last mille at_ amount : Int) (h : (0 ≤ due ∧ due ≤ last ∧ last ≤ 36864 ∧ 0 ≤ mille ∧ mille ≤ 1000) ∧ (0 ≤ at_ ∧ at_ ≤ 36864) ∧ 0 ≤ amount ∧ amount ≤ 68719476736) : payE due last mille at_ amount = 0 := (payE_ok _ _ _ _ _).2 h

set_option maxRecDepth 100000 in
set_option maxHeartbeats 4000000 in
theorem walk_falls (ad : Option Addr) (len cap am : Nat) (w : World) (ham : am ≤ 65535) (ht : Keep.IntsAt w ad len cap) :
    Calls Try.prog 4 #[.slice ad len cap, .int .u16 am] w fun e w' => e = .returned (.bool true) ∧ Below w.heap.size w w' := by
  go_enter Try.func4, Try.ntmps4
  go_wp2_with fail
  refine (Keep.new_tp _ _ _ w w (Below.refl _ _) ht).mono ?_
  rintro e w1 ⟨bt, rfl, hT, _, _⟩
  clear ht
  go_wp2_with fail
  refine (late_any _ hT).mono ?_
  rintro e w2 ⟨due, last, mille, rfl, hl, hT, _⟩
  obtain ⟨l0, l1, l2, l3, l4, l5⟩ := hl
  have hbt := hT.1.lt
  have hTn := hT.next ((Below.refl _ _).alloc (Nat.le_refl _) (.cells #[.int .i64 due, .int .i64 last, .int .i64 mille] 24))
  have hbk := heap_alloc_new w2 (.cells #[.int .i64 due, .int .i64 last, .int .i64 mille] 24)
  have hTn' := Lib.hid hTn
  have hbk' := Lib.hid hbk
  clear hTn hbk hT
  go_wp2_with fail
  obtain ⟨bl, hbl⟩ : ∃ bl, bl = w2.heap.size := ⟨_, rfl⟩
  obtain ⟨W, hW⟩ : ∃ W, W = w2.alloc (.cells #[.int .i64 due, .int .i64 last, .int .i64 mille] 24) := ⟨_, rfl⟩
  have hTn := hTn'.out
  have hbk := hbk'.out
  rw [← hW, ← hbl] at hbk
  rw [← hW] at hTn
  rw [← hW, ← hbl]
  have hne : bl ≠ bt := by omega
  clear hTn' hbk' hW hbl hbt
  go_loopw [7, 8] (fun lst d wr => ∃ m n : Int, 0 ≤ n ∧ n ≤ 90 ∧ payV due last mille n am ≤ m ∧ lst = .int .i64 m ∧ d = .int .i64 n ∧ Keep.Tp w.heap.size bt w wr ∧ wr.heap[bl]? = some (.cells #[.int .i64 due, .int .i64 last, .int .i64 mille] 24 (0, 0))) (fun _ d _ => (200 - intOf d).toNat)
  case atStart => exact ⟨am, 0, by omega, by omega, (payV_bd _ _ _ _ _ (payE_zero _ _ _ _ _ (by omega))).2, rfl, rfl, hTn, hbk⟩
  case round =>
    obtain ⟨m, n, n0, n1, hm, rfl, rfl, hT, hblk⟩ := hrel
    have hE := payE_zero due last mille n am (by omega)
    obtain ⟨c0, c1, c2, f0, f1, f2⟩ := Keep.blk_cells3 hblk
    have hV := payV_bd _ _ _ _ _ hE
    by_cases hlt : n < last + 5
    · have hblk' := Lib.hid hblk
      have hT' := Lib.hid hT
      clear hblk hT hbk hTn f0 f1 f2
      obtain ⟨V, hVe⟩ : ∃ V, payV due last mille n am = V := ⟨_, rfl⟩
      have hdue : n ≤ due → V = am := fun h => hVe ▸ payV_due _ _ _ _ _ hE h
      have hlast : last < n → V = 0 := fun h => hVe ▸ payV_last _ _ _ _ _ hE (by omega) h
      rw [hVe] at hV hm
      have hVe' := Lib.hid hVe
      clear hVe
      go_wp2_with fail
      refine (pay_any _ _ _ _ _ _).mono ?_
      rw [hVe'.out, hE]
      rintro e w3 ⟨rfl, hb⟩
      have hT := hT'.out.next hb
      have hblk := Keep.blk_below hblk'.out hb
      obtain ⟨c0, c1, c2, f0, f1, f2⟩ := Keep.blk_cells3 hblk
      have hblk2 := Lib.hid hblk
      have hT2 := Lib.hid hT
      have hm2 : ¬ m < V := by omega
      have hv0 : ¬ V < 0 := by omega
      have fin : ∀ r : Int, 1 ≤ r → r ≤ 4 → payV due last mille (n + r) am ≤ V := fun r r0 r1 => hVe'.out ▸ payV_anti due last mille n (n + r) am hE (payE_zero _ _ _ _ _ (by omega)) (by omega)
      have fin' := Lib.hid fin
      clear hblk hT hT' hblk' hb f0 f1 f2 fin
      by_cases g1 : n ≤ due
      · have hVa := hdue g1
        subst hVa
        have g2 : ¬ last < n := by omega
        clear hdue hlast
        go_wp2_with fail
        refine (Keep.range_tp _ _ (by omega) (by omega) (by omega) (by omega) _ hT2.out).mono ?_
        rintro e w4 ⟨r, rfl, r0, r1, hT, hG⟩
        have hblk := Keep.blk_grown hblk2.out hG hne
        have hblk3 := Lib.hid hblk
        have hT3 := Lib.hid hT
        clear hblk hT hG
        go_wp2
        go_roundw
        case rel => exact ⟨_, n + r, by omega, by omega, fin'.out r r0 (by omega), rfl, rfl, hT3.out, hblk3.out⟩
        case measure => simp [intOf]; omega
      · by_cases g2 : last < n
        · have hVa := hlast g2
          subst hVa
          clear hdue hlast
          go_wp2_with fail
          refine (Keep.range_tp _ _ (by omega) (by omega) (by omega) (by omega) _ hT2.out).mono ?_
          rintro e w4 ⟨r, rfl, r0, r1, hT, hG⟩
          have hblk := Keep.blk_grown hblk2.out hG hne
          have hblk3 := Lib.hid hblk
          have hT3 := Lib.hid hT
          clear hblk hT hG
          go_wp2
          go_roundw
          case rel => exact ⟨_, n + r, by omega, by omega, fin'.out r r0 (by omega), rfl, rfl, hT3.out, hblk3.out⟩
          case measure => simp [intOf]; omega
        · clear hdue hlast
          go_wp2_with fail
          refine (Keep.range_tp _ _ (by omega) (by omega) (by omega) (by omega) _ hT2.out).mono ?_
          rintro e w4 ⟨r, rfl, r0, r1, hT, hG⟩
          have hblk := Keep.blk_grown hblk2.out hG hne
          have hblk3 := Lib.hid hblk
          have hT3 := Lib.hid hT
          clear hblk hT hG
          go_wp2
          go_roundw
          case rel => exact ⟨_, n + r, by omega, by omega, fin'.out r r0 (by omega), rfl, rfl, hT3.out, hblk3.out⟩
          case measure => simp [intOf]; omega
    · have hB := Lib.hid hT.2.1
      clear hblk hT hbk hTn f0 f1 f2
      go_wp2_with (go_at_call 20; refine (awake_any _).mono ?_; rintro e w4 ⟨rfl, hb4⟩)
      go_ret
      exact ⟨rfl, hB.out.trans (hb4.mono hB.out.size)⟩
end Lat
end Go.Proofs.Ytackhimcndkccab
