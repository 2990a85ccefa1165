/-
  The laws of chapter 30: awake, the law that a tape gives, and the walks of the laws.
-/
import Derived.Test.YtdpokdckahafcaaLatPay
import Derived.OpenShut
namespace Go.Proofs.Ytdpokdckahafcaa
open Go.RowKit
set_option linter.unusedVariables false
namespace Lat
open Ex (ret_int ret_bool ret_pair below_drewN)

set_option maxHeartbeats 400000 in
theorem down_52 (w : World) : Calls Try.prog 22 #[.int .i64 5, .int .i64 2] w fun e w' => e = .returned (.int .i64 2) ∧ w = w' := by
  go_enter Try.func22, Try.ntmps22
  go_wp2
  go_ret
  exact ⟨rfl, rfl⟩

set_option maxHeartbeats 800000 in
theorem awake_any (w : World) : Calls Try.prog 17 #[] w fun e w' => e = .returned (.bool true) ∧ Below w.heap.size w w' := by
  have k1 : payV 4 20 10 8 1000 = 980 := by decide +kernel
  have k2 : payE 4 20 10 8 1000 = 0 := by decide +kernel
  have k3 : chk 4 20 10 = 0 := by decide +kernel
  have k4 : dys 4 8 = 2 := by decide +kernel
  have k5 : wrk 7 = true := by decide +kernel
  have k6 : wrk 5 = false := by decide +kernel
  go_enter Try.func17, Try.ntmps17
  go_wp2_with fail
  refine (pay_any _ _ _ _ _ _).mono ?_
  rw [k1, k2]
  rintro e w1 ⟨rfl, hb⟩
  obtain ⟨c0, c1, c2, hb0⟩ := box3 hb
  clear hb
  go_wp2_with fail
  refine (check_any _ _ _ _).mono ?_
  rw [k3]
  rintro e w2 ⟨rfl, hb2⟩
  have hb3 := Lib.hid (hb0.trans (hb2.mono hb0.size))
  clear hb0 hb2
  go_wp2_with (first | (go_at_call 12; refine (days_any _ _ _).mono ?_; rintro e w' ⟨rfl, rfl⟩) | (go_at_call 15; refine (working_any _ _).mono ?_; rintro e w' ⟨rfl, rfl⟩) | (go_at_call 22; refine (down_52 _).mono ?_; rintro e w' ⟨rfl, rfl⟩))
  go_ret
  exact ⟨rfl, hb3.out⟩

/-- A law that the tape gives. -/
def LatePost (B bt : Nat) (w0 w : World) (e : Ending) (w' : World) : Prop :=
  ∃ due last mille : Int, e = .returned (.agg #[.int .i64 due, .int .i64 last, .int .i64 mille]) ∧ (0 ≤ due ∧ due < 40 ∧ due ≤ last ∧ last < due + 40 ∧ 0 ≤ mille ∧ mille < 60) ∧ Keep.Tp B bt w0 w' ∧ w.grownBy w' (some bt)

set_option maxHeartbeats 800000 in
theorem late_any {B bt : Nat} {w0 : World} (w : World) (hT : Keep.Tp B bt w0 w) : Calls Try.prog 5 #[.pointer (some ⟨bt, 0, none⟩)] w (LatePost B bt w0 w) := by
  have hlt := hT.1.lt
  have hA := Lib.hid (Keep.Tp.next hT ((Below.refl _ _).alloc (Nat.le_refl _) (.cells #[.int .i64 0, .int .i64 0, .int .i64 0] 24)))
  have hb0 : (w.alloc (.cells #[.int .i64 0, .int .i64 0, .int .i64 0] 24)).heap[w.heap.size]? = some (.cells #[.int .i64 0, .int .i64 0, .int .i64 0] 24 (0, 0)) := heap_alloc_new w _
  have hb0' := Lib.hid hb0
  have hg0 := Lib.hid (Keep.grown_alloc (Keep.grownBy_refl w (some bt)) (.cells #[.int .i64 0, .int .i64 0, .int .i64 0] 24))
  clear hb0 hT
  go_enter Try.func5, Try.ntmps5
  go_wp2_with fail
  refine (Keep.next_tp _ (by omega) _ hA.out).mono ?_
  rintro e w1 ⟨due, rfl, due0, due1, hT, g1⟩
  go_wp2_with fail
  refine (Keep.next_tp _ (by omega) _ hT).mono ?_
  rintro e w2 ⟨l, rfl, l0, l1, hT, g2⟩
  go_wp2_with fail
  refine (Keep.next_tp _ (by omega) _ hT).mono ?_
  rintro e w3 ⟨mille, rfl, mille0, mille1, hT, g3⟩
  have hbk := Keep.blk_grown (Keep.blk_grown (Keep.blk_grown hb0'.out g1 (by omega)) g2 (by omega)) g3 (by omega)
  have hg := Lib.hid (Keep.grownBy_trans (Keep.grownBy_trans (Keep.grownBy_trans hg0.out g1) g2) g3)
  obtain ⟨c0, c1, c2, f0, f1, f2⟩ := Keep.blk_cells3 hbk
  have hsz : w.heap.size < w3.heap.size := (Array.getElem?_eq_some_iff.1 hbk).1
  clear g1 g2 g3 hbk
  have hlt' : bt < w.heap.size := hlt
  clear hlt
  go_wp2_with fail
  refine bodyPost_ret (v := .agg #[.int .i64 due, .int .i64 (due + l), .int .i64 mille]) (by simp [results, Try.results5, go_sem, c0, c1, c2]) rfl ?_
  exact ⟨due, due + l, mille, rfl, by omega, ((hT.setCell (by omega) _).setCell (by omega) _).setCell (by omega) _, Keep.grown_setCell (Keep.grown_setCell (Keep.grown_setCell hg.out (.inr (Nat.le_refl _)) _) (.inr (Nat.le_refl _)) _) (.inr (Nat.le_refl _)) _⟩
theorem payE_zero (due last mille at_ amount : Int) (h : (0 ≤ due ∧ due ≤ last ∧ last ≤ 36864 ∧ 0 ≤ mille ∧ mille ≤ 1000) ∧ (0 ≤ at_ ∧ at_ ≤ 36864) ∧ 0 ≤ amount ∧ amount ≤ 68719476736) : payE due last mille at_ amount = 0 := (payE_ok _ _ _ _ _).2 h

end Lat
end Go.Proofs.Ytdpokdckahafcaa
