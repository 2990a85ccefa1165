/-
  The walk of calendar.Next.
-/
import Derived.Test.YtmmekdkllccmdaaCalWinB
namespace Go.Proofs.Ytmmekdkllccmdaa
open Go.RowKit
set_option linter.unusedVariables false
namespace Cal
theorem ret_ib {a b : Int} {x y : Bool} (h : a = b) (h2 : x = y) : Ending.returned (.tuple #[.int .i64 a, .bool x]) = .returned (.tuple #[.int .i64 b, .bool y]) := by rw [h, h2]
theorem nxt_off (f u d : Int) (h : isD d = false) : nxt f u d = (0, false) := by unfold nxt; rw [nx_off f u 365 d h]; split <;> rfl

set_option maxRecDepth 100000 in
set_option maxHeartbeats 1600000 in
theorem next_any (f u d : Int) (w : World) : Calls Try.prog 44 #[.agg #[.int .i64 f, .int .i64 u], .int .i64 d] w fun e w' => e = .returned (.tuple #[.int .i64 (nxt f u d).1, .bool (nxt f u d).2]) ∧ Below w.heap.size w w' := by
  cases hd : isD d
  · rw [nxt_off f u d hd]
    go_enter Try.func44, Try.ntmps44
    go_wp2_with (go_at_call 89; refine (right_any _ _).mono ?_; rintro e w' ⟨rfl, rfl⟩)
    go_ret2
    exact ⟨rfl, (Below.refl _ _).alloc (Nat.le_refl _) _⟩
  · cases hv : vld f u
    · have e : nxt f u d = (0, false) := by unfold nxt; rw [hv]; rfl
      rw [e]
      clear e
      go_enter Try.func44, Try.ntmps44
      go_wp2_with (go_at_call 89; refine (right_any _ _).mono ?_; rintro e w' ⟨rfl, rfl⟩)
      refine (valid_any _ _ _).mono ?_
      rw [hv]
      rintro e w1 ⟨rfl, hb⟩
      obtain ⟨c0, c1, hb0⟩ := box2 hb
      clear hb
      go_wp2
      go_ret2
      exact ⟨rfl, hb0⟩
    · have hd2 := (isD_iff d).1 hd
      have e : nxt f u d = nx f u 365 d := by unfold nxt; rw [hv]; rfl
      rw [e]
      clear e
      obtain ⟨T, hT⟩ : ∃ T, nx f u 365 d = T := ⟨_, rfl⟩
      rw [hT]
      have hT' := Lib.hid hT
      clear hT
      go_enter Try.func44, Try.ntmps44
      go_wp2_with (go_at_call 89; refine (right_any _ _).mono ?_; rintro e w' ⟨rfl, rfl⟩)
      refine (valid_any _ _ _).mono ?_
      rw [hv]
      rintro e w1 ⟨rfl, hb⟩
      go_wp2_with fail
      have hB0 := Lib.hid hb
      clear hb hd
      go_loopw [6] (fun x wr => ∃ k : Nat, k ≤ 365 ∧ x = .int .i64 (d + k) ∧ nx f u (365 - k) (d + k) = T ∧ Below (w.alloc (.cells #[.int .i64 f, .int .i64 u] 61)).heap.size (w.alloc (.cells #[.int .i64 f, .int .i64 u] 61)) wr) (fun x _ => 365 - (intOf x - d).toNat)
      case atStart => exact ⟨0, by omega, int_eq (by omega), by rw [Nat.sub_zero, show d + ((0 : Nat) : Int) = d by omega]; exact hT'.out, hB0.out⟩
      case round =>
        obtain ⟨k, hk, rfl, hn, hb⟩ := hrel
        obtain ⟨c0, c1, hb0⟩ := box2 hb
        have hB := Lib.hid hb
        have hB1 := Lib.hid hb0
        have hn' := Lib.hid hn
        clear hb hb0 hn
        by_cases hlt : k < 365
        · cases hx : isD (d + k)
          · have hfin := Lib.hid (show T = (0, false) by rw [← hn'.out, nx_off _ _ _ _ hx])
            have hl2 : d + (k : Int) < d + 365 := by omega
            go_wp2_with (go_at_call 89; refine (right_any _ _).mono ?_; rintro e w' ⟨rfl, rfl⟩)
            go_ret2
            exact ⟨ret_ib (by rw [hfin.out]) (by rw [hfin.out]), hB1.out⟩
          · have hl2 : d + (k : Int) < d + 365 := by omega
            go_wp2_with (go_at_call 89; refine (right_any _ _).mono ?_; rintro e w' ⟨rfl, rfl⟩)
            refine (in_any _ _ _ _).mono ?_
            rintro e w2 ⟨rfl, hb2⟩
            have hs := Lib.hid (show nx f u (365 - k) (d + k) = if isD (d + k) then (if inn f u (d + k) then (d + k, true) else nx f u (365 - k - 1) (d + k + 1)) else (0, false) by
              rw [show 365 - k = (365 - k - 1) + 1 by omega]; rfl)
            have hB2 := Lib.hid (hB.out.trans (hb2.mono hB.out.size))
            have hB3 := Lib.hid (hB1.out.trans (hb2.mono hB1.out.size))
            clear hb2 c0 c1
            cases hin : inn f u (d + k)
            · have hnn := Lib.hid (show nx f u (365 - (k + 1)) (d + (k + 1 : Nat)) = T by
                rw [← hn'.out, hs.out, hx, hin, show d + ((k + 1 : Nat) : Int) = d + k + 1 by omega, show 365 - (k + 1) = 365 - k - 1 by omega]; simp)
              go_wp2
              go_roundw
              case rel => exact ⟨k + 1, by omega, int_eq (by omega), hnn.out, hB2.out⟩
              case measure => simp [intOf]; omega
            · have hfin := Lib.hid (show T = (d + k, true) by rw [← hn'.out, hs.out, hx, hin]; simp)
              go_wp2
              go_ret2
              exact ⟨ret_ib (by rw [hfin.out]) (by rw [hfin.out]), hB3.out⟩
        · have hfin := Lib.hid (show T = (0, false) by rw [← hn'.out, show 365 - k = 0 by omega]; rfl)
          have hl2 : ¬ d + (k : Int) < d + 365 := by omega
          go_wp2
          go_ret2
          exact ⟨ret_ib (by rw [hfin.out]) (by rw [hfin.out]), hB1.out⟩
end Cal
end Go.Proofs.Ytmmekdkllccmdaa
