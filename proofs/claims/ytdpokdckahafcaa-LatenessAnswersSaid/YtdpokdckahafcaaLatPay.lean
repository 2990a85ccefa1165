/-
  The walks of Pay, of package lateness and of landaidref30.
-/
import Derived.Test.YtdpokdckahafcaaLatWalk
import Derived.Test.YtdpokdckahafcaaKeep
namespace Go.Proofs.Ytdpokdckahafcaa
open Go.RowKit
set_option linter.unusedVariables false
namespace Lat
open Ex (ret_int ret_bool ret_pair below_drewN)

set_option maxHeartbeats 800000 in
theorem rpay_any (due last mille at_ amount : Int) (w : World) :
    Calls Try.prog 11 #[.agg #[.int .i64 due, .int .i64 last, .int .i64 mille], .int .i64 at_, .int .i64 amount] w fun e w' => e = .returned (.tuple #[.int .i64 (payV due last mille at_ amount), .int .i64 (payE due last mille at_ amount)]) ∧ Below w.heap.size w w' := by
  by_cases hc : chk due last mille = 0
  · have hk := (chk_ok _ _ _).1 hc
    by_cases hd : 0 ≤ at_ ∧ at_ ≤ 36864
    · by_cases ha : 0 ≤ amount ∧ amount ≤ 68719476736
      · have hE : payE due last mille at_ amount = 0 := (payE_ok _ _ _ _ _).2 ⟨hk, hd, ha⟩
        have hV : payV due last mille at_ amount = if at_ ≤ due then amount else if last < at_ then 0 else amount * left due mille at_ / 1000 := by unfold payV; rw [if_pos hE]
        rw [hE, hV]
        clear hE hV
        have d1 : isDay at_ = true := (isDay_iff _).2 hd
        by_cases h1 : at_ ≤ due
        · rw [if_pos h1]
          go_enter Try.func11, Try.ntmps11
          go_wp2_with fail
          refine (rcheck_any _ _ _ _).mono ?_
          rintro e w1 ⟨rfl, hb⟩
          obtain ⟨c0, c1, c2, hb0⟩ := box3 hb
          clear hb
          go_wp2
          go_ret2
          exact ⟨rfl, hb0⟩
        · rw [if_neg h1]
          by_cases h2 : last < at_
          · rw [if_pos h2]
            go_enter Try.func11, Try.ntmps11
            go_wp2_with fail
            refine (rcheck_any _ _ _ _).mono ?_
            rintro e w1 ⟨rfl, hb⟩
            obtain ⟨c0, c1, c2, hb0⟩ := box3 hb
            clear hb
            go_wp2
            go_ret2
            exact ⟨rfl, hb0⟩
          · rw [if_neg h2]
            have hm := mul_bd due mille at_ (by omega) (by omega)
            have hl := left_bd due mille at_ (by omega)
            have hdb := dys_bd due at_
            have hlv := Lib.hid (show left due mille at_ = max 0 (1000 - mille * dys due at_) from rfl)
            obtain ⟨lf, hlf⟩ : ∃ lf, left due mille at_ = lf := ⟨_, rfl⟩
            rw [hlf] at hl hlv ⊢
            clear hlf
            obtain ⟨am, ham⟩ := Int.eq_ofNat_of_zero_le ha.1
            obtain ⟨l', hl'⟩ := Int.eq_ofNat_of_zero_le hl.1
            subst ham
            subst hl'
            have hpart := fun W => Ex.rpart_any am l' 1000 (by have := Nat.mul_le_mul (show am ≤ 68719476736 by omega) (show l' ≤ 1000 by omega); omega) (by omega) (by omega) (by omega) (by omega) W
            have hfin : ((am * l' / 1000 : Nat) : Int) = (am : Int) * (l' : Int) / 1000 := by simp
            have hfin' := Lib.hid hfin
            have hpart' := Lib.hid hpart
            clear hfin hpart
            obtain ⟨md, hmd⟩ : ∃ md, mille * dys due at_ = md := ⟨_, rfl⟩
            have hlv2 := hlv.out
            rw [hmd] at hlv2 hm
            have hmd' := Lib.hid hmd
            clear hmd hlv
            by_cases hz : md < 1000
            · have hlv3 : (l' : Int) = 1000 - md := by omega
              have hlv4 : 1000 - md = (l' : Int) := hlv3.symm
              have hlv5 : 0 < l' := by omega
              have hlv6 := Lib.hid hlv4
              clear hlv2 hlv3 hlv4
              go_enter Try.func11, Try.ntmps11
              go_wp2_with fail
              refine (rcheck_any _ _ _ _).mono ?_
              rintro e w1 ⟨rfl, hb⟩
              obtain ⟨c0, c1, c2, hb0⟩ := box3 hb
              clear hb
              go_wp2_with fail
              have ks : IntKind.i64.wrap (mille * dys due at_) = md := by rw [hmd'.out]; exact IntWalk.i64_in _ (by omega)
              have ks2 : IntKind.i64.wrap (1000 - md) = (l' : Int) := by rw [hlv6.out]; exact IntWalk.i64_in _ (by omega)
              go_quiet ((go_at_call 13; exact Keep.quiet_left (rdays_any _ _ _)))
              clear ks ks2
              go_wp2_with fail
              refine (hpart'.out _).mono ?_
              rintro e w2 ⟨rfl, hb2⟩
              go_wp2
              go_ret2
              exact ⟨ret_pair hfin'.out rfl, (below_drewN hb0 _).trans (hb2.mono hb0.size)⟩
            · have hl0 : (l' : Int) = 0 := by omega
              have hl0' : l' = 0 := by omega
              subst hl0'
              clear hlv2 hl0
              go_enter Try.func11, Try.ntmps11
              go_wp2_with fail
              refine (rcheck_any _ _ _ _).mono ?_
              rintro e w1 ⟨rfl, hb⟩
              obtain ⟨c0, c1, c2, hb0⟩ := box3 hb
              clear hb
              go_wp2_with fail
              have ks : IntKind.i64.wrap (mille * dys due at_) = md := by rw [hmd'.out]; exact IntWalk.i64_in _ (by omega)
              have ks2 : IntKind.i64.wrap (1000 - md) = 1000 - md := IntWalk.i64_in _ (by omega)
              go_quiet ((go_at_call 13; exact Keep.quiet_left (rdays_any _ _ _)))
              clear ks ks2
              go_wp2
              go_ret2
              exact ⟨ret_pair (by simp) rfl, below_drewN hb0 _⟩
      · have hE : payE due last mille at_ amount = 67 := by unfold payE; rw [if_pos hc, if_pos hd, if_neg ha]
        have hV := payV_err due last mille at_ amount (by rw [hE]; omega)
        rw [hE, hV]
        clear hE hV
        have d1 : isDay at_ = true := (isDay_iff _).2 hd
        have ha' : amount < 0 ∨ (0 ≤ amount ∧ 68719476736 < amount) := by omega
        clear ha
        rcases ha' with ha | ⟨ha, ha'⟩
        all_goals
          go_enter Try.func11, Try.ntmps11
          go_wp2_with fail
          refine (rcheck_any _ _ _ _).mono ?_
          rintro e w1 ⟨rfl, hb⟩
          obtain ⟨c0, c1, c2, hb0⟩ := box3 hb
          clear hb
          go_wp2
          go_ret2
          exact ⟨rfl, hb0⟩
    · have hE : payE due last mille at_ amount = 9 := by unfold payE; rw [if_pos hc, if_neg hd]
      have hV := payV_err due last mille at_ amount (by rw [hE]; omega)
      rw [hE, hV]
      clear hE hV
      have d1 : isDay at_ = false := (isDay_not _).2 hd
      have hd' : at_ < 0 ∨ (0 ≤ at_ ∧ 36864 < at_) := by omega
      clear hd
      rcases hd' with hd | ⟨hd, hd'⟩
      all_goals
        go_enter Try.func11, Try.ntmps11
        go_wp2_with fail
        refine (rcheck_any _ _ _ _).mono ?_
        rintro e w1 ⟨rfl, hb⟩
        obtain ⟨c0, c1, c2, hb0⟩ := box3 hb
        clear hb
        go_wp2
        go_ret2
        exact ⟨rfl, hb0⟩
  · have hc2 := chk_no _ _ _ hc
    have hE : payE due last mille at_ amount = 66 := by unfold payE; rw [if_neg hc]
    have hV := payV_err due last mille at_ amount (by rw [hE]; omega)
    rw [hE, hV]
    clear hE hV hc
    go_enter Try.func11, Try.ntmps11
    go_wp2_with fail
    refine (rcheck_any _ _ _ _).mono ?_
    rintro e w1 ⟨rfl, hb⟩
    obtain ⟨c0, c1, c2, hb0⟩ := box3 hb
    clear hb
    go_wp2
    go_ret2
    exact ⟨rfl, hb0⟩

set_option maxHeartbeats 800000 in
theorem pay_any (due last mille at_ amount : Int) (w : World) :
    Calls Try.prog 10 #[.agg #[.int .i64 due, .int .i64 last, .int .i64 mille], .int .i64 at_, .int .i64 amount] w fun e w' => e = .returned (.tuple #[.int .i64 (payV due last mille at_ amount), .int .i64 (payE due last mille at_ amount)]) ∧ Below w.heap.size w w' := by
  by_cases hc : chk due last mille = 0
  · have hk := (chk_ok _ _ _).1 hc
    by_cases hd : 0 ≤ at_ ∧ at_ ≤ 36864
    · by_cases ha : 0 ≤ amount ∧ amount ≤ 68719476736
      · have hE : payE due last mille at_ amount = 0 := (payE_ok _ _ _ _ _).2 ⟨hk, hd, ha⟩
        have hV : payV due last mille at_ amount = if at_ ≤ due then amount else if last < at_ then 0 else amount * left due mille at_ / 1000 := by unfold payV; rw [if_pos hE]
        rw [hE, hV]
        clear hE hV
        have d1 : isDay at_ = true := (isDay_iff _).2 hd
        by_cases h1 : at_ ≤ due
        · rw [if_pos h1]
          go_enter Try.func10, Try.ntmps10
          go_wp2_with fail
          refine (check_any _ _ _ _).mono ?_
          rintro e w1 ⟨rfl, hb⟩
          obtain ⟨c0, c1, c2, hb0⟩ := box3 hb
          clear hb
          go_wp2_with (go_at_call 18; refine (day_any _ _).mono ?_; rintro e w' ⟨rfl, rfl⟩)
          go_ret2
          exact ⟨rfl, hb0⟩
        · rw [if_neg h1]
          by_cases h2 : last < at_
          · rw [if_pos h2]
            go_enter Try.func10, Try.ntmps10
            go_wp2_with fail
            refine (check_any _ _ _ _).mono ?_
            rintro e w1 ⟨rfl, hb⟩
            obtain ⟨c0, c1, c2, hb0⟩ := box3 hb
            clear hb
            go_wp2_with (go_at_call 18; refine (day_any _ _).mono ?_; rintro e w' ⟨rfl, rfl⟩)
            go_ret2
            exact ⟨rfl, hb0⟩
          · rw [if_neg h2]
            have hm := mul_bd due mille at_ (by omega) (by omega)
            have hl := left_bd due mille at_ (by omega)
            have hdb := dys_bd due at_
            have hlv := Lib.hid (show left due mille at_ = max 0 (1000 - mille * dys due at_) from rfl)
            obtain ⟨lf, hlf⟩ : ∃ lf, left due mille at_ = lf := ⟨_, rfl⟩
            rw [hlf] at hl hlv ⊢
            clear hlf
            obtain ⟨am, ham⟩ := Int.eq_ofNat_of_zero_le ha.1
            obtain ⟨l', hl'⟩ := Int.eq_ofNat_of_zero_le hl.1
            subst ham
            subst hl'
            have hpart := fun W => Ex.part_any am l' 1000 (by have := Nat.mul_le_mul (show am ≤ 68719476736 by omega) (show l' ≤ 1000 by omega); omega) (by omega) (by omega) (by omega) (by omega) W
            have hfin : ((am * l' / 1000 : Nat) : Int) = (am : Int) * (l' : Int) / 1000 := by simp
            have hfin' := Lib.hid hfin
            have hpart' := Lib.hid hpart
            clear hfin hpart
            go_enter Try.func10, Try.ntmps10
            go_wp2_with fail
            refine (check_any _ _ _ _).mono ?_
            rintro e w1 ⟨rfl, hb⟩
            obtain ⟨c0, c1, c2, hb0⟩ := box3 hb
            clear hb
            go_wp2_with (go_at_call 18; refine (day_any _ _).mono ?_; rintro e w' ⟨rfl, rfl⟩)
            obtain ⟨md, hmd⟩ : ∃ md, mille * dys due at_ = md := ⟨_, rfl⟩
            have hlv2 := hlv.out
            rw [hmd] at hlv2 hm
            have hmd' := Lib.hid hmd
            have hlv3 := Lib.hid hlv2
            clear hmd hlv hlv2
            have hb1 := Lib.hid hb0
            clear hb0
            have kd : IntKind.i64.wrap (mille * dys due at_) = md := by rw [hmd'.out]; exact IntWalk.i64_in _ (by omega)
            have km : IntKind.i64.wrap (1000 - md) = 1000 - md := IntWalk.i64_in _ (by omega)
            go_region_with (first | (go_at_call 12; refine (days_any _ _ _).mono ?_; rintro e w' ⟨rfl, rfl⟩) | (go_at_call 19; rw [← hlv3.out]; refine (hpart'.out _).mono ?_; rintro e w2 ⟨rfl, hb2⟩))
            all_goals
              go_wp2
              go_ret2
              exact ⟨ret_pair hfin'.out rfl, (hb1.out.drew).trans (hb2.mono hb1.out.size)⟩
      · have hE : payE due last mille at_ amount = 67 := by unfold payE; rw [if_pos hc, if_pos hd, if_neg ha]
        have hV := payV_err due last mille at_ amount (by rw [hE]; omega)
        rw [hE, hV]
        clear hE hV
        have d1 : isDay at_ = true := (isDay_iff _).2 hd
        have ha' : amount < 0 ∨ (0 ≤ amount ∧ 68719476736 < amount) := by omega
        clear ha
        rcases ha' with ha | ⟨ha, ha'⟩
        all_goals
          go_enter Try.func10, Try.ntmps10
          go_wp2_with fail
          refine (check_any _ _ _ _).mono ?_
          rintro e w1 ⟨rfl, hb⟩
          obtain ⟨c0, c1, c2, hb0⟩ := box3 hb
          clear hb
          go_wp2_with (go_at_call 18; refine (day_any _ _).mono ?_; rintro e w' ⟨rfl, rfl⟩)
          go_ret2
          exact ⟨rfl, hb0⟩
    · have hE : payE due last mille at_ amount = 9 := by unfold payE; rw [if_pos hc, if_neg hd]
      have hV := payV_err due last mille at_ amount (by rw [hE]; omega)
      rw [hE, hV]
      clear hE hV
      have d1 : isDay at_ = false := (isDay_not _).2 hd
      have hd' : at_ < 0 ∨ (0 ≤ at_ ∧ 36864 < at_) := by omega
      clear hd
      rcases hd' with hd | ⟨hd, hd'⟩
      all_goals
        go_enter Try.func10, Try.ntmps10
        go_wp2_with fail
        refine (check_any _ _ _ _).mono ?_
        rintro e w1 ⟨rfl, hb⟩
        obtain ⟨c0, c1, c2, hb0⟩ := box3 hb
        clear hb
        go_wp2_with (go_at_call 18; refine (day_any _ _).mono ?_; rintro e w' ⟨rfl, rfl⟩)
        go_ret2
        exact ⟨rfl, hb0⟩
  · have hc2 := chk_no _ _ _ hc
    have hE : payE due last mille at_ amount = 66 := by unfold payE; rw [if_neg hc]
    have hV := payV_err due last mille at_ amount (by rw [hE]; omega)
    rw [hE, hV]
    clear hE hV hc
    go_enter Try.func10, Try.ntmps10
    go_wp2_with fail
    refine (check_any _ _ _ _).mono ?_
    rintro e w1 ⟨rfl, hb⟩
    obtain ⟨c0, c1, c2, hb0⟩ := box3 hb
    clear hb
    go_wp2_with (go_at_call 18; refine (day_any _ _).mono ?_; rintro e w' ⟨rfl, rfl⟩)
    go_ret2
    exact ⟨rfl, hb0⟩

end Lat
end Go.Proofs.Ytdpokdckahafcaa
