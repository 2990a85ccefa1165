/-
  The laws of chapter 3: awake, CalendarBack.
-/
import Derived.Test.YtmmekdkllccmdaaCalWorkB
import Derived.OpenShut
namespace Go.Proofs.Ytmmekdkllccmdaa
open Go.RowKit
set_option linter.unusedVariables false
namespace Cal

theorem cell_later {w w' : World} {p : Addr} {v : Value} (c : w.cell? p = some v) (hb : Below w.heap.size w w') : w'.cell? p = some v :=
  (hb.cell (World.block_lt_of_cell? w _ c)).trans c

set_option maxRecDepth 100000 in
set_option maxHeartbeats 1600000 in
theorem awake_any (w : World) : Calls Try.prog 38 #[] w fun e w' => e = .returned (.bool true) ∧ Below w.heap.size w w' := by
  have k1 : wkV [] 0 7 = 5 := by decide +kernel
  have k2 : wkE 0 7 ([] : List Int).length = 0 := by decide +kernel
  have k3 : dayV 2 3 = 733 := by decide +kernel
  have k4 : dayE 2 3 = 0 := by decide +kernel
  have k5 : dys 360 4 = 10 := by decide +kernel
  have k6 : inn 360 4 361 = true := by decide +kernel
  have k7 : inn 360 4 369 = true := by decide +kernel
  have k8 : inn 360 4 370 = false := by decide +kernel
  go_enter Try.func38, Try.ntmps38
  go_wp2_with fail
  refine (working_any 0 7 [] none 0 _ (by decide) (.inl rfl)).mono ?_
  rw [k1, k2]
  rintro e w1 ⟨rfl, hb1⟩
  clear k1 k2
  go_wp2_with (go_at_call 41; refine (day_any _ _ _).mono ?_; rintro e w' ⟨rfl, rfl⟩)
  refine (days_any _ _ _).mono ?_
  rw [k5]
  rintro e w2 ⟨rfl, hb⟩
  obtain ⟨c0, c1, hb2⟩ := box2 hb
  clear hb
  have hB := Lib.hid (hb1.trans (hb2.mono hb1.size))
  have hlt := hb2.size
  clear hb1 hb2
  go_wp2_with fail
  refine (in_any _ _ _ _).mono ?_
  rw [k6]
  rintro e w3 ⟨rfl, hb⟩
  replace c0 := cell_later c0 hb
  replace c1 := cell_later c1 hb
  replace hB := Lib.hid (hB.out.trans (hb.mono hB.out.size))
  clear hb
  go_wp2_with fail
  refine (in_any _ _ _ _).mono ?_
  rw [k7]
  rintro e w4 ⟨rfl, hb⟩
  replace c0 := cell_later c0 hb
  replace c1 := cell_later c1 hb
  replace hB := Lib.hid (hB.out.trans (hb.mono hB.out.size))
  clear hb
  go_wp2_with fail
  refine (in_any _ _ _ _).mono ?_
  rw [k8]
  rintro e w5 ⟨rfl, hb⟩
  replace hB := Lib.hid (hB.out.trans (hb.mono hB.out.size))
  clear hb
  go_wp2
  go_ret
  exact ⟨rfl, hB.out⟩
theorem back_plain (d : Int) (h0 : 0 ≤ d) (h1 : d < 36865) : yearV d = d / 365 ∧ placeV d = d % 365 ∧ dE d = 0 ∧ dayV (d / 365) (d % 365) = d ∧ dayE (d / 365) (d % 365) = 0 := by
  have hd := (isD_iff d).2 (by omega)
  unfold yearV placeV dE dayV dayE
  rw [hd, if_pos rfl, if_pos rfl, if_pos rfl, if_pos (by omega), if_pos (by omega), if_pos (by omega), if_pos (by omega)]
  exact ⟨rfl, rfl, rfl, by omega, rfl⟩
set_option maxRecDepth 100000 in
set_option maxHeartbeats 1600000 in
theorem walk_back (day : Nat) (hday : day ≤ 65535) (w : World) :
    Calls Try.prog 9 #[.int .u16 day] w fun e w' => e = .returned (.bool true) ∧ Below w.heap.size w w' := by
  obtain ⟨d, hd⟩ : ∃ d, (day : Int).tmod 36865 = d := ⟨_, rfl⟩
  have hd0 : 0 ≤ d ∧ d < 36865 := ⟨hd ▸ Int.tmod_nonneg _ (by omega), hd ▸ Int.tmod_lt_of_pos _ (by omega)⟩
  obtain ⟨k1, k2, k3, k4, k5⟩ := back_plain d hd0.1 hd0.2
  obtain ⟨y, hy⟩ : ∃ y, d / 365 = y := ⟨_, rfl⟩
  obtain ⟨p, hp⟩ : ∃ p, d % 365 = p := ⟨_, rfl⟩
  have hsum : y * 365 + p = d := by omega
  have hy0 : 0 ≤ y ∧ y ≤ 101 := by omega
  have hp0 : 0 ≤ p ∧ p ≤ 365 := by omega
  rw [hy] at k1 k4 k5
  rw [hp] at k2 k4 k5
  clear hy hp
  go_enter Try.func9, Try.ntmps9
  go_wp2_with (first | (go_at_call 39; refine (year_any _ _).mono ?_; rintro e w' ⟨rfl, rfl⟩) | (go_at_call 40; refine (place_any _ _).mono ?_; rintro e w' ⟨rfl, rfl⟩) | (go_at_call 41; refine (day_any _ _ _).mono ?_; rintro e w' ⟨rfl, rfl⟩))
  refine (awake_any _).mono ?_
  rintro e w1 ⟨rfl, hb⟩
  have hB := Lib.hid hb
  clear hb
  go_wp2
  go_ret
  exact ⟨rfl, hB.out⟩
end Cal
end Go.Proofs.Ytmmekdkllccmdaa
