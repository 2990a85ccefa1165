/-
  The walks of calendar.Working at any numbers, of landaidref03.Working, of landaidref01.Has; awake.
-/
import Derived.Test.YtmmekdkllccmdaaCalWork
namespace Go.Proofs.Ytmmekdkllccmdaa
open Go.RowKit
set_option linter.unusedVariables false
namespace Cal

set_option maxHeartbeats 800000 in
theorem working_any (a b : Int) (zs : List Int) (ad : Option Addr) (cap : Nat) (w : World) (hmax : zs.length ≤ 9223372036854775807) (hz : Seq.Ints w.heap.size w ad zs) :
    Calls Try.prog 37 #[.int .i64 a, .int .i64 b, .slice ad zs.length cap] w fun e w' => e = .returned (.tuple #[.int .i64 (wkV zs a b), .int .i64 (wkE a b zs.length)]) ∧ Below w.heap.size w w' := by
  by_cases hE : wkE a b zs.length = 0
  · have hc : 0 ≤ a ∧ a ≤ b ∧ b ≤ 36865 ∧ zs.length ≤ 400 := by
      unfold wkE at hE
      split at hE
      · omega
      · split at hE <;> omega
    have hV : wkV zs a b = wks zs a (b - a).toNat := by unfold wkV; rw [if_pos hE]
    rw [hV, hE]
    exact working_in a b zs ad cap w hc.1 hc.2.1 hc.2.2.1 hc.2.2.2 hz
  · have hV : wkV zs a b = 0 := by unfold wkV; rw [if_neg hE]
    rw [hV]
    obtain ⟨n, hn⟩ : ∃ n, zs.length = n := ⟨_, rfl⟩
    rw [hn] at hE hmax ⊢
    clear hn hz hV
    have hcase : (a < 0 ∧ wkE a b n = 9) ∨ (0 ≤ a ∧ b < a ∧ wkE a b n = 9) ∨ (0 ≤ a ∧ a ≤ b ∧ 36865 < b ∧ wkE a b n = 9) ∨ (0 ≤ a ∧ a ≤ b ∧ b ≤ 36865 ∧ 400 < n ∧ wkE a b n = 1) := by
      unfold wkE at hE ⊢
      split
      · omega
      · rename_i h1
        rw [if_neg h1] at hE
        split
        · omega
        · rename_i h2; rw [if_neg h2] at hE; exact absurd rfl hE
    clear hE
    rcases hcase with ⟨h, e⟩ | ⟨h, h1, e⟩ | ⟨h, h1, h2, e⟩ | ⟨h, h1, h2, h3, e⟩
    all_goals
      rw [e]
      clear e
      go_enter Try.func37, Try.ntmps37
      go_wp2
      go_ret2
      exact ⟨rfl, Below.refl _ _⟩

set_option maxHeartbeats 800000 in
theorem has_any (zs : List Int) (ad : Option Addr) (cap : Nat) (d : Int) (w : World) (hmax : zs.length ≤ 9223372036854775807) (hz : Seq.Ints w.heap.size w ad zs) :
    Calls Try.prog 92 #[.slice ad zs.length cap, .int .i64 d] w fun e w' => e = .returned (.bool (zs.contains d)) ∧ w = w' := by
  rcases hz with rfl | ⟨bl, off, rfl, hbl, hc⟩
  · go_enter Try.func92, Try.ntmps92
    go_wp2
    refine wp_loop_rounds 1 ?_
    rw [rounds_succ]
    go_wp2
    go_ret
    exact ⟨rfl, rfl⟩
  · obtain ⟨n, hn⟩ : ∃ n, n = zs.length := ⟨_, rfl⟩
    have hn' := Lib.hid hn
    have hcl := Lib.hid (show ∀ j, j < n → w.cell? ⟨bl, off + j, none⟩ = some (.int .i64 (zs[j]?.getD 0)) from fun j hj => hc j (hn ▸ hj))
    rw [← hn] at hmax ⊢
    have hfin := Lib.hid (show zs.contains d = (zs.take n).contains d by rw [hn, List.take_length])
    obtain ⟨c, hcc⟩ : ∃ c, zs.contains d = c := ⟨_, rfl⟩
    rw [hcc]
    have hcc' := Lib.hid hcc
    clear hcc hc hn
    go_enter Try.func92, Try.ntmps92
    go_wp2
    go_loop [9] (fun i => ∃ k : Nat, k ≤ n ∧ i = .int .i64 k ∧ (zs.take k).contains d = false) (fun i => n - (intOf i).toNat)
    case atStart => exact ⟨0, by omega, rfl, by simp⟩
    case round =>
      obtain ⟨k, hk, rfl, hno⟩ := hrel
      have hno' := Lib.hid hno
      clear hno
      by_cases hlt : k < n
      · have hcell := hcl.out k hlt
        have hmem := Lib.hid (show zs.take (k + 1) = zs.take k ++ [zs[k]?.getD 0] by
          have := hn'.out
          rw [List.take_succ_eq_append_getElem (by omega), List.getElem?_eq_getElem (by omega)]; rfl)
        obtain ⟨z, hzz⟩ : ∃ z, zs[k]?.getD 0 = z := ⟨_, rfl⟩
        rw [hzz] at hcell hmem
        clear hzz
        by_cases hd : z = d
        · have hyes := Lib.hid (show c = true by
            rw [← hcc'.out, List.contains_iff_mem]
            have : z ∈ zs.take (k + 1) := by rw [hmem.out]; simp
            exact hd ▸ List.mem_of_mem_take this)
          have hb : (z == d) = true := beq_iff_eq.2 hd
          clear hd
          go_wp2
          go_ret
          exact ⟨ret_bool hyes.out.symm, rfl⟩
        · have hb : (z == d) = false := beq_eq_false_iff_ne.2 hd
          have hnext := Lib.hid (show (zs.take (k + 1)).contains d = false by
            rw [hmem.out, Bool.eq_false_iff]
            intro h
            rw [List.contains_iff_mem, List.mem_append] at h
            rcases h with h | h
            · have := hno'.out; rw [Bool.eq_false_iff] at this; exact this (List.contains_iff_mem.2 h)
            · simp at h; exact hd h.symm)
          clear hd
          go_wp2
          go_round
          case rel => exact ⟨k + 1, by omega, by go_num, hnext.out⟩
          case measure => simp [intOf]; omega
      · have hkn : k = n := by omega
        have hno2 := Lib.hid (show c = false by rw [← hcc'.out, hfin.out, ← hkn]; exact hno'.out)
        have hl2 : ¬ k < n := by omega
        clear hkn
        go_wp2
        go_ret
        exact ⟨ret_bool hno2.out.symm, rfl⟩

set_option maxRecDepth 100000 in
set_option maxHeartbeats 1600000 in
theorem rworking_in (a b : Int) (zs : List Int) (ad : Option Addr) (cap : Nat) (w : World) (h1 : 0 ≤ a) (h2 : a ≤ b) (h3 : b ≤ 36865) (hn : zs.length ≤ 400) (hz : Seq.Ints w.heap.size w ad zs) :
    Calls Try.prog 48 #[.int .i64 a, .int .i64 b, .slice ad zs.length cap] w fun e w' => e = .returned (.tuple #[.int .i64 (wks zs a (b - a).toNat), .int .i64 0]) ∧ Below w.heap.size w w' := by
  obtain ⟨m, hm⟩ : ∃ m, (b - a).toNat = m := ⟨_, rfl⟩
  rw [hm]
  have hm2 : b = a + m := by omega
  have hm' := Lib.hid hm2
  have hm3 : a + (m : Int) ≤ 36865 := by omega
  have hhas := Lib.hid (fun d => has_any zs ad cap d w (by omega) hz)
  clear hm hm2 hz
  go_enter Try.func48, Try.ntmps48
  go_wp2_with fail
  go_loop [8, 9] (fun n d => ∃ k : Nat, k ≤ m ∧ n = .int .i64 (wks zs a k) ∧ d = .int .i64 (a + k)) (fun _ d => m - (intOf d - a).toNat)
  case atStart => exact ⟨0, by omega, rfl, int_eq (by omega)⟩
  case round =>
    obtain ⟨k, hk, rfl, rfl⟩ := hrel
    have hwb := wks_bd zs a k
    have hbb := hm'.out
    by_cases hlt : k < m
    · have hl2 : a + (k : Int) < b := by omega
      have hs := Lib.hid (show wks zs a (k + 1) = wks zs a k + if wk zs (a + k) then 1 else 0 from rfl)
      have hd' := Lib.hid (show wk zs (a + k) = (decide ((a + (k : Int)) % 7 < 5) && !zs.contains (a + k)) from rfl)
      clear hbb
      by_cases h5 : (a + (k : Int)) % 7 < 5
      · go_wp2_with fail
        refine (hhas.out _).mono ?_
        rintro e w3 ⟨rfl, rfl⟩
        obtain ⟨c, hc⟩ : ∃ c, zs.contains (a + (k : Int)) = c := ⟨_, rfl⟩
        rw [hc]
        have hc' := Lib.hid hc
        clear hc
        cases c
        · have hnew := Lib.hid (show wks zs a (k + 1) = wks zs a k + 1 by rw [hs.out, hd'.out, hc'.out, decide_eq_true h5]; rfl)
          go_wp2
          go_round
          case rel => exact ⟨k + 1, by omega, int_eq hnew.out.symm, int_eq (by omega)⟩
          case measure => simp [intOf]; omega
        · have hnew := Lib.hid (show wks zs a (k + 1) = wks zs a k by rw [hs.out, hd'.out, hc'.out]; simp)
          go_wp2
          go_round
          case rel => exact ⟨k + 1, by omega, int_eq hnew.out.symm, int_eq (by omega)⟩
          case measure => simp [intOf]; omega
      · have hnew := Lib.hid (show wks zs a (k + 1) = wks zs a k by rw [hs.out, hd'.out, decide_eq_false h5]; simp)
        go_wp2
        go_round
        case rel => exact ⟨k + 1, by omega, int_eq hnew.out.symm, int_eq (by omega)⟩
        case measure => simp [intOf]; omega
    · have hkm : k = m := by omega
      have hl2 : ¬ a + (k : Int) < b := by omega
      clear hbb
      subst hkm
      go_wp2
      go_ret2
      exact ⟨rfl, Below.refl _ _⟩

set_option maxHeartbeats 800000 in
theorem rworking_any (a b : Int) (zs : List Int) (ad : Option Addr) (cap : Nat) (w : World) (hmax : zs.length ≤ 9223372036854775807) (hz : Seq.Ints w.heap.size w ad zs) :
    Calls Try.prog 48 #[.int .i64 a, .int .i64 b, .slice ad zs.length cap] w fun e w' => e = .returned (.tuple #[.int .i64 (wkV zs a b), .int .i64 (wkE a b zs.length)]) ∧ Below w.heap.size w w' := by
  by_cases hE : wkE a b zs.length = 0
  · have hc : 0 ≤ a ∧ a ≤ b ∧ b ≤ 36865 ∧ zs.length ≤ 400 := by
      unfold wkE at hE
      split at hE
      · omega
      · split at hE <;> omega
    have hV : wkV zs a b = wks zs a (b - a).toNat := by unfold wkV; rw [if_pos hE]
    rw [hV, hE]
    exact rworking_in a b zs ad cap w hc.1 hc.2.1 hc.2.2.1 hc.2.2.2 hz
  · have hV : wkV zs a b = 0 := by unfold wkV; rw [if_neg hE]
    rw [hV]
    obtain ⟨n, hn⟩ : ∃ n, zs.length = n := ⟨_, rfl⟩
    rw [hn] at hE hmax ⊢
    clear hn hz hV
    have hcase : (a < 0 ∧ wkE a b n = 9) ∨ (0 ≤ a ∧ b < a ∧ wkE a b n = 9) ∨ (0 ≤ a ∧ a ≤ b ∧ 36865 < b ∧ wkE a b n = 9) ∨ (0 ≤ a ∧ a ≤ b ∧ b ≤ 36865 ∧ 400 < n ∧ wkE a b n = 1) := by
      unfold wkE at hE ⊢
      split
      · omega
      · rename_i h1
        rw [if_neg h1] at hE
        split
        · omega
        · rename_i h2; rw [if_neg h2] at hE; exact absurd rfl hE
    clear hE
    rcases hcase with ⟨h, e⟩ | ⟨h, h1, e⟩ | ⟨h, h1, h2, e⟩ | ⟨h, h1, h2, h3, e⟩
    all_goals
      rw [e]
      clear e
      go_enter Try.func48, Try.ntmps48
      go_wp2
      go_ret2
      exact ⟨rfl, Below.refl _ _⟩

end Cal
end Go.Proofs.Ytmmekdkllccmdaa
