/-
  Chapter 41: landaidref24.Has; the plain law of ClearanceWithin.
-/
import Derived.Test.YtmmekdkllccmdaaClrJ
namespace Go.Proofs.Ytmmekdkllccmdaa
open Go.RowKit Go.Sort
set_option linter.unusedVariables false
namespace Clr
open Cal (ret_bool ret_int int_eq infoI)
set_option maxHeartbeats 800000 in
theorem has24_any (zs : List Int) (ad : Option Addr) (cap : Nat) (d : Int) (w : World) (hmax : zs.length ≤ 9223372036854775807) (hz : Seq.Ints w.heap.size w ad zs) :
    Calls Try.prog 32 #[.slice ad zs.length cap, .int .i64 d] w fun e w' => e = .returned (.bool (zs.contains d)) ∧ w = w' := by
  rcases hz with rfl | ⟨bl, off, rfl, hbl, hc⟩
  · go_enter Try.func32, Try.ntmps32
    go_wp2
    refine wp_loop_rounds 1 ?_
    rw [rounds_succ]
    go_wp2
    go_ret
    exact ⟨rfl, rfl⟩
  · obtain ⟨n, hn⟩ : ∃ n, n = zs.length := ⟨_, rfl⟩
    have hn' := Lib.hid hn
    have hcl := Lib.hid (show ∀ j, j < n → w.cell? ⟨bl, off + j, none⟩ = some (.int .i64 (zs[j]?.getD 0)) from fun j hj => hc j (hn ▸ hj))
    rw [← hn] at hmax ⊢
    have hfin := Lib.hid (show zs.contains d = (zs.take n).contains d by rw [hn, List.take_length])
    obtain ⟨c, hcc⟩ : ∃ c, zs.contains d = c := ⟨_, rfl⟩
    rw [hcc]
    have hcc' := Lib.hid hcc
    clear hcc hc hn
    go_enter Try.func32, Try.ntmps32
    go_wp2
    go_loop [5] (fun i => ∃ k : Nat, k ≤ n ∧ i = .int .i64 k ∧ (zs.take k).contains d = false) (fun i => n - (intOf i).toNat)
    case atStart => exact ⟨0, by omega, rfl, by simp⟩
    case round =>
      obtain ⟨k, hk, rfl, hno⟩ := hrel
      have hno' := Lib.hid hno
      clear hno
      by_cases hlt : k < n
      · have hcell := hcl.out k hlt
        have hmem := Lib.hid (show zs.take (k + 1) = zs.take k ++ [zs[k]?.getD 0] by
          have := hn'.out
          rw [List.take_succ_eq_append_getElem (by omega), List.getElem?_eq_getElem (by omega)]; rfl)
        obtain ⟨z, hzz⟩ : ∃ z, zs[k]?.getD 0 = z := ⟨_, rfl⟩
        rw [hzz] at hcell hmem
        clear hzz
        by_cases hd : z = d
        · have hyes := Lib.hid (show c = true by
            rw [← hcc'.out, List.contains_iff_mem]
            have : z ∈ zs.take (k + 1) := by rw [hmem.out]; simp
            exact hd ▸ List.mem_of_mem_take this)
          have hb : (z == d) = true := beq_iff_eq.2 hd
          clear hd
          go_wp2
          go_ret
          exact ⟨ret_bool hyes.out.symm, rfl⟩
        · have hb : (z == d) = false := beq_eq_false_iff_ne.2 hd
          have hnext := Lib.hid (show (zs.take (k + 1)).contains d = false by
            rw [hmem.out, Bool.eq_false_iff]
            intro h
            rw [List.contains_iff_mem, List.mem_append] at h
            rcases h with h | h
            · have := hno'.out; rw [Bool.eq_false_iff] at this; exact this (List.contains_iff_mem.2 h)
            · simp at h; exact hd h.symm)
          clear hd
          go_wp2
          go_round
          case rel => exact ⟨k + 1, by omega, by go_num, hnext.out⟩
          case measure => simp [intOf]; omega
      · have hkn : k = n := by omega
        have hno2 := Lib.hid (show c = false by rw [← hcc'.out, hfin.out, ← hkn]; exact hno'.out)
        have hl2 : ¬ k < n := by omega
        clear hkn
        go_wp2
        go_ret
        exact ⟨ret_bool hno2.out.symm, rfl⟩


theorem fok_lt {fs : List Fd} (h : FOk fs) : ∀ (d j : Nat) (x y : Fd), fs[j]? = some x → fs[j + d + 1]? = some y → x.n < y.n
  | 0, j, x, y, hx, hy => h.2 j x y hx hy
  | d + 1, j, x, y, hx, hy => by
    have hl := (List.getElem?_eq_some_iff.1 hy).1
    obtain ⟨z, hz⟩ : ∃ z, fs[j + d + 1]? = some z := ⟨_, List.getElem?_eq_getElem (by omega)⟩
    have h1 := fok_lt h d j x z hx hz
    have h2 := h.2 (j + d + 1) z y hz hy
    omega
theorem fok_inj {fs : List Fd} (h : FOk fs) {x y : Fd} (hx : x ∈ fs) (hy : y ∈ fs) (e : x.n = y.n) : x = y := by
  obtain ⟨i, hi⟩ := List.mem_iff_getElem?.1 hx
  obtain ⟨j, hj⟩ := List.mem_iff_getElem?.1 hy
  have hh : i < j ∨ i = j ∨ j < i := by omega
  rcases hh with hh | hh | hh
  · obtain ⟨d, hd⟩ : ∃ d, j = i + d + 1 := ⟨j - i - 1, by omega⟩
    rw [hd] at hj
    have := fok_lt h d i x y hi hj
    omega
  · rw [hh, hj] at hi; injection hi with hi; exact hi.symm
  · obtain ⟨d, hd⟩ : ∃ d, i = j + d + 1 := ⟨i - j - 1, by omega⟩
    rw [hd] at hi
    have := fok_lt h d j y x hj hi
    omega
theorem sh_fil {fs : List Fd} (h : ∀ x ∈ fs, x.ok) (s : Sp) : Sh (dsc ((fs.filter (con s)).map (·.m))) := by
  intro m hm
  obtain ⟨y, hy, rfl⟩ := List.mem_map.1 ((dsc_perm _).mem_iff.1 hm)
  obtain ⟨_, _, _, _, _, _, _, h8, h9⟩ := h y (List.mem_filter.1 hy).1
  omega
theorem within_bd {fs : List Fd} {s : Sp} (h : ∀ x ∈ fs, x.ok) (ha : 0 ≤ s.a) : 0 ≤ corr fs s ∧ corr fs s ≤ s.a := by
  have := lefts_bd _ s.a ha (sh_fil h s)
  unfold corr; omega
theorem within_none {fs : List Fd} {s : Sp} (h : fs.filter (con s) = []) : corr fs s = 0 := by
  unfold corr
  rw [h]
  have : dsc (([] : List Fd).map (·.m)) = [] := List.eq_nil_of_length_eq_zero (by have := (dsc_perm ([] : List Int)).length_eq; simpa using this)
  rw [this]; simp [lefts]
theorem within_one {fs : List Fd} {s : Sp} {x : Fd} (h : FOk fs) (ha : 0 ≤ s.a) (hx : x ∈ fs) (hn : ((fs.filter (con s)).map (·.n)).contains x.n = true) : x.m * s.a / 1000 ≤ corr fs s ∧ (x.m = 1000 → corr fs s = s.a) := by
  obtain ⟨y, hy, hyn⟩ := List.mem_map.1 (List.contains_iff_mem.1 hn)
  have hyf := (List.mem_filter.1 hy).1
  have e := fok_inj h hyf hx hyn
  subst e
  have hm : y.m ∈ dsc ((fs.filter (con s)).map (·.m)) := (dsc_perm _).mem_iff.2 (List.mem_map.2 ⟨y, hy, rfl⟩)
  have h1 := lefts_one _ y.m s.a ha (sh_fil h.1 s) hm
  have h2 := within_bd (s := s) h.1 ha
  have h3 : pt s.a y.m ≤ corr fs s := by unfold corr; omega
  have h4 : pt s.a y.m = y.m * s.a / 1000 := by unfold pt; rw [Int.mul_comm]
  refine ⟨by omega, fun h5 => ?_⟩
  rw [h4, h5] at h3
  omega
end Clr
end Go.Proofs.Ytmmekdkllccmdaa
