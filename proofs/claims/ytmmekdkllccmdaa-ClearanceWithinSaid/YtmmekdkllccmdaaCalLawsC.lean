/-
  CalendarWindows: the walk.
-/
import Derived.Test.YtmmekdkllccmdaaCalLawsB
import Derived.Lib.QuietBelow
namespace Go.Proofs.Ytmmekdkllccmdaa
open Go.RowKit Go.Sort
set_option linter.unusedVariables false
namespace Cal
theorem cells_box2 {w : World} {v0 v1 : Value} {t : TypeId} : (w.alloc (.cells #[v0, v1] t)).cell? ⟨w.heap.size, 0, none⟩ = some v0 ∧ (w.alloc (.cells #[v0, v1] t)).cell? ⟨w.heap.size, 1, none⟩ = some v1 := by
  have hh := heap_alloc_new w (.cells #[v0, v1] t)
  refine ⟨?_, ?_⟩
  · rw [cell_of_row _ _ _ _ _ _ hh]; rfl
  · rw [cell_of_row _ _ _ _ _ _ hh]; rfl

theorem in_at {f u d : Int} {c : Bool} (h : inn f u d = c) (W : World) : Calls Try.prog 43 #[.agg #[.int .i64 f, .int .i64 u], .int .i64 d] W fun e w' => e = .returned (.bool c) ∧ Below W.heap.size W w' := by
  subst h; exact in_any f u d W
theorem days_at {f u c : Int} (h : dys f u = c) (W : World) : Calls Try.prog 42 #[.agg #[.int .i64 f, .int .i64 u]] W fun e w' => e = .returned (.int .i64 c) ∧ Below W.heap.size W w' := by
  subst h; exact days_any f u W

set_option maxRecDepth 100000 in
set_option maxHeartbeats 3200000 in
theorem walk_windows (a b c : Nat) (ha : a ≤ 65535) (hb : b ≤ 65535) (hc : c ≤ 65535) (w : World) :
    Calls Try.prog 10 #[.int .u16 a, .int .u16 b, .int .u16 c] w fun e w' => e = .returned (.bool true) ∧ Below w.heap.size w w' := by
  obtain ⟨f, hf⟩ : ∃ x, (a : Int).tmod 365 = x := ⟨_, rfl⟩
  obtain ⟨u, hu⟩ : ∃ x, (b : Int).tmod 365 = x := ⟨_, rfl⟩
  obtain ⟨d, hd⟩ : ∃ x, (c : Int).tmod 36864 = x := ⟨_, rfl⟩
  have hf0 : 0 ≤ f ∧ f < 365 := ⟨hf ▸ Int.tmod_nonneg _ (by omega), hf ▸ Int.tmod_lt_of_pos _ (by omega)⟩
  have hu0 : 0 ≤ u ∧ u < 365 := ⟨hu ▸ Int.tmod_nonneg _ (by omega), hu ▸ Int.tmod_lt_of_pos _ (by omega)⟩
  have hd0 : 0 ≤ d ∧ d < 36864 := ⟨hd ▸ Int.tmod_nonneg _ (by omega), hd ▸ Int.tmod_lt_of_pos _ (by omega)⟩
  have hr : (u + 1).tmod 365 = rf u := by unfold rf; exact Int.tmod_eq_emod_of_nonneg (by omega)
  have hs : (f + 365 - 1).tmod 365 = ru f := by unfold ru; rw [Int.tmod_eq_emod_of_nonneg (by omega)]; omega
  have hrr : 0 ≤ rf u ∧ rf u < 365 := by unfold rf; omega
  have hss : 0 ≤ ru f ∧ ru f < 365 := by unfold ru; omega
  have hrest := Lib.hid (fun hn => rest_plain f u d hf0 hu0 hn hd0)
  have hwhole := Lib.hid (fun hn => whole_plain f u d hf0 hu0 hn hd0)
  have hnext := Lib.hid (next_plain f u d ((vld_iff f u).2 (by omega)) hd0)
  have hf' := Lib.hid hf
  have hu' := Lib.hid hu
  have hd' := Lib.hid hd
  obtain ⟨r, hre⟩ : ∃ r, rf u = r := ⟨_, rfl⟩
  obtain ⟨s, hse⟩ : ∃ s, ru f = s := ⟨_, rfl⟩
  rw [hre] at hr hrr
  rw [hse] at hs hss
  have hre' := Lib.hid hre
  have hse' := Lib.hid hse
  clear hre hse
  have hw2 := Lib.hid (cells_box2 (w := w) (v0 := .int .i64 f) (v1 := .int .i64 u) (t := 61))
  have hw3 := Lib.hid (cells_box2 (w := w.alloc (.cells #[.int .i64 f, .int .i64 u] 61)) (v0 := .int .i64 r) (v1 := .int .i64 s) (t := 61))
  have hBb := Lib.hid (((Below.refl _ w).alloc (Nat.le_refl _) (.cells #[.int .i64 f, .int .i64 u] 61)).trans ((((Below.refl _ (w.alloc (.cells #[.int .i64 f, .int .i64 u] 61))).alloc (Nat.le_refl _) (.cells #[.int .i64 r, .int .i64 s] 61))).mono (by simp)))
  go_enter Try.func10, Try.ntmps10
  go_wp2_with fail
  clear hf hu hd hr hs
  obtain ⟨W, hW⟩ : ∃ W, W = ((w.alloc (.cells #[.int .i64 f, .int .i64 u] 61)).alloc (.cells #[.int .i64 r, .int .i64 s] 61)) := ⟨_, rfl⟩
  have c2 := hw3.out.1
  have c3 := hw3.out.2
  have hBW := hBb.out
  rw [← hW] at c2 c3 hBW ⊢
  rw [show (w.alloc (.cells #[.int .i64 f, .int .i64 u] 61)).heap.size = w.heap.size + 1 by simp] at c2 c3
  have c0 : W.cell? ⟨w.heap.size, 0, none⟩ = some (.int .i64 f) := by
    rw [hW]; exact (((Below.refl _ _).alloc (Nat.le_refl _) _).cell (p := ⟨w.heap.size, 0, none⟩) (by simp)).trans hw2.out.1
  have c1 : W.cell? ⟨w.heap.size, 1, none⟩ = some (.int .i64 u) := by
    rw [hW]; exact (((Below.refl _ _).alloc (Nat.le_refl _) _).cell (p := ⟨w.heap.size, 1, none⟩) (by simp)).trans hw2.out.2
  have hB := Lib.hid hBW
  clear hw2 hw3 hBb hBW hW
  refine (days_any _ _ _).mono ?_
  obtain ⟨n, hn⟩ : ∃ n, dys f u = n := ⟨_, rfl⟩
  rw [hn] at hrest hwhole ⊢
  rintro e w1 ⟨rfl, hb⟩
  replace c0 := cell_later c0 hb
  replace c1 := cell_later c1 hb
  replace c2 := cell_later c2 hb
  replace c3 := cell_later c3 hb
  replace hB := Lib.hid (hB.out.trans (hb.mono hB.out.size))
  clear hb
  have hn' := Lib.hid hn
  clear hn
  have hfu := hf'.out
  have hdd := hd'.out
  by_cases hn : n = 365
  · have hin := hwhole.out hn
    subst hn
    go_wp2_with fail
    refine (in_any _ _ _ _).mono ?_
    rw [hin]
    rintro e w2 ⟨rfl, hb⟩
    replace hB := Lib.hid (hB.out.trans (hb.mono hB.out.size))
    clear hb hin
    go_wp2_with fail
    refine (awake_any _).mono ?_
    rintro e w3 ⟨rfl, hb⟩
    replace hB := Lib.hid (hB.out.trans (hb.mono hB.out.size))
    clear hb
    go_wp2
    go_ret
    exact ⟨rfl, hB.out⟩
  · obtain ⟨hir, hsum⟩ := hrest.out hn
    have hbd : 0 ≤ n ∧ n ≤ 365 := by rw [← hn'.out, ← cnt_year]; exact cnt_bd f u 365
    obtain ⟨n2, hn2⟩ : ∃ n2, dys (rf u) (ru f) = n2 := ⟨_, rfl⟩
    rw [hn2] at hsum
    rw [hre'.out, hse'.out] at hir hn2
    have hir' := Lib.hid hir
    have hn2' := Lib.hid hn2
    clear hir hn2 hrest hwhole
    go_wp2_with fail
    refine (next_any _ _ _ _).mono ?_
    rintro e w2 ⟨rfl, hb⟩
    replace c0 := cell_later c0 hb
    replace c1 := cell_later c1 hb
    replace c2 := cell_later c2 hb
    replace c3 := cell_later c3 hb
    replace hB := Lib.hid (hB.out.trans (hb.mono hB.out.size))
    clear hb hfu hdd
    have k0 := cell_regrown c0
    have k1 := cell_regrown c1
    have k2 := cell_regrown c2
    have k3 := cell_regrown c3
    have cA : ∀ d os, Calls Try.prog 38 #[] (grow (redrawn w2 d) os) fun e w'' => e = .returned (.bool true) ∧ ∃ p : Regrown, w'' = grow (redrawn w2 p.d) p.os := fun d os => Calls.regrown_of (awake_any _)
    have cN : ∀ d os, Calls Try.prog 42 #[.agg #[.int .i64 f, .int .i64 u]] (grow (redrawn w2 d) os) fun e w'' => e = .returned (.int .i64 n) ∧ ∃ p : Regrown, w'' = grow (redrawn w2 p.d) p.os := fun d os => Calls.regrown_of (days_at hn'.out _)
    have cM : ∀ d os, Calls Try.prog 42 #[.agg #[.int .i64 r, .int .i64 s]] (grow (redrawn w2 d) os) fun e w'' => e = .returned (.int .i64 n2) ∧ ∃ p : Regrown, w'' = grow (redrawn w2 p.d) p.os := fun d os => Calls.regrown_of (days_at hn2'.out _)
    obtain ⟨nd, hnd⟩ : ∃ nd, (nxt f u d).1 = nd := ⟨_, rfl⟩
    rcases hnext.out with ⟨hok, h1, h2, h3, h4⟩ | ⟨hok, h4⟩
    · rw [hnd] at h1 h2 h3 h4 ⊢
      rw [hok]
      clear hnd hok
      by_cases hq : nd = d
      · subst hq
        have cI : ∀ dr os, Calls Try.prog 43 #[.agg #[.int .i64 f, .int .i64 u], .int .i64 nd] (grow (redrawn w2 dr) os) fun e w'' => e = .returned (.bool true) ∧ ∃ p : Regrown, w'' = grow (redrawn w2 p.d) p.os := fun d os => Calls.regrown_of (in_at h3 _)
        have cJ : ∀ dr os, Calls Try.prog 43 #[.agg #[.int .i64 r, .int .i64 s], .int .i64 nd] (grow (redrawn w2 dr) os) fun e w'' => e = .returned (.bool false) ∧ ∃ p : Regrown, w'' = grow (redrawn w2 p.d) p.os := fun d os => Calls.regrown_of (in_at (show inn r s nd = false by rw [hir'.out, h3]; rfl) _)
        clear h3 h4
        go_wp2_with fail
        refine wp_region_quiet_below (by kernel_rfl) (by kernel_rfl) ?_
        repeat ((with_reducible refine wpQuiet_step ?_); (with_reducible intro K hK); go_simp; first | (refine hK _ ?_; clear hK K) | (apply Exists.intro; refine ⟨fun _ => ?_, hK _ ?_⟩; (first | with_reducible exact cI _ _ | with_reducible exact cJ _ _ | with_reducible exact cN _ _ | with_reducible exact cM _ _ | with_reducible exact cA _ _); clear hK K))
        refine wpQuiet_nil ?_
        intro _ hw'
        obtain ⟨⟨dq, osq⟩, hw''⟩ := hw'
        subst hw''
        go_wp2
        go_ret
        exact ⟨ret_bool (by first | rfl | decide), hB.out.trans ((below_regrown w2 dq osq).mono hB.out.size)⟩
      · have h4' : inn f u d = false := by rw [h4]; exact beq_eq_false_iff_ne.2 hq
        have cI : ∀ dr os, Calls Try.prog 43 #[.agg #[.int .i64 f, .int .i64 u], .int .i64 d] (grow (redrawn w2 dr) os) fun e w'' => e = .returned (.bool false) ∧ ∃ p : Regrown, w'' = grow (redrawn w2 p.d) p.os := fun _ os => Calls.regrown_of (in_at h4' _)
        have cJ : ∀ dr os, Calls Try.prog 43 #[.agg #[.int .i64 r, .int .i64 s], .int .i64 d] (grow (redrawn w2 dr) os) fun e w'' => e = .returned (.bool true) ∧ ∃ p : Regrown, w'' = grow (redrawn w2 p.d) p.os := fun _ os => Calls.regrown_of (in_at (show inn r s d = true by rw [hir'.out, h4']; rfl) _)
        have cK : ∀ dr os, Calls Try.prog 43 #[.agg #[.int .i64 f, .int .i64 u], .int .i64 nd] (grow (redrawn w2 dr) os) fun e w'' => e = .returned (.bool true) ∧ ∃ p : Regrown, w'' = grow (redrawn w2 p.d) p.os := fun _ os => Calls.regrown_of (in_at h3 _)
        clear h3 h4 h4'
        have hq2 : (nd == d) = false := beq_eq_false_iff_ne.2 hq
        go_wp2_with fail
        refine wp_region_quiet_below (by kernel_rfl) (by kernel_rfl) ?_
        repeat ((with_reducible refine wpQuiet_step ?_); (with_reducible intro K hK); go_simp; first | (refine hK _ ?_; clear hK K) | (apply Exists.intro; refine ⟨fun _ => ?_, hK _ ?_⟩; (first | with_reducible exact cI _ _ | with_reducible exact cJ _ _ | with_reducible exact cK _ _ | with_reducible exact cN _ _ | with_reducible exact cM _ _ | with_reducible exact cA _ _); clear hK K))
        refine wpQuiet_nil ?_
        intro _ hw'
        obtain ⟨⟨dq, osq⟩, hw''⟩ := hw'
        subst hw''
        go_wp2
        go_ret
        exact ⟨ret_bool (by first | rfl | decide), hB.out.trans ((below_regrown w2 dq osq).mono hB.out.size)⟩
    · rw [hnd]
      rw [hok]
      clear hok hnd
      have cI : ∀ dr os, Calls Try.prog 43 #[.agg #[.int .i64 f, .int .i64 u], .int .i64 d] (grow (redrawn w2 dr) os) fun e w'' => e = .returned (.bool false) ∧ ∃ p : Regrown, w'' = grow (redrawn w2 p.d) p.os := fun _ os => Calls.regrown_of (in_at h4 _)
      have cJ : ∀ dr os, Calls Try.prog 43 #[.agg #[.int .i64 r, .int .i64 s], .int .i64 d] (grow (redrawn w2 dr) os) fun e w'' => e = .returned (.bool true) ∧ ∃ p : Regrown, w'' = grow (redrawn w2 p.d) p.os := fun _ os => Calls.regrown_of (in_at (show inn r s d = true by rw [hir'.out, h4]; rfl) _)
      clear h4
      go_wp2_with fail
      refine wp_region_quiet_below (by kernel_rfl) (by kernel_rfl) ?_
      repeat ((with_reducible refine wpQuiet_step ?_); (with_reducible intro K hK); go_simp; first | (refine hK _ ?_; clear hK K) | (apply Exists.intro; refine ⟨fun _ => ?_, hK _ ?_⟩; (first | with_reducible exact cI _ _ | with_reducible exact cJ _ _ | with_reducible exact cN _ _ | with_reducible exact cM _ _ | with_reducible exact cA _ _); clear hK K))
      refine wpQuiet_nil ?_
      intro _ hw'
      obtain ⟨⟨dq, osq⟩, hw''⟩ := hw'
      subst hw''
      go_wp2
      go_ret
      exact ⟨ret_bool (by first | rfl | decide), hB.out.trans ((below_regrown w2 dq osq).mono hB.out.size)⟩
end Cal
end Go.Proofs.Ytmmekdkllccmdaa
