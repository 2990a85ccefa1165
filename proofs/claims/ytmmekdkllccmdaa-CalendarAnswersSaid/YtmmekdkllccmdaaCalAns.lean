/-
  CalendarAnswers: the walk.
-/
import Derived.Test.YtmmekdkllccmdaaCalLawsC
import Derived.Test.YtmmekdkllccmdaaCalLawsE
import Derived.Test.YtmmekdkllccmdaaKeep
namespace Go.Proofs.Ytmmekdkllccmdaa
open Go.RowKit Go.Sort
set_option linter.unusedVariables false
namespace Cal
def I64 (x : Int) : Prop := -9223372036854775808 ≤ x ∧ x ≤ 9223372036854775807

theorem rin_at {f u d : Int} {c : Bool} (h : inn f u d = c) (W : World) : Calls Try.prog 50 #[.agg #[.int .i64 f, .int .i64 u], .int .i64 d] W fun e w' => e = .returned (.bool c) ∧ Below W.heap.size W w' := by
  subst h; exact rin_any f u d W
theorem rdays_at {f u c : Int} (h : dys f u = c) (W : World) : Calls Try.prog 51 #[.agg #[.int .i64 f, .int .i64 u]] W fun e w' => e = .returned (.int .i64 c) ∧ Below W.heap.size W w' := by
  subst h; exact rdays_any f u W
theorem blk_cells2 {w : World} {b : Nat} {v0 v1 : Value} {t : TypeId} (h : w.heap[b]? = some (.cells #[v0, v1] t (0, 0))) :
    w.cell? ⟨b, 0, none⟩ = some v0 ∧ w.cell? ⟨b, 1, none⟩ = some v1 ∧ w.frozen? ⟨b, 0, none⟩ = false ∧ w.frozen? ⟨b, 1, none⟩ = false := by
  refine ⟨?_, ?_, ?_, ?_⟩
  · rw [cell_of_row _ _ _ _ _ _ h]; rfl
  · rw [cell_of_row _ _ _ _ _ _ h]; rfl
  · simp [World.frozen?, h]
  · simp [World.frozen?, h]

set_option maxRecDepth 100000 in
set_option maxHeartbeats 20000000 in
theorem walk_answers (a b f u : Int) (ad : Option Addr) (cap : Nat) (zs : List Int) (ad2 : Option Addr) (len2 cap2 : Nat) (w : World) (ha : I64 a) (hb : I64 b) (hzl : zs.length ≤ 9223372036854775807) (hz : Seq.Ints w.heap.size w ad zs) (ht : Keep.IntsAt w ad2 len2 cap2) :
    Calls Try.prog 11 #[.int .i64 a, .int .i64 b, .agg #[.int .i64 f, .int .i64 u], .slice ad zs.length cap, .slice ad2 len2 cap2] w fun e w' => e = .returned (.bool true) ∧ Below w.heap.size w w' := by
  have hbox := Lib.hid (cells_box2 (w := w) (v0 := .int .i64 f) (v1 := .int .i64 u) (t := 61))
  have hB0 := Lib.hid ((Below.refl w.heap.size w).alloc (Nat.le_refl _) (.cells #[.int .i64 f, .int .i64 u] 61))
  have hz' := Lib.hid hz
  have ht' := Lib.hid ht
  clear hz ht
  go_enter Try.func11, Try.ntmps11
  go_wp2_with fail
  · refine (awake_any _).mono ?_
    rintro e w1 ⟨rfl, hb1⟩
    have hB1 := Lib.hid (hB0.out.trans (hb1.mono hB0.out.size))
    clear hb1
    go_wp2
    go_ret
    exact ⟨rfl, hB1.out⟩
  · have hk0 := heap_alloc_new w (.cells #[.int .i64 f, .int .i64 u] 61)
    refine (Keep.new_tp _ _ _ w _ hB0.out (ht'.out.below fun k hk => ((Below.refl _ w).alloc (Nat.le_refl _) _).block k hk)).mono ?_
    rintro e w1 ⟨bt, rfl, hT, _, hb1⟩
    have hk1 := Keep.blk_below hk0 hb1
    have hne : w.heap.size ≠ bt := by
      intro h
      have h1 := hb1.block w.heap.size (by simp)
      obtain ⟨a1, l1, c1, t1, hx, _⟩ := hT.1
      rw [hk0, ← h] at *
      rw [h1] at hx
      simp at hx
    have hkk := Lib.hid hk1
    have hTT := Lib.hid hT
    clear hk0 hk1 hb1 hT hbox hB0 ht'
    go_wp2_with fail
    refine (Keep.next_tp _ (by omega) _ hTT.out).mono ?_
    rintro e w2 ⟨r1, rfl, r10, r11, hT, g1⟩
    have hk2 := Lib.hid (Keep.blk_grown hkk.out g1 hne)
    have hT2 := Lib.hid hT
    clear g1 hT
    go_wp2_with fail
    refine (Keep.next_tp _ (by omega) _ hT2.out).mono ?_
    rintro e w3 ⟨r2, rfl, r20, r21, hT, g2⟩
    have hk3 := Lib.hid (Keep.blk_grown hk2.out g2 hne)
    have hB3 := Lib.hid hT.2.1
    clear g2 hT hTT hkk hk2 hT2 hne
    have m1 := Keep.md_bd a 105
    have m2 := Keep.md_bd b 370
    have m3 := Keep.md_bd a 37000
    have m4 := Keep.md_bd b 400
    go_wp2_with (go_at_call 25; refine (Keep.mod_any _ _ (by omega) _).mono ?_; rintro e w' ⟨rfl, rfl⟩)
    obtain ⟨W0, hW0⟩ : ∃ W0, W0 = ((w3.alloc (.cells #[.int .i64 (r1 - 1), .int .i64 (r2 - 1)] 61)).alloc (.cells #[.int .i64 a, .int .i64 b, .int .i64 (Keep.md a 105), .int .i64 (Keep.md b 370), .int .i64 (Keep.md a 37000), .int .i64 (Keep.md a 37000 + Keep.md b 400)] 67)) := ⟨_, rfl⟩
    rw [← hW0]
    have hbv : W0.heap[w3.heap.size]? = some (.cells #[.int .i64 (r1 - 1), .int .i64 (r2 - 1)] 61 (0, 0)) := by
      rw [hW0]; exact Keep.blk_below (heap_alloc_new w3 _) ((Below.refl _ _).alloc (Nat.le_refl _) _)
    have hbr : W0.heap[w3.heap.size + 1]? = some (.cells #[.int .i64 a, .int .i64 b, .int .i64 (Keep.md a 105), .int .i64 (Keep.md b 370), .int .i64 (Keep.md a 37000), .int .i64 (Keep.md a 37000 + Keep.md b 400)] 67 (0, 0)) := by
      rw [hW0, show w3.heap.size + 1 = (w3.alloc (.cells #[.int .i64 (r1 - 1), .int .i64 (r2 - 1)] 61)).heap.size by simp]; exact heap_alloc_new _ _
    have hB30 : Below w3.heap.size w3 W0 := by
      rw [hW0]; exact ((Below.refl _ w3).alloc (Nat.le_refl _) _).alloc (by simp) _
    have hbp := Keep.blk_below hk3.out hB30
    have hBW := Lib.hid (hB3.out.trans (hB30.mono hB3.out.size))
    have hzW := Lib.hid (ints_later hz'.out hBW.out)
    obtain ⟨bv, hbvn⟩ : ∃ bv, w3.heap.size = bv := ⟨_, rfl⟩
    obtain ⟨bp, hbpn⟩ : ∃ bp, w.heap.size = bp := ⟨_, rfl⟩
    rw [hbvn] at hbv hbr ⊢
    rw [hbpn] at hbp ⊢
    obtain ⟨g, hg⟩ : ∃ g, r1 - 1 = g := ⟨_, rfl⟩
    obtain ⟨h, hh⟩ : ∃ g, r2 - 1 = g := ⟨_, rfl⟩
    rw [hg, hh] at hbv
    have hbv' := Lib.hid hbv
    have hbr' := Lib.hid hbr
    have hbp' := Lib.hid hbp
    obtain ⟨x1, hx1⟩ : ∃ x, Keep.md a 105 = x := ⟨_, rfl⟩
    obtain ⟨x2, hx2⟩ : ∃ x, Keep.md b 370 = x := ⟨_, rfl⟩
    obtain ⟨x3, hx3⟩ : ∃ x, Keep.md a 37000 = x := ⟨_, rfl⟩
    obtain ⟨x4, hx4⟩ : ∃ x, Keep.md b 400 = x := ⟨_, rfl⟩
    rw [hx1, hx2, hx3, hx4] at hbr' ⊢
    rw [hx1] at m1
    rw [hx2] at m2
    rw [hx3] at m3
    rw [hx4] at m4
    have hpq : ∀ k : Nat, k < 3 → ∃ p q, I64 p ∧ I64 q ∧ W0.cell? ⟨bv + 1, k * 2, none⟩ = some (.int .i64 p) ∧ W0.cell? ⟨bv + 1, k * 2 + 1, none⟩ = some (.int .i64 q) := by
      intro k hk
      have hr := hbr'.out
      match k, hk with
      | 0, _ => exact ⟨a, b, ha, hb, by rw [cell_of_row _ _ _ _ _ _ hr]; rfl, by rw [cell_of_row _ _ _ _ _ _ hr]; rfl⟩
      | 1, _ => exact ⟨x1, x2, by unfold I64; omega, by unfold I64; omega, by rw [cell_of_row _ _ _ _ _ _ hr]; rfl, by rw [cell_of_row _ _ _ _ _ _ hr]; rfl⟩
      | 2, _ => exact ⟨x3, x3 + x4, by unfold I64; omega, by unfold I64; omega, by rw [cell_of_row _ _ _ _ _ _ hr]; rfl, by rw [cell_of_row _ _ _ _ _ _ hr]; rfl⟩
    have hpq' := Lib.hid hpq
    clear hW0 hbr hbr' hB30 hbv hbp hk3 hB3 hz' hx1 hx2 hx3 hx4 m1 m2 m3 m4 hg hh hbvn hpq
    go_loopw [68] (fun x wr => ∃ k : Nat, k ≤ 3 ∧ x = .int .i64 k ∧ Below W0.heap.size W0 wr) (fun x _ => 3 - (intOf x).toNat)
    case atStart => exact ⟨0, by omega, rfl, Below.refl _ _⟩
    case round =>
      obtain ⟨k, hk, rfl, hbw⟩ := hrel
      by_cases hlt : k < 3
      · obtain ⟨p, q, hp, hq, cp, cq⟩ := hpq'.out k hlt
        replace cp := cell_later cp hbw
        replace cq := cell_later cq hbw
        have hbw' := Lib.hid hbw
        clear hbw
        obtain ⟨d, hd⟩ : ∃ d, IntKind.i64.wrap (q - p) = d := ⟨_, rfl⟩
        have hx0 := heap_alloc_new wr (.cells #[.int .i64 p, .int .i64 q] 67)
        have hbx := (Below.refl wr.heap.size wr).alloc (Nat.le_refl _) (.cells #[.int .i64 p, .int .i64 q] 67)
        have hzx := Lib.hid (ints_later hzW.out (hbw'.out.trans (hbx.mono hbw'.out.size)))
        have hbx' := Lib.hid hbx
        have hx0' := Lib.hid hx0
        obtain ⟨Vw, hVw⟩ : ∃ v, wkV zs p q = v := ⟨_, rfl⟩
        obtain ⟨Ve, hVe⟩ : ∃ v, wkE p q zs.length = v := ⟨_, rfl⟩
        have hV := Lib.hid (And.intro hVw hVe)
        have hmid : ∃ Wq : World, True := ⟨wr, trivial⟩
        clear hbx hx0 hVw hVe hmid
        have hcase : d < 2000 ∨ (¬ d < 2000 ∧ p < 0) ∨ (¬ d < 2000 ∧ ¬ p < 0) := by omega
        go_upto_region 16 with (first | (go_at_call 41; refine (day_any _ _ _).mono ?_; rintro e w' ⟨rfl, rfl⟩) | (go_at_call 45; refine (rday_any _ _ _).mono ?_; rintro e w' ⟨rfl, rfl⟩) | (go_at_call 39; refine (year_any _ _).mono ?_; rintro e w' ⟨rfl, rfl⟩) | (go_at_call 46; refine (ryear_any _ _).mono ?_; rintro e w' ⟨rfl, rfl⟩) | (go_at_call 40; refine (place_any _ _).mono ?_; rintro e w' ⟨rfl, rfl⟩) | (go_at_call 47; refine (rplace_any _ _).mono ?_; rintro e w' ⟨rfl, rfl⟩))
        have hcells := Lib.hid (show ∀ wq : World, Below wr.heap.size wr wq → wq.cell? ⟨bp, 0, none⟩ = some (.int .i64 f) ∧ wq.cell? ⟨bp, 1, none⟩ = some (.int .i64 u) ∧ wq.cell? ⟨bv, 0, none⟩ = some (.int .i64 g) ∧ wq.cell? ⟨bv, 1, none⟩ = some (.int .i64 h) from fun wq hb =>
          have h1 := blk_cells2 (Keep.blk_below (Keep.blk_below hbp'.out hbw'.out) hb)
          have h2 := blk_cells2 (Keep.blk_below (Keep.blk_below hbv'.out hbw'.out) hb)
          ⟨h1.1, h1.2.1, h2.1, h2.2.1⟩)
        rcases hcase with hd1 | ⟨hd1, hd2⟩ | ⟨hd1, hd2⟩
        rotate_left 2
        · obtain ⟨f0, f1, f2, f3⟩ := hcells.out _ hbx'.out
          go_wp2_with fail
          obtain ⟨W1, hW1⟩ : ∃ W1, W1 = (wr.alloc (.cells #[.int .i64 p, .int .i64 q] 67)).alloc (.cells #[.int .i64 f, .int .i64 u, .int .i64 g, .int .i64 h] 61) := ⟨_, rfl⟩
          have hx1 := Keep.blk_below hx0'.out ((Below.refl _ _).alloc (Nat.le_refl _) (.cells #[.int .i64 f, .int .i64 u, .int .i64 g, .int .i64 h] 61))
          have hr1 := heap_alloc_new (wr.alloc (.cells #[.int .i64 p, .int .i64 q] 67)) (.cells #[.int .i64 f, .int .i64 u, .int .i64 g, .int .i64 h] 61)
          have hb1 := hbx'.out.alloc hbx'.out.size (.cells #[.int .i64 f, .int .i64 u, .int .i64 g, .int .i64 h] 61)
          rw [show (wr.alloc (.cells #[.int .i64 p, .int .i64 q] 67)).heap.size = wr.heap.size + 1 by simp] at hr1
          rw [← hW1] at hx1 hr1 hb1 ⊢
          obtain ⟨br, hbr⟩ : ∃ br, wr.heap.size + 1 = br := ⟨_, rfl⟩
          rw [hbr] at hr1 ⊢
          clear hW1 hbr f0 f1 f2 f3
          have hx1' := Lib.hid hx1
          have hr1' := Lib.hid hr1
          have hb1' := Lib.hid hb1
          clear hx1 hr1 hb1
          go_loopw [181] (fun x wi => ∃ j : Nat, j ≤ 2 ∧ x = .int .i64 j ∧ Below W1.heap.size W1 wi) (fun x _ => 2 - (intOf x).toNat)
          case atStart => exact ⟨0, by omega, rfl, Below.refl _ _⟩
          case round =>
            obtain ⟨j, hj, rfl, hbi⟩ := hrel
            by_cases hjl : j < 2
            · obtain ⟨F, U, cF, cU⟩ : ∃ F U, wr.cell? ⟨br, j * 2, none⟩ = some (.int .i64 F) ∧ wr.cell? ⟨br, j * 2 + 1, none⟩ = some (.int .i64 U) := by
                have hr := Keep.blk_below hr1'.out hbi
                match j, hjl with
                | 0, _ => exact ⟨f, u, by rw [cell_of_row _ _ _ _ _ _ hr]; rfl, by rw [cell_of_row _ _ _ _ _ _ hr]; rfl⟩
                | 1, _ => exact ⟨g, h, by rw [cell_of_row _ _ _ _ _ _ hr]; rfl, by rw [cell_of_row _ _ _ _ _ _ hr]; rfl⟩
              have hxi := Keep.blk_below hx1'.out hbi
              obtain ⟨cp, cq, _, _⟩ := blk_cells2 hxi
              have hbi' := Lib.hid hbi
              have hwn := Lib.hid (heap_alloc_new wr (.cells #[.int .i64 F, .int .i64 U] 61))
              have hwb := Lib.hid ((Below.refl wr.heap.size wr).alloc (Nat.le_refl _) (.cells #[.int .i64 F, .int .i64 U] 61))
              have hxi' := Lib.hid (Keep.blk_below hxi hwb.out)
              obtain ⟨cpx, cqx, _, _⟩ := blk_cells2 hxi'.out
              clear hbi hxi
              obtain ⟨T, hT⟩ : ∃ T, nxt F U p = T := ⟨_, rfl⟩
              obtain ⟨c, hc⟩ : ∃ c, inn F U p = c := ⟨_, rfl⟩
              obtain ⟨n, hn⟩ : ∃ n, dys F U = n := ⟨_, rfl⟩
              obtain ⟨Tv, Tb⟩ := T
              have hAll := Lib.hid (And.intro hT (And.intro hc hn))
              clear hT hc hn
              go_wp2_with fail
              refine (next_any F U p _).mono ?_
              rw [hAll.out.1]
              rintro e w6 ⟨rfl, hb6⟩
              replace hwn := Lib.hid (Keep.blk_below hwn.out hb6)
              replace hxi' := Lib.hid (Keep.blk_below hxi'.out hb6)
              replace hwb := Lib.hid (hwb.out.trans (hb6.mono hwb.out.size))
              obtain ⟨c0, c1, _, _⟩ := blk_cells2 hwn.out
              obtain ⟨c2, c3, _, _⟩ := blk_cells2 hxi'.out
              clear hb6
              go_wp2_with fail
              refine (rnext_any F U p _).mono ?_
              rw [hAll.out.1]
              rintro e w7 ⟨rfl, hb7⟩
              replace hwb := Lib.hid (hwb.out.trans (hb7.mono hwb.out.size))
              replace c0 := cell_later c0 hb7
              replace c1 := cell_later c1 hb7
              replace c2 := cell_later c2 hb7
              replace c3 := cell_later c3 hb7
              clear hb7
              go_wp2_with fail
              have k0 := cell_regrown c0
              have k1 := cell_regrown c1
              have k2 := cell_regrown c2
              have k3 := cell_regrown c3
              have cI : ∀ dr os, Calls Try.prog 43 #[.agg #[.int .i64 F, .int .i64 U], .int .i64 p] (grow (redrawn w7 dr) os) fun e w'' => e = .returned (.bool c) ∧ ∃ p : Regrown, w'' = grow (redrawn w7 p.d) p.os := fun _ os => Calls.regrown_of (in_at hAll.out.2.1 _)
              have cJ : ∀ dr os, Calls Try.prog 50 #[.agg #[.int .i64 F, .int .i64 U], .int .i64 p] (grow (redrawn w7 dr) os) fun e w'' => e = .returned (.bool c) ∧ ∃ p : Regrown, w'' = grow (redrawn w7 p.d) p.os := fun _ os => Calls.regrown_of (rin_at hAll.out.2.1 _)
              have cN : ∀ dr os, Calls Try.prog 42 #[.agg #[.int .i64 F, .int .i64 U]] (grow (redrawn w7 dr) os) fun e w'' => e = .returned (.int .i64 n) ∧ ∃ p : Regrown, w'' = grow (redrawn w7 p.d) p.os := fun _ os => Calls.regrown_of (days_at hAll.out.2.2 _)
              have cM : ∀ dr os, Calls Try.prog 51 #[.agg #[.int .i64 F, .int .i64 U]] (grow (redrawn w7 dr) os) fun e w'' => e = .returned (.int .i64 n) ∧ ∃ p : Regrown, w'' = grow (redrawn w7 p.d) p.os := fun _ os => Calls.regrown_of (rdays_at hAll.out.2.2 _)
              refine wp_region_quiet_below (by kernel_rfl) (by kernel_rfl) ?_
              repeat ((with_reducible refine wpQuiet_step ?_); (with_reducible intro K hK); go_simp; first | (refine hK _ ?_; clear hK K) | (apply Exists.intro; refine ⟨fun _ => ?_, hK _ ?_⟩; (first | with_reducible exact cI _ _ | with_reducible exact cJ _ _ | with_reducible exact cN _ _ | with_reducible exact cM _ _); clear hK K))
              refine wpQuiet_nil ?_
              intro _ hw'
              obtain ⟨⟨dq, osq⟩, hw''⟩ := hw'
              subst hw''
              have hbe := Lib.hid (hbi'.out.trans ((hwb.out.trans ((below_regrown w7 dq osq).mono hwb.out.size)).mono hbi'.out.size))
              clear k0 k1 k2 k3 cI cJ cN cM c0 c1 c2 c3
              go_wp2
              go_roundw
              case rel => exact ⟨j + 1, by omega, by go_num, hbe.out⟩
              case measure => simp [intOf]; omega
            · have hj2 : j = 2 := by omega
              subst hj2
              have hbe := Lib.hid (hbw'.out.trans ((hb1'.out.trans (hbi.mono hb1'.out.size)).mono hbw'.out.size))
              clear hbi
              go_wp2
              go_roundw
              case rel => exact ⟨k + 1, by omega, by go_num, hbe.out⟩
              case measure => simp [intOf]; omega
        all_goals
          go_wp2_with fail
          refine (working_any p q zs ad cap _ hzl hzx.out).mono ?_
          rw [hV.out.1, hV.out.2]
          rintro e w4 ⟨rfl, hb4⟩
          have hz4 := Lib.hid (ints_later hzx.out hb4)
          have hx4 := Lib.hid (Keep.blk_below hx0'.out hb4)
          obtain ⟨cp4, cq4, _, _⟩ := blk_cells2 hx4.out
          have hbq4 := Lib.hid (hbx'.out.trans (hb4.mono hbx'.out.size))
          clear hb4
          go_wp2_with fail
          refine (rworking_any p q zs ad cap _ hzl hz4.out).mono ?_
          rw [hV.out.1, hV.out.2]
          rintro e wq ⟨rfl, hb5⟩
          have hxq := Lib.hid (Keep.blk_below hx4.out hb5)
          have hbq := Lib.hid (hbq4.out.trans (hb5.mono hbq4.out.size))
          clear hb5 cp4 cq4 hbq4 hx4 hz4
          obtain ⟨f0, f1, f2, f3⟩ := hcells.out _ hbq.out
          go_wp2_with fail
          obtain ⟨W1, hW1⟩ : ∃ W1, W1 = wq.alloc (.cells #[.int .i64 f, .int .i64 u, .int .i64 g, .int .i64 h] 61) := ⟨_, rfl⟩
          have hx1 := Keep.blk_below hxq.out ((Below.refl _ _).alloc (Nat.le_refl _) (.cells #[.int .i64 f, .int .i64 u, .int .i64 g, .int .i64 h] 61))
          have hr1 := heap_alloc_new wq (.cells #[.int .i64 f, .int .i64 u, .int .i64 g, .int .i64 h] 61)
          have hb1 := hbq.out.alloc hbq.out.size (.cells #[.int .i64 f, .int .i64 u, .int .i64 g, .int .i64 h] 61)
          rw [← hW1] at hx1 hr1 hb1 ⊢
          obtain ⟨br, hbr⟩ : ∃ br, wq.heap.size = br := ⟨_, rfl⟩
          rw [hbr] at hr1 ⊢
          clear hW1 hbr f0 f1 f2 f3
          have hx1' := Lib.hid hx1
          have hr1' := Lib.hid hr1
          have hb1' := Lib.hid hb1
          clear hx1 hr1 hb1
          go_loopw [181] (fun x wi => ∃ j : Nat, j ≤ 2 ∧ x = .int .i64 j ∧ Below W1.heap.size W1 wi) (fun x _ => 2 - (intOf x).toNat)
          case atStart => exact ⟨0, by omega, rfl, Below.refl _ _⟩
          case round =>
            obtain ⟨j, hj, rfl, hbi⟩ := hrel
            by_cases hjl : j < 2
            · obtain ⟨F, U, cF, cU⟩ : ∃ F U, wr.cell? ⟨br, j * 2, none⟩ = some (.int .i64 F) ∧ wr.cell? ⟨br, j * 2 + 1, none⟩ = some (.int .i64 U) := by
                have hr := Keep.blk_below hr1'.out hbi
                match j, hjl with
                | 0, _ => exact ⟨f, u, by rw [cell_of_row _ _ _ _ _ _ hr]; rfl, by rw [cell_of_row _ _ _ _ _ _ hr]; rfl⟩
                | 1, _ => exact ⟨g, h, by rw [cell_of_row _ _ _ _ _ _ hr]; rfl, by rw [cell_of_row _ _ _ _ _ _ hr]; rfl⟩
              have hxi := Keep.blk_below hx1'.out hbi
              obtain ⟨cp, cq, _, _⟩ := blk_cells2 hxi
              have hbi' := Lib.hid hbi
              have hwn := Lib.hid (heap_alloc_new wr (.cells #[.int .i64 F, .int .i64 U] 61))
              have hwb := Lib.hid ((Below.refl wr.heap.size wr).alloc (Nat.le_refl _) (.cells #[.int .i64 F, .int .i64 U] 61))
              have hxi' := Lib.hid (Keep.blk_below hxi hwb.out)
              obtain ⟨cpx, cqx, _, _⟩ := blk_cells2 hxi'.out
              clear hbi hxi
              obtain ⟨T, hT⟩ : ∃ T, nxt F U p = T := ⟨_, rfl⟩
              obtain ⟨c, hc⟩ : ∃ c, inn F U p = c := ⟨_, rfl⟩
              obtain ⟨n, hn⟩ : ∃ n, dys F U = n := ⟨_, rfl⟩
              obtain ⟨Tv, Tb⟩ := T
              have hAll := Lib.hid (And.intro hT (And.intro hc hn))
              clear hT hc hn
              go_wp2_with fail
              refine (next_any F U p _).mono ?_
              rw [hAll.out.1]
              rintro e w6 ⟨rfl, hb6⟩
              replace hwn := Lib.hid (Keep.blk_below hwn.out hb6)
              replace hxi' := Lib.hid (Keep.blk_below hxi'.out hb6)
              replace hwb := Lib.hid (hwb.out.trans (hb6.mono hwb.out.size))
              obtain ⟨c0, c1, _, _⟩ := blk_cells2 hwn.out
              obtain ⟨c2, c3, _, _⟩ := blk_cells2 hxi'.out
              clear hb6
              go_wp2_with fail
              refine (rnext_any F U p _).mono ?_
              rw [hAll.out.1]
              rintro e w7 ⟨rfl, hb7⟩
              replace hwb := Lib.hid (hwb.out.trans (hb7.mono hwb.out.size))
              replace c0 := cell_later c0 hb7
              replace c1 := cell_later c1 hb7
              replace c2 := cell_later c2 hb7
              replace c3 := cell_later c3 hb7
              clear hb7
              go_wp2_with fail
              have k0 := cell_regrown c0
              have k1 := cell_regrown c1
              have k2 := cell_regrown c2
              have k3 := cell_regrown c3
              have cI : ∀ dr os, Calls Try.prog 43 #[.agg #[.int .i64 F, .int .i64 U], .int .i64 p] (grow (redrawn w7 dr) os) fun e w'' => e = .returned (.bool c) ∧ ∃ p : Regrown, w'' = grow (redrawn w7 p.d) p.os := fun _ os => Calls.regrown_of (in_at hAll.out.2.1 _)
              have cJ : ∀ dr os, Calls Try.prog 50 #[.agg #[.int .i64 F, .int .i64 U], .int .i64 p] (grow (redrawn w7 dr) os) fun e w'' => e = .returned (.bool c) ∧ ∃ p : Regrown, w'' = grow (redrawn w7 p.d) p.os := fun _ os => Calls.regrown_of (rin_at hAll.out.2.1 _)
              have cN : ∀ dr os, Calls Try.prog 42 #[.agg #[.int .i64 F, .int .i64 U]] (grow (redrawn w7 dr) os) fun e w'' => e = .returned (.int .i64 n) ∧ ∃ p : Regrown, w'' = grow (redrawn w7 p.d) p.os := fun _ os => Calls.regrown_of (days_at hAll.out.2.2 _)
              have cM : ∀ dr os, Calls Try.prog 51 #[.agg #[.int .i64 F, .int .i64 U]] (grow (redrawn w7 dr) os) fun e w'' => e = .returned (.int .i64 n) ∧ ∃ p : Regrown, w'' = grow (redrawn w7 p.d) p.os := fun _ os => Calls.regrown_of (rdays_at hAll.out.2.2 _)
              refine wp_region_quiet_below (by kernel_rfl) (by kernel_rfl) ?_
              repeat ((with_reducible refine wpQuiet_step ?_); (with_reducible intro K hK); go_simp; first | (refine hK _ ?_; clear hK K) | (apply Exists.intro; refine ⟨fun _ => ?_, hK _ ?_⟩; (first | with_reducible exact cI _ _ | with_reducible exact cJ _ _ | with_reducible exact cN _ _ | with_reducible exact cM _ _); clear hK K))
              refine wpQuiet_nil ?_
              intro _ hw'
              obtain ⟨⟨dq, osq⟩, hw''⟩ := hw'
              subst hw''
              have hbe := Lib.hid (hbi'.out.trans ((hwb.out.trans ((below_regrown w7 dq osq).mono hwb.out.size)).mono hbi'.out.size))
              clear k0 k1 k2 k3 cI cJ cN cM c0 c1 c2 c3
              go_wp2
              go_roundw
              case rel => exact ⟨j + 1, by omega, by go_num, hbe.out⟩
              case measure => simp [intOf]; omega
            · have hj2 : j = 2 := by omega
              subst hj2
              have hbe := Lib.hid (hbw'.out.trans ((hb1'.out.trans (hbi.mono hb1'.out.size)).mono hbw'.out.size))
              clear hbi
              go_wp2
              go_roundw
              case rel => exact ⟨k + 1, by omega, by go_num, hbe.out⟩
              case measure => simp [intOf]; omega
      · have hk3 : k = 3 := by omega
        subst hk3
        have hBk := Lib.hid (hBW.out.trans (hbw.mono hBW.out.size))
        clear hbw
        go_wp2_with fail
        refine (awake_any _).mono ?_
        rintro e w9 ⟨rfl, hb9⟩
        have hB9 := Lib.hid (hBk.out.trans (hb9.mono hBk.out.size))
        clear hb9
        go_wp2
        go_ret
        exact ⟨rfl, hB9.out⟩
end Cal
end Go.Proofs.Ytmmekdkllccmdaa
