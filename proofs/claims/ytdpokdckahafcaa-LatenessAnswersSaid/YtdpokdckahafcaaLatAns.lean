/-
  LatenessAnswers: the walk.
-/
import Derived.Test.YtdpokdckahafcaaLatLaws
import Derived.Deep.DeepCutAuto
import Derived.Deep.CutBlock
import Derived.Deep.RegionHeld3
import Derived.Lib.QuietBelow
import Derived.Lib.SmallJoins
namespace Go.Proofs.Ytdpokdckahafcaa
open Go.RowKit Go.Sort
set_option linter.unusedVariables false
namespace Lat
def I64 (x : Int) : Prop := -9223372036854775808 ≤ x ∧ x ≤ 9223372036854775807

set_option maxHeartbeats 400000 in
theorem ldays_any (a b : Int) (w : World) : Calls Try.prog 14 #[.int .i64 a, .int .i64 b] w fun e w' => e = .returned (.int .i64 (dys a b)) ∧ w = w' := by
  have h : a < 0 ∨ (0 ≤ a ∧ 36864 < b) ∨ (0 ≤ a ∧ b ≤ 36864 ∧ b ≤ a) ∨ (0 ≤ a ∧ b ≤ 36864 ∧ a < b) := by omega
  rcases h with h | ⟨h, h2⟩ | ⟨h, h2, h3⟩ | ⟨h, h2, h3⟩
  · rw [show dys a b = 0 by unfold dys; rw [if_neg (by omega)]]
    go_enter Try.func14, Try.ntmps14
    go_wp2
    go_ret
    exact ⟨rfl, rfl⟩
  · rw [show dys a b = 0 by unfold dys; rw [if_neg (by omega)]]
    go_enter Try.func14, Try.ntmps14
    go_wp2
    go_ret
    exact ⟨rfl, rfl⟩
  · rw [show dys a b = 0 by unfold dys; rw [if_neg (by omega)]]
    go_enter Try.func14, Try.ntmps14
    go_wp2
    go_ret
    exact ⟨rfl, rfl⟩
  · have h4 : ¬ b ≤ a := by omega
    go_enter Try.func14, Try.ntmps14
    go_wp2_with (go_at_call 13; refine (rdays_any _ _ _).mono ?_; rintro e w' ⟨rfl, rfl⟩)
    go_ret
    exact ⟨rfl, rfl⟩

/-- Behind the switch: three laws lie in memory, the second one with one thing changed perhaps. -/
def OddAt (w : World) (bp bl : Nat) (q0 q1 q2 due last mille : Int) (W : World) : Prop :=
  Below w.heap.size w W ∧ W.heap[bp]? = some (.cells #[.int .i64 q0, .int .i64 q1, .int .i64 q2] 24 (0, 0)) ∧ W.heap[bl]? = some (.cells #[.int .i64 due, .int .i64 last, .int .i64 mille] 24 (0, 0)) ∧
    ∃ o0 o1 o2 : Int, W.heap[bl + 1]? = some (.cells #[.int .i64 o0, .int .i64 o1, .int .i64 o2] 24 (0, 0))

theorem odd_set {w W : World} {bp bl o : Nat} {q0 q1 q2 due last mille a0 a1 a2 : Int} {v : Value} {o0 o1 o2 : Int} (hv : (#[Value.int .i64 a0, .int .i64 a1, .int .i64 a2] : Array Value).setIfInBounds o v = #[.int .i64 o0, .int .i64 o1, .int .i64 o2]) (hB : Below w.heap.size w W) (hw : w.heap.size ≤ bl) (hp : bp < bl)
    (h1 : W.heap[bp]? = some (.cells #[.int .i64 q0, .int .i64 q1, .int .i64 q2] 24 (0, 0))) (h2 : W.heap[bl]? = some (.cells #[.int .i64 due, .int .i64 last, .int .i64 mille] 24 (0, 0))) (h3 : W.heap[bl + 1]? = some (.cells #[.int .i64 a0, .int .i64 a1, .int .i64 a2] 24 (0, 0))) :
    OddAt w bp bl q0 q1 q2 due last mille (W.setCell ⟨bl + 1, o, none⟩ v) := by
  refine ⟨hB.setCell (by simp; omega) v, ?_, ?_, o0, o1, o2, ?_⟩
  · rw [Below.heap_setCell _ _ _ _ (by simp; omega)]; exact h1
  · rw [Below.heap_setCell _ _ _ _ (by simp)]; exact h2
  · rw [Go.Joins.block_setCell h3 v, hv]
theorem chk_at {a b c n : Int} (h : chk a b c = n) (w : World) : Calls Try.prog 7 #[.agg #[.int .i64 a, .int .i64 b, .int .i64 c]] w fun e w' => e = .returned (.int .i64 n) ∧ Below w.heap.size w w' := by subst h; exact check_any a b c w
theorem rchk_at {a b c n : Int} (h : chk a b c = n) (w : World) : Calls Try.prog 8 #[.agg #[.int .i64 a, .int .i64 b, .int .i64 c]] w fun e w' => e = .returned (.int .i64 n) ∧ Below w.heap.size w w' := by subst h; exact rcheck_any a b c w
theorem cell_later {w w' : World} {p : Addr} {v : Value} (c : w.cell? p = some v) (hb : Below w.heap.size w w') : w'.cell? p = some v :=
  (hb.cell (World.block_lt_of_cell? w _ c)).trans c

set_option maxRecDepth 100000 in
set_option maxHeartbeats 20000000 in
theorem walk_answers (ad : Option Addr) (len cap : Nat) (q0 q1 q2 day tt amt : Int) (w : World) (hday : I64 day) (hto : I64 tt) (hamt : I64 amt) (ht : Keep.IntsAt w ad len cap) :
    Calls Try.prog 3 #[.slice ad len cap, .agg #[.int .i64 q0, .int .i64 q1, .int .i64 q2], .int .i64 day, .int .i64 tt, .int .i64 amt] w fun e w' => e = .returned (.bool true) ∧ Below w.heap.size w w' := by
  have hB0 := Lib.hid ((Below.refl w.heap.size w).alloc (Nat.le_refl _) (.cells #[.int .i64 q0, .int .i64 q1, .int .i64 q2] 24))
  have hk0 := Lib.hid (heap_alloc_new w (.cells #[.int .i64 q0, .int .i64 q1, .int .i64 q2] 24))
  have ht' := Lib.hid ht
  clear ht
  go_enter Try.func3, Try.ntmps3
  go_wp2_with fail
  refine (Keep.new_tp _ _ _ w _ hB0.out (ht'.out.below fun k hk => ((Below.refl _ w).alloc (Nat.le_refl _) _).block k hk)).mono ?_
  rintro e w1 ⟨bt, rfl, hT, _, hb1⟩
  have hk1 := Keep.blk_below hk0.out hb1
  have hne : w.heap.size ≠ bt := by
    intro h
    have h1 := hb1.block w.heap.size (by simp)
    obtain ⟨a1, l1, c1, t1, hx, _⟩ := hT.1
    rw [hk0.out, ← h] at *
    rw [h1] at hx
    simp at hx
  have hkk := Lib.hid hk1
  have hTT := Lib.hid hT
  clear hk0 hk1 hb1 hT hB0 ht'
  go_wp2_with fail
  refine (late_any _ hTT.out).mono ?_
  rintro e w2 ⟨due, last, mille, rfl, hl, hT, g1⟩
  have hk2 := Lib.hid (Keep.blk_grown hkk.out g1 hne)
  have hbt := hT.1.lt
  have hT2 := Lib.hid ((hT.next ((Below.refl _ _).alloc (Nat.le_refl _) (.cells #[.int .i64 due, .int .i64 last, .int .i64 mille] 24))).next ((Below.refl _ _).alloc (Nat.le_refl _) (.cells #[.int .i64 due, .int .i64 last, .int .i64 mille] 24)))
  clear g1 hT hTT hkk
  go_wp2_with fail
  obtain ⟨W2, hW2⟩ : ∃ W2, W2 = (w2.alloc (.cells #[.int .i64 due, .int .i64 last, .int .i64 mille] 24)).alloc (.cells #[.int .i64 due, .int .i64 last, .int .i64 mille] 24) := ⟨_, rfl⟩
  have hT3 := hT2.out
  have hl3 := Keep.blk_below (heap_alloc_new w2 (.cells #[.int .i64 due, .int .i64 last, .int .i64 mille] 24)) ((Below.refl _ _).alloc (Nat.le_refl _) (.cells #[.int .i64 due, .int .i64 last, .int .i64 mille] 24))
  have ho3 := heap_alloc_new (w2.alloc (.cells #[.int .i64 due, .int .i64 last, .int .i64 mille] 24)) (.cells #[.int .i64 due, .int .i64 last, .int .i64 mille] 24)
  have hp3 := Keep.blk_below (Keep.blk_below hk2.out ((Below.refl _ _).alloc (Nat.le_refl _) (.cells #[.int .i64 due, .int .i64 last, .int .i64 mille] 24))) ((Below.refl _ _).alloc (Nat.le_refl _) (.cells #[.int .i64 due, .int .i64 last, .int .i64 mille] 24))
  rw [show (w2.alloc (.cells #[.int .i64 due, .int .i64 last, .int .i64 mille] 24)).heap.size = w2.heap.size + 1 by simp] at ho3
  rw [← hW2] at hT3 hl3 ho3 hp3 ⊢
  have hplt : w.heap.size < w2.heap.size := (Array.getElem?_eq_some_iff.1 hk2.out).1
  obtain ⟨bp, hbp⟩ : ∃ b, w.heap.size = b := ⟨_, rfl⟩
  obtain ⟨bl, hbl⟩ : ∃ b, w2.heap.size = b := ⟨_, rfl⟩
  rw [hbl] at hl3 ho3 ⊢
  rw [hbl] at hplt hbt
  rw [hbp] at hp3 hne hplt ⊢
  refine (Keep.next_tp _ (by omega) _ hT3).mono ?_
  rintro e w3 ⟨r, rfl, r0, r1, hT, g2⟩
  have hl4 := Keep.blk_grown hl3 g2 (by omega)
  have ho4 := Keep.blk_grown ho3 g2 (by omega)
  have hp4 := Keep.blk_grown hp3 g2 hne
  have hB4 := Lib.hid hT.2.1
  obtain ⟨_, _, _, f0, f1, f2⟩ := Keep.blk_cells3 ho4
  have hl4' := Lib.hid hl4
  have ho4' := Lib.hid ho4
  have hp4' := Lib.hid hp4
  clear hW2 hT3 hl3 ho3 hp3 hl4 ho4 hp4 g2 hT hT2 hk2 hbl
  go_upto_block 0 with fail
  go_cut [] (OddAt w bp bl q0 q1 q2 due last mille)
  case first =>
    have hr : r = 1 ∨ r = 2 ∨ r = 3 ∨ (¬ r = 1 ∧ ¬ r = 2 ∧ ¬ r = 3) := by omega
    rcases hr with rfl | rfl | rfl | ⟨h1, h2, h3⟩
    · go_wp2_with fail
      go_meet
      exact odd_set rfl hB4.out (by omega) hplt hp4'.out hl4'.out ho4'.out
    · go_wp2_with fail
      go_meet
      exact odd_set rfl hB4.out (by omega) hplt hp4'.out hl4'.out ho4'.out
    · go_wp2_with fail
      go_meet
      exact odd_set rfl hB4.out (by omega) hplt hp4'.out hl4'.out ho4'.out
    · go_wp2_with fail
      go_meet
      exact ⟨hB4.out, hp4'.out, hl4'.out, _, _, _, ho4'.out⟩
  case rest =>
    obtain ⟨hB, hp, hl5, o0, o1, o2, ho⟩ := hcut
    obtain ⟨l0, l1, l2, l3, l4, l5⟩ := hl
    obtain ⟨c0, c1, c2, _, _, _⟩ := Keep.blk_cells3 hp
    obtain ⟨c3, c4, c5, _, _, _⟩ := Keep.blk_cells3 hl5
    obtain ⟨c6, c7, c8, _, _, _⟩ := Keep.blk_cells3 ho
    have hB5 := Lib.hid hB
    have hl6 := Lib.hid hl5
    clear hB hp hl5 ho hB4 hl4' ho4' hp4' f0 f1 f2 hne hbt hplt r0 r1
    go_wp2_with fail
    clear c0 c1 c2 c3 c4 c5 c6 c7 c8
    obtain ⟨br, hbr⟩ : ∃ b, wc.heap.size = b := ⟨_, rfl⟩
    obtain ⟨W0, hW0⟩ : ∃ W0, W0 = wc.alloc (.cells #[.int .i64 due, .int .i64 last, .int .i64 mille, .int .i64 o0, .int .i64 o1, .int .i64 o2, .int .i64 q0, .int .i64 q1, .int .i64 q2] 24) := ⟨_, rfl⟩
    have hr0 := heap_alloc_new wc (.cells #[.int .i64 due, .int .i64 last, .int .i64 mille, .int .i64 o0, .int .i64 o1, .int .i64 o2, .int .i64 q0, .int .i64 q1, .int .i64 q2] 24)
    have hb0 := (Below.refl wc.heap.size wc).alloc (Nat.le_refl _) (.cells #[.int .i64 due, .int .i64 last, .int .i64 mille, .int .i64 o0, .int .i64 o1, .int .i64 o2, .int .i64 q0, .int .i64 q1, .int .i64 q2] 24)
    rw [← hW0] at hr0 hb0 ⊢
    have hl7 := Lib.hid (Keep.blk_below hl6.out hb0)
    have hB6 := Lib.hid (hB5.out.trans (hb0.mono hB5.out.size))
    rw [hbr] at hr0 ⊢
    have hr0' := Lib.hid hr0
    clear hr0 hb0 hW0 hbr hB5 hl6
    have m1 := Keep.md_bd day 90
    have m2 := Keep.md_bd amt 100000
    go_loopw [51] (fun x wr => ∃ k : Nat, k ≤ 3 ∧ x = .int .i64 k ∧ Below W0.heap.size W0 wr) (fun x _ => 3 - (intOf x).toNat)
    case atStart => exact ⟨0, by omega, rfl, Below.refl _ _⟩
    case round =>
      obtain ⟨k, hk, rfl, hbw⟩ := hrel
      by_cases hlt : k < 3
      · obtain ⟨x0, x1, x2, e0, e1, e2⟩ : ∃ x0 x1 x2, wr.cell? ⟨br, k * 3, none⟩ = some (.int .i64 x0) ∧ wr.cell? ⟨br, k * 3 + 1, none⟩ = some (.int .i64 x1) ∧ wr.cell? ⟨br, k * 3 + 2, none⟩ = some (.int .i64 x2) := by
          have hr := Keep.blk_below hr0'.out hbw
          match k, hlt with
          | 0, _ => exact ⟨due, last, mille, by rw [cell_of_row _ _ _ _ _ _ hr]; rfl, by rw [cell_of_row _ _ _ _ _ _ hr]; rfl, by rw [cell_of_row _ _ _ _ _ _ hr]; rfl⟩
          | 1, _ => exact ⟨o0, o1, o2, by rw [cell_of_row _ _ _ _ _ _ hr]; rfl, by rw [cell_of_row _ _ _ _ _ _ hr]; rfl, by rw [cell_of_row _ _ _ _ _ _ hr]; rfl⟩
          | 2, _ => exact ⟨q0, q1, q2, by rw [cell_of_row _ _ _ _ _ _ hr]; rfl, by rw [cell_of_row _ _ _ _ _ _ hr]; rfl, by rw [cell_of_row _ _ _ _ _ _ hr]; rfl⟩
        have hbw' := Lib.hid hbw
        have hlr := Lib.hid (Keep.blk_below hl7.out hbw)
        clear hbw
        obtain ⟨W1, hW1⟩ : ∃ W1, W1 = wr.alloc (.cells #[.int .i64 x0, .int .i64 x1, .int .i64 x2] 24) := ⟨_, rfl⟩
        have hx1 := heap_alloc_new wr (.cells #[.int .i64 x0, .int .i64 x1, .int .i64 x2] 24)
        have hb1 := (Below.refl wr.heap.size wr).alloc (Nat.le_refl _) (.cells #[.int .i64 x0, .int .i64 x1, .int .i64 x2] 24)
        rw [← hW1] at hx1 hb1
        have hx1' := Lib.hid hx1
        have hb1' := Lib.hid hb1
        have hW1' := Lib.hid hW1
        clear hx1 hb1 hW1
        go_upto_region 14 with fail
        rw [← hW1'.out]
        clear e0 e1 e2
        obtain ⟨bx, hbx⟩ : ∃ b, wr.heap.size = b := ⟨_, rfl⟩
        have hx2 := hx1'.out
        rw [hbx] at hx2 ⊢
        obtain ⟨c0, c1, c2, _, _, _⟩ := Keep.blk_cells3 hx2
        obtain ⟨n, hn⟩ : ∃ n, chk x0 x1 x2 = n := ⟨_, rfl⟩
        have hn' := Lib.hid hn
        have hx2' := Lib.hid hx2
        have hbx' := Lib.hid hbx
        have k0 := cell_regrown c0
        have k1 := cell_regrown c1
        have k2 := cell_regrown c2
        have cI : ∀ dr os, Calls Try.prog 7 #[.agg #[.int .i64 x0, .int .i64 x1, .int .i64 x2]] (grow (redrawn W1 dr) os) fun e w'' => e = .returned (.int .i64 n) ∧ ∃ p : Regrown, w'' = grow (redrawn W1 p.d) p.os := fun _ os => Calls.regrown_of (chk_at hn'.out _)
        have cJ : ∀ dr os, Calls Try.prog 8 #[.agg #[.int .i64 x0, .int .i64 x1, .int .i64 x2]] (grow (redrawn W1 dr) os) fun e w'' => e = .returned (.int .i64 n) ∧ ∃ p : Regrown, w'' = grow (redrawn W1 p.d) p.os := fun _ os => Calls.regrown_of (rchk_at hn'.out _)
        clear hn hx2 hbx c0 c1 c2
        refine wp_region_quiet_below (by kernel_rfl) (by kernel_rfl) ?_
        repeat ((with_reducible refine wpQuiet_step ?_); (with_reducible intro K hK); go_simp; first | (refine hK _ ?_; clear hK K) | (apply Exists.intro; refine ⟨fun _ => ?_, hK _ ?_⟩; (first | with_reducible exact cI _ _ | with_reducible exact cJ _ _); clear hK K))
        refine wpQuiet_nil ?_
        intro W2 hw'
        obtain ⟨⟨dq, osq⟩, hw''⟩ := hw'
        have hb2 : Below W1.heap.size W1 W2 := by rw [hw'']; exact below_regrown W1 dq osq
        clear hw''
        have hx3 := Lib.hid (Keep.blk_below hx2'.out hb2)
        have hb3 := Lib.hid (hb1'.out.trans (hb2.mono hb1'.out.size))
        have hl8 := Lib.hid (Keep.blk_below hlr.out hb3.out)
        clear hb2 k0 k1 k2 cI cJ
        obtain ⟨c3, c4, c5, _, _, _⟩ := Keep.blk_cells3 hl8.out
        go_upto_region 16 with fail
        go_region_held3 (fun W' => W'.cell? ⟨bl, 0, none⟩ = some (.int .i64 due) ∧ W'.cell? ⟨bl, 1, none⟩ = some (.int .i64 last)) (go_keep) (first | (go_at_call 9; refine (Keep.mod_any _ _ (by omega) _).mono ?_; rintro e w' ⟨rfl, rfl⟩))
        clear c3 c4 c5
        obtain ⟨u0, hu0⟩ : ∃ e, Keep.md day 90 = e := ⟨_, rfl⟩
        obtain ⟨L1, hL1⟩ : ∃ e, IntKind.i64.wrap (last + 1) = e := ⟨_, rfl⟩
        rw [hu0, hL1]
        obtain ⟨W4, hW4⟩ : ∃ W, W = (W2.alloc (.cells #[.int .i64 day, .int .i64 u0, .int .i64 due, .int .i64 last, .int .i64 L1] 3)).drew := ⟨_, rfl⟩
        obtain ⟨bd, hbd⟩ : ∃ b, W2.heap.size = b := ⟨_, rfl⟩
        have hb6 : Below W2.heap.size W2 W4 := by rw [hW4]; exact ((Below.refl _ W2).alloc (Nat.le_refl _) _).drew
        have hr1 : W4.heap[bd]? = some (.cells #[.int .i64 day, .int .i64 u0, .int .i64 due, .int .i64 last, .int .i64 L1] 3 (0, 0)) := by
          rw [hW4, ← hbd]; exact heap_alloc_new W2 (.cells #[.int .i64 day, .int .i64 u0, .int .i64 due, .int .i64 last, .int .i64 L1] 3)
        have hx6 := Lib.hid (Keep.blk_below hx3.out hb6)
        have hb7 := Lib.hid (hb3.out.trans (hb6.mono hb3.out.size))
        rw [← hW4, hbd]
        have hr1' := Lib.hid hr1
        clear hr1 hb6 hW4 hbd hx3 hb3 hl8 hx2' hx1' hb1' hW1' hlr hu0 hL1
        go_wp2_with fail
        go_loopw [72] (fun x wr => ∃ j : Nat, j ≤ 5 ∧ x = .int .i64 j ∧ Below W4.heap.size W4 wr) (fun x _ => 5 - (intOf x).toNat)
        case atStart => exact ⟨0, by omega, rfl, Below.refl _ _⟩
        case round =>
          obtain ⟨j, hj, rfl, hbj⟩ := hrel
          by_cases hjl : j < 5
          · obtain ⟨D, cD⟩ : ∃ D, wr.cell? ⟨bd, j, none⟩ = some (.int .i64 D) := by
              have hr := Keep.blk_below hr1'.out hbj
              match j, hjl with
              | 0, _ => exact ⟨_, by rw [cell_of_row _ _ _ _ _ _ hr]; rfl⟩
              | 1, _ => exact ⟨_, by rw [cell_of_row _ _ _ _ _ _ hr]; rfl⟩
              | 2, _ => exact ⟨_, by rw [cell_of_row _ _ _ _ _ _ hr]; rfl⟩
              | 3, _ => exact ⟨_, by rw [cell_of_row _ _ _ _ _ _ hr]; rfl⟩
              | 4, _ => exact ⟨_, by rw [cell_of_row _ _ _ _ _ _ hr]; rfl⟩
            have hbj' := Lib.hid hbj
            have hx7 := Lib.hid (Keep.blk_below hx6.out hbj)
            clear hbj
            go_wp2_with (go_at_call 9; refine (Keep.mod_any _ _ (by omega) _).mono ?_; rintro e w' ⟨rfl, rfl⟩)
            obtain ⟨u1, hu1⟩ : ∃ e, Keep.md amt 100000 = e := ⟨_, rfl⟩
            rw [hu1]
            obtain ⟨ba, hba⟩ : ∃ b, wr.heap.size = b := ⟨_, rfl⟩
            obtain ⟨W5, hW5⟩ : ∃ W, W = wr.alloc (.cells #[.int .i64 amt, .int .i64 u1] 3) := ⟨_, rfl⟩
            have hr2 := heap_alloc_new wr (.cells #[.int .i64 amt, .int .i64 u1] 3)
            have hb8 := (Below.refl wr.heap.size wr).alloc (Nat.le_refl _) (.cells #[.int .i64 amt, .int .i64 u1] 3)
            rw [← hW5] at hr2 hb8 ⊢
            have hx8 := Lib.hid (Keep.blk_below hx7.out hb8)
            have hb9 := Lib.hid (hbj'.out.trans (hb8.mono hbj'.out.size))
            rw [hba] at hr2 ⊢
            have hr2' := Lib.hid hr2
            clear hr2 hb8 hW5 hba hx7 hbj' cD hu1
            go_loopw [81] (fun x wr => ∃ i : Nat, i ≤ 2 ∧ x = .int .i64 i ∧ Below W5.heap.size W5 wr) (fun x _ => 2 - (intOf x).toNat)
            case atStart => exact ⟨0, by omega, rfl, Below.refl _ _⟩
            case round =>
              obtain ⟨i, hi, rfl, hbi⟩ := hrel
              by_cases hil : i < 2
              · obtain ⟨A, cA⟩ : ∃ A, wr.cell? ⟨ba, i, none⟩ = some (.int .i64 A) := by
                  have hr := Keep.blk_below hr2'.out hbi
                  match i, hil with
                  | 0, _ => exact ⟨_, by rw [cell_of_row _ _ _ _ _ _ hr]; rfl⟩
                  | 1, _ => exact ⟨_, by rw [cell_of_row _ _ _ _ _ _ hr]; rfl⟩
                have hbi' := Lib.hid hbi
                have hx9 := Keep.blk_below hx8.out hbi
                obtain ⟨c0, c1, c2, _, _, _⟩ := Keep.blk_cells3 hx9
                clear hbi hx9
                go_wp2_with fail
                obtain ⟨V, hV⟩ : ∃ V, payV x0 x1 x2 D A = V := ⟨_, rfl⟩
                obtain ⟨E, hE⟩ : ∃ E, payE x0 x1 x2 D A = E := ⟨_, rfl⟩
                have hVE := Lib.hid (And.intro hV hE)
                clear hV hE
                refine (pay_any _ _ _ _ _ _).mono ?_
                rw [hVE.out.1, hVE.out.2]
                rintro e w6 ⟨rfl, hb6⟩
                have hb10 := Lib.hid (hbi'.out.trans (hb6.mono hbi'.out.size))
                replace c0 := cell_later c0 hb6
                replace c1 := cell_later c1 hb6
                replace c2 := cell_later c2 hb6
                clear hb6
                go_wp2_with fail
                refine (rpay_any _ _ _ _ _ _).mono ?_
                rw [hVE.out.1, hVE.out.2]
                rintro e w7 ⟨rfl, hb7⟩
                have hb11 := Lib.hid (hb10.out.trans (hb7.mono hb10.out.size))
                clear hb7 c0 c1 c2 cA
                go_wp2
                go_roundw
                case rel => exact ⟨i + 1, by omega, by go_num, hb11.out⟩
                case measure => simp [intOf]; omega
              · have hi2 : i = 2 := by omega
                subst hi2
                have hbe := Lib.hid (hb9.out.trans (hbi.mono hb9.out.size))
                clear hbi
                go_wp2
                go_roundw
                case rel => exact ⟨j + 1, by omega, by go_num, hbe.out⟩
                case measure => simp [intOf]; omega
          · have hj5 : j = 5 := by omega
            subst hj5
            have hbe := Lib.hid (hbw'.out.trans ((hb7.out.trans (hbj.mono hb7.out.size)).mono hbw'.out.size))
            clear hbj
            go_wp2
            go_roundw
            case rel => exact ⟨k + 1, by omega, by go_num, hbe.out⟩
            case measure => simp [intOf]; omega
      · have hk3 : k = 3 := by omega
        subst hk3
        have hBk := Lib.hid (hB6.out.trans (hbw.mono hB6.out.size))
        clear hbw m1 m2
        have m3 := Keep.md_bd day 300
        have m4 := Keep.md_bd tt 300
        have m5 := Keep.md_bd tt 36867
        obtain ⟨v1, hv1⟩ : ∃ e, Keep.md day 300 = e := ⟨_, rfl⟩
        obtain ⟨v2, hv2⟩ : ∃ e, Keep.md tt 300 = e := ⟨_, rfl⟩
        obtain ⟨v3, hv3⟩ : ∃ e, Keep.md tt 36867 = e := ⟨_, rfl⟩
        rw [hv1] at m3
        rw [hv2] at m4
        rw [hv3] at m5
        go_wp2_with (first | (go_at_call 9; refine (Keep.mod_any _ _ (by omega) _).mono ?_; rintro e w' ⟨rfl, rfl⟩) | (go_at_call 12; refine (days_any _ _ _).mono ?_; rintro e w' ⟨rfl, rfl⟩) | (go_at_call 13; refine (rdays_any _ _ _).mono ?_; rintro e w' ⟨rfl, rfl⟩) | (go_at_call 14; refine (ldays_any _ _ _).mono ?_; rintro e w' ⟨rfl, rfl⟩) | (go_at_call 15; refine (working_any _ _).mono ?_; rintro e w' ⟨rfl, rfl⟩) | (go_at_call 16; refine (rworking_any _ _).mono ?_; rintro e w' ⟨rfl, rfl⟩))
        refine (awake_any _).mono ?_
        rintro e w9 ⟨rfl, hb9⟩
        have hB9 := Lib.hid (hBk.out.trans (hb9.mono hBk.out.size))
        clear hb9
        go_wp2
        go_ret
        exact ⟨rfl, hB9.out⟩
end Lat
end Go.Proofs.Ytdpokdckahafcaa
