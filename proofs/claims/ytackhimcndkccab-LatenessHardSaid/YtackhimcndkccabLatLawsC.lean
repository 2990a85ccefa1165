/-
  The laws of chapter 30: where nothing, and where everything, is taken away for a day.
-/
import Derived.Test.YtackhimcndkccabLatLaws
import Derived.Deep.DeepCutAuto
namespace Go.Proofs.Ytackhimcndkccab
open Go.RowKit
set_option linter.unusedVariables false
namespace Lat
open Ex (ret_int ret_bool ret_pair below_drewN)

/-- The three laws in memory: the one that the tape gave, the soft and the hard one. -/
def Three (B bt bl bs bh : Nat) (due last mille ms mh : Int) (w0 w : World) : Prop := bs ≠ bh ∧ bt < bs ∧ bt < bh ∧ bt < bl ∧ bl ≠ bs ∧ bl ≠ bh ∧ Keep.Tp B bt w0 w ∧
  w.heap[bl]? = some (.cells #[.int .i64 due, .int .i64 last, .int .i64 mille] 24 (0, 0)) ∧ w.heap[bs]? = some (.cells #[.int .i64 due, .int .i64 last, .int .i64 ms] 24 (0, 0)) ∧ w.heap[bh]? = some (.cells #[.int .i64 due, .int .i64 last, .int .i64 mh] 24 (0, 0))
theorem Three.next {B bt bl bs bh : Nat} {due last mille ms mh : Int} {w0 w w' : World} (h : Three B bt bl bs bh due last mille ms mh w0 w) (hb : Below w.heap.size w w') : Three B bt bl bs bh due last mille ms mh w0 w' := by
  obtain ⟨h1, h2, h3, h4, h5, h6, h7, h8, h9, h10⟩ := h
  exact ⟨h1, h2, h3, h4, h5, h6, h7.next hb, Keep.blk_below h8 hb, Keep.blk_below h9 hb, Keep.blk_below h10 hb⟩
theorem Three.grown {B bt bl bs bh : Nat} {due last mille ms mh : Int} {w0 w w' : World} (h : Three B bt bl bs bh due last mille ms mh w0 w) (hT : Keep.Tp B bt w0 w') (hG : w.grownBy w' (some bt)) : Three B bt bl bs bh due last mille ms mh w0 w' := by
  obtain ⟨h1, h2, h3, h4, h5, h6, h7, h8, h9, h10⟩ := h
  exact ⟨h1, h2, h3, h4, h5, h6, hT, Keep.blk_grown h8 hG (by omega), Keep.blk_grown h9 hG (by omega), Keep.blk_grown h10 hG (by omega)⟩
theorem blk_set2 {w : World} {b : Nat} {v0 v1 v2 u : Value} {t : TypeId} (h : w.heap[b]? = some (.cells #[v0, v1, v2] t (0, 0))) : (w.setCell ⟨b, 2, none⟩ u).heap[b]? = some (.cells #[v0, v1, u] t (0, 0)) := by
  simp only [World.setCell, Array.getElem?_modify, if_true, h]
  simp
theorem Three.set {B bt bl bs bh : Nat} {due last mille ms mh a b : Int} {w0 w : World} (h : Three B bt bl bs bh due last mille ms mh w0 w) : Three B bt bl bs bh due last mille a b w0 ((w.setCell ⟨bs, 2, none⟩ (.int .i64 a)).setCell ⟨bh, 2, none⟩ (.int .i64 b)) := by
  obtain ⟨h1, h2, h3, h4, h5, h6, h7, h8, h9, h10⟩ := h
  refine ⟨h1, h2, h3, h4, h5, h6, (h7.setCell h2 _).setCell h3 _, ?_, ?_, ?_⟩
  · rw [Below.heap_setCell _ _ _ _ h6, Below.heap_setCell _ _ _ _ h5]; exact h8
  · rw [Below.heap_setCell _ _ _ _ h1]; exact blk_set2 h9
  · exact blk_set2 (by rw [Below.heap_setCell _ _ _ _ (Ne.symm h1)]; exact h10)
def HardAt (B bt bl : Nat) (due last mille : Int) (w0 : World) (s7 s8 : Value) (wx : World) : Prop :=
  ∃ bs bh : Nat, s7 = .pointer (some ⟨bs, 0, none⟩) ∧ s8 = .pointer (some ⟨bh, 0, none⟩) ∧ Three B bt bl bs bh due last mille mille mille w0 wx

set_option maxRecDepth 100000 in
set_option maxHeartbeats 4000000 in
theorem walk_hard (ad : Option Addr) (len cap am : Nat) (w : World) (ham : am ≤ 65535) (ht : Keep.IntsAt w ad len cap) :
    Calls Try.prog 6 #[.slice ad len cap, .int .u16 am] w fun e w' => e = .returned (.bool true) ∧ Below w.heap.size w w' := by
  go_enter Try.func6, Try.ntmps6
  go_wp2_with fail
  refine (Keep.new_tp _ _ _ w w (Below.refl _ _) ht).mono ?_
  rintro e w1 ⟨bt, rfl, hT, _, _⟩
  clear ht
  go_wp2_with fail
  refine (late_any _ hT).mono ?_
  rintro e w2 ⟨due, last, mille, rfl, hl, hT, _⟩
  obtain ⟨l0, l1, l2, l3, l4, l5⟩ := hl
  have hbt := hT.1.lt
  have hTn' := Lib.hid (hT.next ((Below.refl _ _).alloc (Nat.le_refl _) (.cells #[.int .i64 due, .int .i64 last, .int .i64 mille] 24)))
  have hbk' := Lib.hid (heap_alloc_new w2 (.cells #[.int .i64 due, .int .i64 last, .int .i64 mille] 24))
  clear hT
  go_upto_region 3 with fail
  obtain ⟨bl, hbl⟩ : ∃ bl, bl = w2.heap.size := ⟨_, rfl⟩
  obtain ⟨W, hW⟩ : ∃ W, W = w2.alloc (.cells #[.int .i64 due, .int .i64 last, .int .i64 mille] 24) := ⟨_, rfl⟩
  have hTn := hTn'.out
  have hbk := hbk'.out
  rw [← hW, ← hbl] at hbk
  rw [← hW] at hTn
  rw [← hW, ← hbl]
  have hne : bl ≠ bt := by omega
  have hbtl : bt < bl := by omega
  clear hTn' hbk' hW hbl hbt
  obtain ⟨c0, c1, c2, f0, f1, f2⟩ := Keep.blk_cells3 hbk
  have hbk' := Lib.hid hbk
  have hTn' := Lib.hid hTn
  have hblt : bl < W.heap.size := (Array.getElem?_eq_some_iff.1 hbk).1
  have a1 : ∀ (o : Nat) (o1 : Obj), (W.alloc o1).cell? ⟨bl, o, none⟩ = W.cell? ⟨bl, o, none⟩ := fun o o1 => World.cell?_of_block (Below.heap_alloc W o1 bl hblt)
  have a2 : ∀ (o : Nat) (o1 o2 : Obj), ((W.alloc o1).alloc o2).cell? ⟨bl, o, none⟩ = W.cell? ⟨bl, o, none⟩ := fun o o1 o2 => (World.cell?_of_block (Below.heap_alloc (W.alloc o1) o2 bl (by simp; omega))).trans (a1 o o1)
  clear hbk hTn f0 f1 f2
  have hbt2 : bt < bl := hbtl
  have hthree : ∀ bs bh : Nat, (bs = W.heap.size ∧ bh = W.heap.size + 1) ∨ (bs = W.heap.size + 1 ∧ bh = W.heap.size) → Three w.heap.size bt bl bs bh due last mille mille mille w ((W.alloc (.cells #[.int .i64 due, .int .i64 last, .int .i64 mille] 24)).alloc (.cells #[.int .i64 due, .int .i64 last, .int .i64 mille] 24)).drew := by
    intro bs bh hcase
    have hn1 := hTn'.out.next ((Below.refl _ _).alloc (Nat.le_refl _) (.cells #[.int .i64 due, .int .i64 last, .int .i64 mille] 24))
    have hn2 := (hn1.next ((Below.refl _ _).alloc (Nat.le_refl _) (.cells #[.int .i64 due, .int .i64 last, .int .i64 mille] 24))).drew
    have e1 := heap_alloc_new (W.alloc (.cells #[.int .i64 due, .int .i64 last, .int .i64 mille] 24)) (.cells #[.int .i64 due, .int .i64 last, .int .i64 mille] 24)
    have e0 := heap_alloc_new W (.cells #[.int .i64 due, .int .i64 last, .int .i64 mille] 24)
    have z1 : (W.alloc (.cells #[.int .i64 due, .int .i64 last, .int .i64 mille] 24)).heap.size = W.heap.size + 1 := by simp
    rw [z1] at e1
    have e0' : ((W.alloc (.cells #[.int .i64 due, .int .i64 last, .int .i64 mille] 24)).alloc (.cells #[.int .i64 due, .int .i64 last, .int .i64 mille] 24)).heap[W.heap.size]? = _ := (Below.heap_alloc _ _ _ (by omega)).trans e0
    have eb := ((Below.heap_alloc (W.alloc (.cells #[.int .i64 due, .int .i64 last, .int .i64 mille] 24)) (.cells #[.int .i64 due, .int .i64 last, .int .i64 mille] 24) bl (by omega)).trans (Below.heap_alloc W (.cells #[.int .i64 due, .int .i64 last, .int .i64 mille] 24) bl hblt)).trans hbk'.out
    rcases hcase with ⟨rfl, rfl⟩ | ⟨rfl, rfl⟩
    · exact ⟨by omega, by omega, by omega, hbt2, by omega, by omega, hn2, eb, e0', e1⟩
    · exact ⟨by omega, by omega, by omega, hbt2, by omega, by omega, hn2, eb, e1, e0'⟩
  have hthree' := Lib.hid hthree
  clear hthree
  go_cut [7, 8] (HardAt w.heap.size bt bl due last mille w)
  case first =>
    go_region
    · go_wp2_with fail
      go_meet
      exact ⟨_, _, rfl, rfl, hthree'.out _ _ (.inl ⟨rfl, rfl⟩)⟩
    · go_wp2_with fail
      go_meet
      exact ⟨_, _, rfl, rfl, hthree'.out _ _ (.inr ⟨rfl, rfl⟩)⟩
  case rest =>
    obtain ⟨bs, bh, rfl, rfl, h3⟩ := hcut
    have h3' := h3
    obtain ⟨h1, _, _, _, _, _, _, _, hs, hh⟩ := h3'
    clear a1 a2 c0 c1 c2 hthree' hbk' hTn' hblt hne
    obtain ⟨s0, s1, s2, s3, s4, s5⟩ := Keep.blk_cells3 hs
    obtain ⟨t0, t1, t2, t3, t4, t5⟩ := Keep.blk_cells3 hh
    have h3s := Lib.hid (h3.set (a := 0) (b := 1000))
    clear h3 hs hh
    go_wp2_with fail
    obtain ⟨W2, hW2⟩ : ∃ W2, W2 = (wc.setCell ⟨bs, 2, none⟩ (.int .i64 0)).setCell ⟨bh, 2, none⟩ (.int .i64 1000) := ⟨_, rfl⟩
    have h3 := h3s.out
    rw [← hW2] at h3
    rw [← hW2]
    clear h3s hW2 s0 s1 s2 s3 s4 s5 t0 t1 t2 t3 t4 t5 h1
    go_loopw [9] (fun n wr => ∃ i : Nat, i ≤ 5 ∧ n = .int .i64 i ∧ Three w.heap.size bt bl bs bh due last mille 0 1000 w wr) (fun n _ => 5 - (intOf n).toNat)
    case atStart => exact ⟨0, by omega, rfl, h3⟩
    case round =>
      obtain ⟨i, hi, rfl, hR⟩ := hrel
      clear h3
      by_cases hlt : i < 5
      · have hT := hR.2.2.2.2.2.2.1
        have hT' := Lib.hid hT
        have hR' := Lib.hid hR
        clear hR hT
        go_wp2_with fail
        refine (Keep.next_tp _ (by omega) _ hT'.out).mono ?_
        rintro e w3 ⟨d, rfl, d0, d1, hT, hG⟩
        have hR := hR'.out.grown hT hG
        clear hT hG hT' hR'
        have hE1 := payE_zero due last 0 d am (by omega)
        have hE2 := payE_zero due last 1000 d am (by omega)
        have hV1 := payV_soft due last d am hE1
        have hV2 := payV_hard due last d am hE2
        obtain ⟨V1, hVe1⟩ : ∃ V, payV due last 0 d am = V := ⟨_, rfl⟩
        obtain ⟨V2, hVe2⟩ : ∃ V, payV due last 1000 d am = V := ⟨_, rfl⟩
        rw [hVe1] at hV1
        rw [hVe2] at hV2
        have hR1 := Lib.hid hR
        obtain ⟨_, _, _, _, _, _, _, _, hs, _⟩ := hR
        obtain ⟨c0, c1, c2, _, _, _⟩ := Keep.blk_cells3 hs
        clear hs
        have q1 := Lib.hid hVe1
        have q2 := Lib.hid hVe2
        have z1 := Lib.hid hE1
        have z2 := Lib.hid hE2
        have v1 := Lib.hid hV1
        have v2 := Lib.hid hV2
        clear hVe1 hVe2 hE1 hE2 hV1 hV2
        go_wp2_with fail
        refine (pay_any _ _ _ _ _ _).mono ?_
        rw [q1.out, z1.out]
        rintro e w4 ⟨rfl, hb⟩
        have hR := hR1.out.next hb
        clear hb hR1 c0 c1 c2
        have hR2 := Lib.hid hR
        obtain ⟨_, _, _, _, _, _, _, _, _, hh⟩ := hR
        obtain ⟨c0, c1, c2, _, _, _⟩ := Keep.blk_cells3 hh
        clear hh
        go_wp2_with fail
        refine (pay_any _ _ _ _ _ _).mono ?_
        rw [q2.out, z2.out]
        rintro e w5 ⟨rfl, hb⟩
        have hR := hR2.out.next hb
        clear hb hR2 c0 c1 c2
        have hR3 := Lib.hid hR
        obtain ⟨_, _, _, _, _, _, _, hl, _, _⟩ := hR
        obtain ⟨c0, c1, c2, _, _, _⟩ := Keep.blk_cells3 hl
        clear hl
        have v1 := v1.out
        have v2 := v2.out
        by_cases g1 : last < d
        · rw [if_pos g1] at v1 v2
          subst v1
          subst v2
          by_cases g2 : 0 < dys due d
          all_goals
            go_wp2_with (go_at_call 15; refine (days_any _ _ _).mono ?_; rintro e w' ⟨rfl, rfl⟩)
            go_roundw
            case rel => exact ⟨i + 1, by omega, by go_num, hR3.out⟩
            case measure => simp [intOf]; omega
        · rw [if_neg g1] at v1 v2
          subst v1
          by_cases g2 : 0 < dys due d
          · rw [if_pos g2] at v2
            subst v2
            go_wp2_with (go_at_call 15; refine (days_any _ _ _).mono ?_; rintro e w' ⟨rfl, rfl⟩)
            go_roundw
            case rel => exact ⟨i + 1, by omega, by go_num, hR3.out⟩
            case measure => simp [intOf]; omega
          · rw [if_neg g2] at v2
            subst v2
            go_wp2_with (go_at_call 15; refine (days_any _ _ _).mono ?_; rintro e w' ⟨rfl, rfl⟩)
            go_roundw
            case rel => exact ⟨i + 1, by omega, by go_num, hR3.out⟩
            case measure => simp [intOf]; omega
      · have hB := Lib.hid hR.2.2.2.2.2.2.1.2.1
        clear hR
        go_wp2_with (go_at_call 20; refine (awake_any _).mono ?_; rintro e w4 ⟨rfl, hb4⟩)
        go_ret
        exact ⟨rfl, hB.out.trans (hb4.mono hB.out.size)⟩
end Lat
end Go.Proofs.Ytackhimcndkccab
