/-
  CalendarWorking: the walk.
-/
import Derived.Test.YtmmekdkllccmdaaCalLaws
import Derived.Test.YtmmekdkllccmdaaCalPlainW
namespace Go.Proofs.Ytmmekdkllccmdaa
open Go.RowKit
set_option linter.unusedVariables false
namespace Cal
theorem infoI : (Try.prog.info? 3).map (fun i => (i.zero, i.size, i.bytes)) = some (some (.int .i64 0), 1, 8) := by kernel_rfl
theorem ints_of_row {W : World} {b : Nat} {t : TypeId} {v : Value} {zs : List Int} {n : Nat} (hn : zs.length = n) (h : W.ownsRow b t 1 v n (zs.map (Value.int .i64))) : ∃ ad cap, v = .slice ad n cap ∧ Seq.Ints W.heap.size W ad zs := by
  subst hn
  obtain ⟨hl, h⟩ := h
  rcases h with ⟨rfl, hz⟩ | ⟨g, cap, cur, rfl, _, hg, _, _, _, ht⟩
  · refine ⟨none, 0, by rw [hz], .inl (List.eq_nil_of_length_eq_zero hz)⟩
  · refine ⟨some ⟨g, 0, none⟩, cap, rfl, .inr ⟨g, 0, rfl, (Array.getElem?_eq_some_iff.1 hg).1, fun j hj => ?_⟩⟩
    rw [cell_of_row _ _ _ _ _ _ hg]
    have e : (cur.toList.take (zs.length * 1))[j]? = some (.int .i64 (zs[j]?.getD 0)) := by
      rw [ht, List.getElem?_map, List.getElem?_eq_getElem hj]; rfl
    rw [List.getElem?_take, if_pos (by omega)] at e
    rw [Nat.zero_add]
    simpa using e
theorem ints_later {W W' : World} {a : Option Addr} {zs : List Int} (h : Seq.Ints W.heap.size W a zs) (hb : Below W.heap.size W W') : Seq.Ints W'.heap.size W' a zs := by
  rcases h.below hb with h | ⟨b, off, e, hlt, hc⟩
  · exact .inl h
  · exact .inr ⟨b, off, e, Nat.lt_of_lt_of_le hlt hb.size, hc⟩

theorem bytes_of_row (w : World) (a : Option Addr) (len cap : Nat) (zs : List Int)
    (h : (a = none ∧ len = 0 ∧ cap = 0 ∧ zs = []) ∨ ∃ x, a = some x ∧ len ≤ cap ∧ cap ≤ maxLen ∧ zs.length = cap ∧ (∀ i, i < zs.length → w.cell? (x.add i) = some (.int .u8 (zs.getD i 0))) ∧ ∀ n ∈ zs, (Lit.int .u8 n).wf = true) :
    len ≤ 9223372036854775807 ∧ (0 < len → ∃ bl off, a = some ⟨bl, off, none⟩ ∧ ∀ i, i < len → w.cell? ⟨bl, off + i, none⟩ = some (.int .u8 (zs.getD i 0)) ∧ 0 ≤ zs.getD i 0 ∧ zs.getD i 0 ≤ 255) := by
  rcases h with ⟨rfl, rfl, rfl, _⟩ | ⟨x, rfl, h1, h2, h3, h4, h5⟩
  · exact ⟨by omega, fun hl => by omega⟩
  · unfold maxLen at h2
    refine ⟨by omega, fun hl => ?_⟩
    obtain ⟨bl, off, spot⟩ := x
    have h0 := h4 0 (by omega)
    have hs : spot = none := by
      simp only [Addr.add, if_true] at h0
      unfold World.cell? at h0
      split at h0
      · simp only at h0
        cases spot with
        | none => rfl
        | some k => simp at h0
      · cases h0
    subst hs
    refine ⟨bl, off, rfl, fun i hi => ⟨?_, ?_⟩⟩
    · have := h4 i (by omega)
      rwa [show (⟨bl, off, none⟩ : Addr).add i = ⟨bl, off + i, none⟩ from by unfold Addr.add; split <;> simp_all] at this
    · have hm : zs.getD i 0 ∈ zs := by
        rw [List.getD_eq_getElem?_getD, List.getElem?_eq_getElem (by omega)]; exact List.getElem_mem _
      have := bounds_u8 (h5 _ hm)
      omega

set_option maxRecDepth 100000 in
set_option maxHeartbeats 4000000 in
theorem walk_working (x0 a b : Nat) (hx0 : x0 ≤ 65535) (ha : a ≤ 255) (hb : b ≤ 255) (ad : Option Addr) (len cap : Nat) (g : Nat → Int) (w : World) (hlen : len ≤ 9223372036854775807)
    (hf : 0 < len → ∃ bl off, ad = some ⟨bl, off, none⟩ ∧ ∀ i, i < len → w.cell? ⟨bl, off + i, none⟩ = some (.int .u8 (g i)) ∧ 0 ≤ g i ∧ g i ≤ 255) :
    Calls Try.prog 8 #[.int .u16 x0, .int .u8 a, .int .u8 b, .slice ad len cap] w fun e w' => e = .returned (.bool true) ∧ Below w.heap.size w w' := by
  obtain ⟨i0, hi, hz0, hz1, hz2⟩ := info_parts infoI
  obtain ⟨x, hx⟩ : ∃ x, (x0 : Int).tmod 30000 = x := ⟨_, rfl⟩
  have hxb : 0 ≤ x ∧ x < 30000 := ⟨hx ▸ Int.tmod_nonneg _ (by omega), hx ▸ Int.tmod_lt_of_pos _ (by omega)⟩
  have hf' := Lib.hid hf
  clear hf
  go_enter Try.func8, Try.ntmps8
  go_wp2_with fail
  clear hx
  go_loopw [12, 13] (fun v i wr => ∃ k : Nat, k ≤ len ∧ k ≤ 50 ∧ i = .int .i64 k ∧ wr.ownsRow w.heap.size 3 1 v k ((frees x g k).map (Value.int .i64)) ∧ Below w.heap.size w wr) (fun _ i _ => len - (intOf i).toNat)
  case atStart => exact ⟨0, by omega, by omega, rfl, World.ownsRow_nil _ _ _ _, Below.refl _ _⟩
  case round =>
    obtain ⟨k, hk, hk50, rfl, hown, hB⟩ := hrel
    by_cases hlt : k < len ∧ k < 50
    · obtain ⟨h1, h2⟩ := hlt
      obtain ⟨bl, off, rfl, hc⟩ := hf'.out (by omega)
      obtain ⟨hcell, g0, g1⟩ := hc k h1
      have hcw := (hB.cell (p := ⟨bl, off + k, none⟩) (World.block_lt_of_cell? w _ hcell)).trans hcell
      have hs := Lib.hid (frees_succ x g k)
      obtain ⟨z, hz⟩ : ∃ z, g k = z := ⟨_, rfl⟩
      rw [hz] at hcw g0 g1 hs
      have hbs := hB.size
      clear hcell hc hz
      go_wp2_with (first | (at_builtin; refine wpList_append_own _ rfl _ _ 22 rfl w.heap.size 3 i0 (.int .i64 0) 1 8 Try.underlying22 hi hz0 hz1 hz2 rfl (by decide) _ _ _ rfl (hown.alloc _) ⟨wr.heap.size, 0, none⟩ 1 1 [.int .i64 (x + z)] rfl rfl (cell_one_new _ _ _) (by simp [Value.oneCell']) (by unfold maxLen; omega) (by omega) (by simp; omega) ?_; intro v' w1 hown' hgrow _) | go_in)
      have hown2 : w1.ownsRow w.heap.size 3 1 v' (k + 1) ((frees x g (k + 1)).map (Value.int .i64)) := by rw [hs.out]; simpa using hown'
      have hB2 := Lib.hid ((hB.alloc hB.size _).grown hgrow (by simp; omega) (fun q hq => (World.ownsRow.lt hown q hq).1))
      have hown3 := Lib.hid hown2
      clear hown' hgrow hown hown2 hB
      go_wp2
      go_roundw
      case rel => exact ⟨k + 1, by omega, by omega, by simp, hown3.out, hB2.out⟩
      case measure => simp [intOf]; omega
    · obtain ⟨ad2, cap2, rfl, hI⟩ := ints_of_row (frees_len x g k) hown
      have hl := frees_len x g k
      obtain ⟨zs, hzs⟩ : ∃ zs, frees x g k = zs := ⟨_, rfl⟩
      rw [hzs] at hI hl hown
      subst hl
      have hI' := Lib.hid hI
      have hB' := Lib.hid hB
      clear hzs hI hB hown
      have e1 := wkE_ok x (x + a) zs.length (by omega) (by omega) (by omega) (by omega)
      have e2 := wkE_ok (x + a) (x + a + b) zs.length (by omega) (by omega) (by omega) (by omega)
      have e3 := wkE_ok x (x + a + b) zs.length (by omega) (by omega) (by omega) (by omega)
      have e4 := wkE_ok x (x + 7) ([] : List Int).length (by omega) (by omega) (by omega) (by simp)
      have e5 := wkE_ok x (x + a + b) ([] : List Int).length (by omega) (by omega) (by omega) (by simp)
      have v1 := wkV_ok zs x a (by omega) (by omega) (by omega)
      have v2 := wkV_ok zs (x + a) b (by omega) (by omega) (by omega)
      have v3 := wkV_ok zs x (a + b) (by omega) (by omega) (by omega)
      have v4 := wkV_ok [] x 7 (by omega) (by omega) (by simp)
      have v5 := wkV_ok [] x (a + b) (by omega) (by omega) (by simp)
      rw [show x + ((a + b : Nat) : Int) = x + a + b by omega] at v3 v5
      rw [wks_week x (by omega), show x + ((7 : Nat) : Int) = x + 7 from rfl] at v4
      have p1 := wks_add zs x a b
      have p2 := wks_less zs x (a + b)
      have p3 := wks_all x (a + b) zs
      have b1 := wks_bd zs x a
      have b2 := wks_bd zs (x + a) b
      have b3 := wks_bd [] x (a + b)
      rw [← v1, ← v2, ← v3] at p1
      rw [← v3, ← v5] at p2 p3
      rw [← v1] at b1
      rw [← v2] at b2
      rw [← v5] at b3
      have v4' := Lib.hid v4
      have hE := Lib.hid (And.intro e1 (And.intro e2 (And.intro e3 (And.intro e4 e5))))
      clear v1 v2 v3 v4 v5 e1 e2 e3 e4 e5
      obtain ⟨P1, hP1⟩ : ∃ P1, wkV zs x (x + a) = P1 := ⟨_, rfl⟩
      obtain ⟨P2, hP2⟩ : ∃ P1, wkV zs (x + a) (x + a + b) = P1 := ⟨_, rfl⟩
      obtain ⟨P3, hP3⟩ : ∃ P1, wkV zs x (x + a + b) = P1 := ⟨_, rfl⟩
      obtain ⟨P5, hP5⟩ : ∃ P1, wkV [] x (x + a + b) = P1 := ⟨_, rfl⟩
      rw [hP1] at p1 b1
      rw [hP2] at p1 b2
      rw [hP3] at p1 p2 p3
      rw [hP5] at p2 p3 b3
      have hPs := Lib.hid (And.intro hP1 (And.intro hP2 (And.intro hP3 hP5)))
      clear hP1 hP2 hP3 hP5
      have hcase : ¬ zs.length < len ∨ (zs.length < len ∧ ¬ zs.length < 50) := by omega
      clear hlt
      rcases hcase with hlt | ⟨hlt, hlt2⟩
      all_goals
        go_wp2_with fail
        refine (working_any x (x + a) zs ad2 cap2 _ (by omega) hI'.out).mono ?_
        rw [hE.out.1, hPs.out.1]
        rintro e w1 ⟨rfl, hb1⟩
        have hI1 := Lib.hid (ints_later hI'.out hb1)
        have hB1 := Lib.hid (hB'.out.trans (hb1.mono hB'.out.size))
        clear hb1
        go_wp2_with fail
        refine (working_any (x + a) (x + a + b) zs ad2 cap2 _ (by omega) hI1.out).mono ?_
        rw [hE.out.2.1, hPs.out.2.1]
        rintro e w2 ⟨rfl, hb2⟩
        have hI2 := Lib.hid (ints_later hI1.out hb2)
        have hB2 := Lib.hid (hB1.out.trans (hb2.mono hB1.out.size))
        clear hb2
        go_wp2_with fail
        refine (working_any x (x + a + b) zs ad2 cap2 _ (by omega) hI2.out).mono ?_
        rw [hE.out.2.2.1, hPs.out.2.2.1]
        rintro e w3 ⟨rfl, hb3⟩
        have hB3 := Lib.hid (hB2.out.trans (hb3.mono hB2.out.size))
        clear hb3
        go_wp2_with fail
        refine (working_any x (x + 7) [] none 0 _ (by simp) (.inl rfl)).mono ?_
        rw [hE.out.2.2.2.1, v4'.out]
        rintro e w4 ⟨rfl, hb4⟩
        have hB4 := Lib.hid (hB3.out.trans (hb4.mono hB3.out.size))
        clear hb4
        go_wp2_with fail
        refine (working_any x (x + a + b) [] none 0 _ (by simp) (.inl rfl)).mono ?_
        rw [hE.out.2.2.2.2, hPs.out.2.2.2]
        rintro e w5 ⟨rfl, hb5⟩
        have hB5 := Lib.hid (hB4.out.trans (hb5.mono hB4.out.size))
        clear hb5
        go_wp2_with fail
        refine (awake_any _).mono ?_
        rintro e w6 ⟨rfl, hb6⟩
        have hB6 := Lib.hid (hB5.out.trans (hb6.mono hB5.out.size))
        clear hb6
        go_wp2
        go_ret
        exact ⟨rfl, hB6.out⟩
end Cal
end Go.Proofs.Ytmmekdkllccmdaa
