/-
  The walk of calendar.Working.
-/
import Derived.Test.YtmmekdkllccmdaaCalRNext
import Derived.Test.YtmmekdkllccmdaaSeqC
namespace Go.Proofs.Ytmmekdkllccmdaa
open Go.RowKit
set_option linter.unusedVariables false
namespace Cal
theorem srt_has (zs : List Int) (d : Int) : (Seq.srt zs).contains d = zs.contains d := by
  rw [Bool.eq_iff_iff]; simp [Seq.srt, List.mem_mergeSort]
theorem srt_len (zs : List Int) : (Seq.srt zs).length = zs.length := by simp [Seq.srt]
theorem srt_sorted (zs : List Int) : (Seq.srt zs).Pairwise (· ≤ ·) := by
  have := List.pairwise_mergeSort (le := fun x y : Int => decide (x ≤ y)) (fun a b c h1 h2 => by simp at *; omega) (fun a b => by simp; omega) zs
  exact this.imp (by simp)
/-- The sorted slice, to search in. -/
def Sorted (W : World) (v : Value) (zs : List Int) : Prop := (v = .slice none 0 0 ∧ zs = []) ∨ ∃ g cap, v = .slice (some ⟨g, 0, none⟩) zs.length cap ∧ g < W.heap.size ∧ ∀ j, j < zs.length → W.cell? ⟨g, j, none⟩ = some (.int .i64 ((Seq.srt zs).getD j 0))
theorem sorted_of_row {W : World} {b : Nat} {t : TypeId} {v : Value} {zs : List Int} (h : W.ownsRow b t 1 v zs.length ((Seq.srt zs).map (Value.int .i64))) : Sorted W v zs := by
  obtain ⟨hl, h⟩ := h
  rcases h with ⟨rfl, hz⟩ | ⟨g, cap, cur, rfl, _, hg, _, _, _, ht⟩
  · exact .inl ⟨rfl, List.eq_nil_of_length_eq_zero hz⟩
  · refine .inr ⟨g, cap, rfl, (Array.getElem?_eq_some_iff.1 hg).1, fun j hj => ?_⟩
    rw [cell_of_row _ _ _ _ _ _ hg]
    have e : (cur.toList.take (zs.length * 1))[j]? = some (.int .i64 ((Seq.srt zs).getD j 0)) := by
      rw [ht, List.getElem?_map]
      rw [List.getD_eq_getElem?_getD, List.getElem?_eq_getElem (by rw [srt_len]; exact hj)]; rfl
    rw [List.getElem?_take, if_pos (by omega)] at e
    simpa using e
theorem search_any (v : Value) (zs : List Int) (d : Int) (hlen : zs.length ≤ 400) (W : World) (h : Sorted W v zs) :
    Calls Try.prog 88 #[v, .int .i64 d] W fun e W' => ∃ p : Int, e = .returned (.tuple #[.int .i64 p, .bool (zs.contains d)]) ∧ ∃ q, W' = W.drewN q := by
  rcases h with ⟨rfl, rfl⟩ | ⟨g, cap, rfl, _, hc⟩
  · exact (Try.slices_BinarySearch_int_empty none 0 d W).mono fun e W' ⟨h1, h2⟩ => ⟨0, h1, 0, h2⟩
  · have hs := Try.slices_BinarySearch_int g 0 zs.length cap (Seq.srt zs) d W (by rw [srt_len]; omega) (by omega) (fun j hj => by rw [Nat.zero_add]; exact hc j (by rw [srt_len] at hj; exact hj)) (by rw [List.take_of_length_le (by rw [srt_len]; omega)]; exact srt_sorted zs)
    rw [List.take_of_length_le (by rw [srt_len]; omega), srt_has] at hs
    exact hs.mono fun e W' ⟨h1, h2⟩ => ⟨_, h1, h2⟩
theorem Sorted.later {W W' : World} {v : Value} {zs : List Int} (h : Sorted W v zs) (hb : Below W.heap.size W W') : Sorted W' v zs := by
  rcases h with h | ⟨g, cap, rfl, hg, hc⟩
  · exact .inl h
  · exact .inr ⟨g, cap, rfl, Nat.lt_of_lt_of_le hg hb.size, fun j hj => (hb.cell (p := ⟨g, j, none⟩) hg).trans (hc j hj)⟩
theorem below_drewN {B : Nat} {a w : World} (h : Below B a w) (n : Nat) : Below B a (w.drewN n) := ⟨h.os, h.tape, h.output, h.size, h.block⟩

set_option maxRecDepth 100000 in
set_option maxHeartbeats 1600000 in
theorem working_in (a b : Int) (zs : List Int) (ad : Option Addr) (cap : Nat) (w : World) (h1 : 0 ≤ a) (h2 : a ≤ b) (h3 : b ≤ 36865) (hn : zs.length ≤ 400) (hz : Seq.Ints w.heap.size w ad zs) :
    Calls Try.prog 37 #[.int .i64 a, .int .i64 b, .slice ad zs.length cap] w fun e w' => e = .returned (.tuple #[.int .i64 (wks zs a (b - a).toNat), .int .i64 0]) ∧ Below w.heap.size w w' := by
  obtain ⟨m, hm⟩ : ∃ m, (b - a).toNat = m := ⟨_, rfl⟩
  rw [hm]
  have hm2 : b = a + m := by omega
  have hm' := Lib.hid hm2
  have hm3 : a + (m : Int) ≤ 36865 := by omega
  have hsort := Lib.hid (Seq.sorted_any ad cap w.heap.size zs (by omega) (w.alloc (.cells #[.slice ad zs.length cap] 22)) (by simp) (by rw [cell_of_row _ _ _ _ _ _ (heap_alloc_new w (.cells #[.slice ad zs.length cap] 22))]; rfl) (by
    have hb := (Below.refl w.heap.size w).alloc (Nat.le_refl _) (.cells #[.slice ad zs.length cap] 22)
    rcases hz.below hb with h | ⟨x, o, hx, hlt, hc⟩
    · exact .inl h
    · exact .inr ⟨x, o, hx, by simp; omega, hc⟩))
  clear hm hm2 hz
  go_enter Try.func37, Try.ntmps37
  go_wp2_with fail
  refine (Seq.values_any _ _ _ _).mono ?_
  rintro e w1 ⟨rfl, rfl⟩
  go_wp2_with fail
  refine hsort.out.mono ?_
  rintro e w2 ⟨v, rfl, hrow, hb⟩
  have hS := Lib.hid (sorted_of_row hrow)
  have hB := Lib.hid (((Below.refl _ w).alloc (Nat.le_refl _) (.cells #[.slice ad zs.length cap] 22)).trans (hb.mono (by simp)))
  clear hrow hb hsort
  go_wp2_with fail
  go_loopw [9, 10] (fun n d wr => ∃ k : Nat, k ≤ m ∧ n = .int .i64 (wks zs a k) ∧ d = .int .i64 (a + k) ∧ Below w2.heap.size w2 wr) (fun _ d _ => m - (intOf d - a).toNat)
  case atStart => exact ⟨0, by omega, rfl, int_eq (by omega), Below.refl _ _⟩
  case round =>
    obtain ⟨k, hk, rfl, rfl, hbr⟩ := hrel
    have hwb := wks_bd zs a k
    have hbb := hm'.out
    by_cases hlt : k < m
    · have hl2 : a + (k : Int) < b := by omega
      have hs := Lib.hid (show wks zs a (k + 1) = wks zs a k + if wk zs (a + k) then 1 else 0 from rfl)
      have hsr := Lib.hid (search_any v zs (a + k) hn wr (hS.out.later hbr))
      have hbr' := Lib.hid hbr
      clear hbb hbr
      go_wp2_with fail
      refine hsr.out.mono ?_
      rintro e w3 ⟨q0, rfl, q, rfl⟩
      have hd : wk zs (a + k) = (decide ((a + (k : Int)) % 7 < 5) && !zs.contains (a + k)) := rfl
      have hd' := Lib.hid hd
      clear hd hsr
      obtain ⟨c, hc⟩ : ∃ c, zs.contains (a + (k : Int)) = c := ⟨_, rfl⟩
      rw [hc]
      have hc' := Lib.hid hc
      clear hc
      cases c
      · by_cases h5 : (a + (k : Int)) % 7 < 5
        · have hnew := Lib.hid (show wks zs a (k + 1) = wks zs a k + 1 by rw [hs.out, hd'.out, hc'.out, decide_eq_true h5]; rfl)
          go_wp2
          go_roundw
          case rel => exact ⟨k + 1, by omega, int_eq hnew.out.symm, int_eq (by omega), below_drewN hbr'.out _⟩
          case measure => simp [intOf]; omega
        · have hnew := Lib.hid (show wks zs a (k + 1) = wks zs a k by rw [hs.out, hd'.out, hc'.out, decide_eq_false h5]; simp)
          go_wp2
          go_roundw
          case rel => exact ⟨k + 1, by omega, int_eq hnew.out.symm, int_eq (by omega), below_drewN hbr'.out _⟩
          case measure => simp [intOf]; omega
      · have hnew := Lib.hid (show wks zs a (k + 1) = wks zs a k by rw [hs.out, hd'.out, hc'.out]; simp)
        go_wp2
        go_roundw
        case rel => exact ⟨k + 1, by omega, int_eq hnew.out.symm, int_eq (by omega), below_drewN hbr'.out _⟩
        case measure => simp [intOf]; omega
    · have hkm : k = m := by omega
      have hl2 : ¬ a + (k : Int) < b := by omega
      have hfin := Lib.hid (hB.out.trans (hbr.mono hB.out.size))
      clear hbb hbr
      subst hkm
      go_wp2
      go_ret2
      exact ⟨rfl, hfin.out⟩
end Cal
end Go.Proofs.Ytmmekdkllccmdaa
