/-
  Chapter 41: awake.
-/
import Derived.Test.YtmmekdkllccmdaaClrG
namespace Go.Proofs.Ytmmekdkllccmdaa
open Go.RowKit Go.Sort
set_option linter.unusedVariables false
namespace Clr
open Cal (ret_bool ret_int int_eq infoI)
def fs0 : List Fd := [⟨1, 2, 0, 3, 100⟩, ⟨4, 3, 0, 3, 250⟩]
def ss0 : List Sp := [⟨2, 1, 1000⟩]
theorem fok0 : FOk fs0 := by
  refine ⟨?_, ?_⟩
  · intro x hx
    simp [fs0] at hx
    rcases hx with rfl | rfl <;> (unfold Fd.ok; simp)
  · intro j x y hx hy
    match j, hx, hy with
    | 0, hx, hy => simp [fs0] at hx hy; subst hx hy; decide
    | j + 1, hx, hy => simp [fs0] at hy
theorem sok0 : SOk ss0 := by
  refine ⟨?_, ?_⟩
  · intro x hx
    simp [ss0] at hx
    subst hx; unfold Sp.ok; simp
  · intro j x y hx hy
    simp [ss0] at hy
theorem fil0 : fs0.filter (con ⟨2, 1, 1000⟩) = fs0 := by
  unfold fs0
  rw [List.filter_cons_of_pos (by decide +kernel), List.filter_cons_of_pos (by decide +kernel), List.filter_nil]
theorem cor0 : corr fs0 ⟨2, 1, 1000⟩ = 325 := by
  have h : dsc [100, 250] = [250, 100] := (dsc_unique (by exact List.Perm.swap _ _ _) (by simp)).symm
  unfold corr
  rw [fil0]
  show 1000 - lefts 1000 (dsc [100, 250]) = 325
  rw [h]; decide
theorem frow0 {W : World} {b : Nat} {t : TypeId} (h : W.heap[b]? = some (.cells #[.int .i64 1, .int .i64 2, .int .i64 0, .int .i64 3, .int .i64 100, .int .i64 4, .int .i64 3, .int .i64 0, .int .i64 3, .int .i64 250] t (0, 0))) : FRow W (some ⟨b, 0, none⟩) fs0 := by
  refine .inr ⟨b, 0, rfl, (Array.getElem?_eq_some_iff.1 h).1, fun j x hx => ?_⟩
  match j, hx with
  | 0, hx => simp [fs0] at hx; subst hx; refine ⟨?_, ?_, ?_, ?_, ?_⟩ <;> (rw [cell_of_row _ _ _ _ _ _ h]; rfl)
  | 1, hx => simp [fs0] at hx; subst hx; refine ⟨?_, ?_, ?_, ?_, ?_⟩ <;> (rw [cell_of_row _ _ _ _ _ _ h]; rfl)
  | j + 2, hx => simp [fs0] at hx
theorem srow0 {W : World} {b : Nat} {t : TypeId} (h : W.heap[b]? = some (.cells #[.int .i64 2, .int .i64 1, .int .i64 1000] t (0, 0))) : SRow W (some ⟨b, 0, none⟩) ss0 := by
  refine .inr ⟨b, 0, rfl, (Array.getElem?_eq_some_iff.1 h).1, fun j x hx => ?_⟩
  match j, hx with
  | 0, hx => simp [ss0] at hx; subst hx; refine ⟨?_, ?_, ?_⟩ <;> (rw [cell_of_row _ _ _ _ _ _ h]; rfl)
  | j + 1, hx => simp [ss0] at hx
theorem cors0 (b1 b2 : Nat) (W : World) (h1 : FRow W (some ⟨b1, 0, none⟩) fs0) (h2 : SRow W (some ⟨b2, 0, none⟩) ss0) :
    Calls Try.prog 20 #[.slice (some ⟨b1, 0, none⟩) 2 2, .slice (some ⟨b2, 0, none⟩) 1 1] W fun e w' => ∃ ad cap, e = .returned (.tuple #[.slice ad 1 cap, .int .i64 0]) ∧ IRow w' ad [325] ∧ Below W.heap.size W w' :=
  (corrections_ok fs0 ss0 _ _ 2 1 W fok0 sok0 (by decide) (by decide) h1 h2).mono fun e w' ⟨v, he, ho, hb⟩ => by
    have ho' : w'.ownsRow W.heap.size 3 1 v 1 (([325] : List Int).map (Value.int .i64)) := by
      have : ss0.map (corr fs0) = [325] := by rw [ss0, List.map_cons, cor0]; rfl
      rw [this] at ho; exact ho
    obtain ⟨ad, cap, rfl, hI⟩ := Cal.ints_of_row rfl ho'
    exact ⟨ad, cap, he, hI, hb⟩
theorem nams0 (b1 b2 : Nat) (W : World) (h1 : FRow W (some ⟨b1, 0, none⟩) fs0) (h2 : SRow W (some ⟨b2, 0, none⟩) ss0) :
    Calls Try.prog 26 #[.slice (some ⟨b1, 0, none⟩) 2 2, .slice (some ⟨b2, 0, none⟩) 1 1, .int .i64 0] W fun e w' => ∃ ad cap, e = .returned (.tuple #[.slice ad 2 cap, .int .i64 0]) ∧ IRow w' ad [1, 4] ∧ Below W.heap.size W w' :=
  (named_ok fs0 ss0 0 ⟨2, 1, 1000⟩ rfl _ _ 2 1 W fok0 sok0 (by decide) (by decide) h1 h2).mono fun e w' ⟨v, he, ho, hb⟩ => by
    rw [fil0] at ho
    obtain ⟨ad, cap, rfl, hI⟩ := Cal.ints_of_row (zs := [1, 4]) rfl ho
    exact ⟨ad, cap, he, hI, hb⟩
theorem chks0 (b1 b2 : Nat) (W : World) (h1 : FRow W (some ⟨b1, 0, none⟩) fs0) (h2 : SRow W (some ⟨b2, 0, none⟩) ss0) :
    Calls Try.prog 22 #[.slice (some ⟨b1, 0, none⟩) 2 2, .slice (some ⟨b2, 0, none⟩) 1 1] W fun e w' => e = .returned (.int .i64 0) ∧ Below W.heap.size W w' :=
  check_ok fs0 ss0 _ _ 2 1 W fok0 sok0 (by decide) (by decide) h1 h2
set_option maxHeartbeats 400000 in
theorem down_92 (w : World) : Calls Try.prog 67 #[.int .i64 9, .int .i64 2] w fun e w' => e = .returned (.int .i64 4) ∧ w = w' := by
  go_enter Try.func67, Try.ntmps67
  go_wp2
  go_ret
  exact ⟨rfl, rfl⟩
theorem irow_new1 {w : World} {x : Int} {t : TypeId} : IRow (w.alloc (.cells #[.int .i64 x] t)) (some ⟨w.heap.size, 0, none⟩) [x] := by
  have h := heap_alloc_new w (.cells #[.int .i64 x] t)
  refine .inr ⟨_, 0, rfl, by simp, fun j hj => ?_⟩
  match j, hj with
  | 0, _ => rw [cell_of_row _ _ _ _ _ _ h]; rfl
theorem irow_new2 {w : World} {x y : Int} {t : TypeId} : IRow (w.alloc (.cells #[.int .i64 x, .int .i64 y] t)) (some ⟨w.heap.size, 0, none⟩) [x, y] := by
  have h := heap_alloc_new w (.cells #[.int .i64 x, .int .i64 y] t)
  refine .inr ⟨_, 0, rfl, by simp, fun j hj => ?_⟩
  match j, hj with
  | 0, _ => rw [cell_of_row _ _ _ _ _ _ h]; rfl
  | 1, _ => rw [cell_of_row _ _ _ _ _ _ h]; rfl

set_option maxRecDepth 100000 in
set_option maxHeartbeats 4000000 in
theorem awake_any (w : World) : Calls Try.prog 15 #[] w fun e w' => e = .returned (.bool true) ∧ Below w.heap.size w w' := by
  have k1 : Est.err 10 5 0 50 = 0 := by decide +kernel
  have k2 : Est.rat 10 (Est.upV 10 5 0 50) = 300 := by decide +kernel
  have hex := Lib.hid (fun W => k2 ▸ extra_ok 10 5 0 50 k1 W)
  have hfl := Lib.hid (fun W => flat_ok 2 (by decide) W)
  clear k1 k2
  go_enter Try.func15, Try.ntmps15
  go_wp2_with fail
  obtain ⟨W0, hW0⟩ : ∃ W, W = (w.alloc (.cells #[.int .i64 1, .int .i64 2, .int .i64 0, .int .i64 3, .int .i64 100, .int .i64 4, .int .i64 3, .int .i64 0, .int .i64 3, .int .i64 250] 32)).alloc (.cells #[.int .i64 2, .int .i64 1, .int .i64 1000] 36) := ⟨_, rfl⟩
  have hb0 : Below w.heap.size w W0 := by rw [hW0]; exact ((Below.refl _ w).alloc (Nat.le_refl _) _).alloc (by simp) _
  have hf := frow0 (W := W0) (b := w.heap.size) (t := 32) (by rw [hW0]; exact Keep.blk_below (heap_alloc_new w _) ((Below.refl _ _).alloc (Nat.le_refl _) _))
  have hs := srow0 (W := W0) (b := w.heap.size + 1) (t := 36) (by rw [hW0, show w.heap.size + 1 = (w.alloc (.cells #[.int .i64 1, .int .i64 2, .int .i64 0, .int .i64 3, .int .i64 100, .int .i64 4, .int .i64 3, .int .i64 0, .int .i64 3, .int .i64 250] 32)).heap.size by simp]; exact heap_alloc_new _ _)
  rw [← hW0]
  have hB := Lib.hid hb0
  have hF := Lib.hid hf
  have hS := Lib.hid hs
  clear hW0 hb0 hf hs
  refine (cors0 _ _ _ hF.out hS.out).mono ?_
  rintro e w1 ⟨ad1, cap1, rfl, hI, hb⟩
  have hI1 := Lib.hid hI
  replace hF := Lib.hid (hF.out.later hb)
  replace hS := Lib.hid (hS.out.later hb)
  replace hB := Lib.hid (hB.out.trans (hb.mono hB.out.size))
  clear hI hb
  go_wp2_with fail
  refine (nams0 _ _ _ hF.out hS.out).mono ?_
  rintro e w2 ⟨ad2, cap2, rfl, hI, hb⟩
  have hI2 := Lib.hid hI
  replace hI1 := Lib.hid (Cal.ints_later hI1.out hb)
  replace hF := Lib.hid (hF.out.later hb)
  replace hS := Lib.hid (hS.out.later hb)
  replace hB := Lib.hid (hB.out.trans (hb.mono hB.out.size))
  clear hI hb
  go_wp2_with (go_at_call 28; refine (hex.out _).mono ?_; rintro e w' ⟨rfl, rfl⟩)
  refine (chks0 _ _ _ hF.out hS.out).mono ?_
  rintro e w3 ⟨rfl, hb⟩
  replace hI1 := Lib.hid (Cal.ints_later hI1.out hb)
  replace hI2 := Lib.hid (Cal.ints_later hI2.out hb)
  replace hB := Lib.hid (hB.out.trans (hb.mono hB.out.size))
  clear hb
  go_wp2_with fail
  have hn1 := Lib.hid ((Below.refl w3.heap.size w3).alloc (Nat.le_refl _) (.cells #[.int .i64 325] 3))
  refine (ints_same [325] ad1 (some ⟨w3.heap.size, 0, none⟩) cap1 1 (by decide) _ (Cal.ints_later hI1.out hn1.out) irow_new1).mono ?_
  rintro e w4 ⟨rfl, hb⟩
  have hb4 := hn1.out.trans (hb.mono hn1.out.size)
  replace hI2 := Lib.hid (Cal.ints_later hI2.out hb4)
  replace hB := Lib.hid (hB.out.trans (hb4.mono hB.out.size))
  clear hb hb4 hn1 hI1
  go_wp2_with fail
  have hn1 := Lib.hid ((Below.refl w4.heap.size w4).alloc (Nat.le_refl _) (.cells #[.int .i64 1, .int .i64 4] 3))
  refine (ints_same [1, 4] ad2 (some ⟨w4.heap.size, 0, none⟩) cap2 2 (by decide) _ (Cal.ints_later hI2.out hn1.out) irow_new2).mono ?_
  rintro e w5 ⟨rfl, hb⟩
  have hb5 := hn1.out.trans (hb.mono hn1.out.size)
  replace hB := Lib.hid (hB.out.trans (hb5.mono hB.out.size))
  clear hb hb5 hn1 hI2
  go_wp2_with fail
  refine (hfl.out _).mono ?_
  rintro e w6 ⟨rfl, hb⟩
  have h50 : flatV 2 = 50 := rfl
  rw [h50]
  replace hB := Lib.hid (hB.out.trans (hb.mono hB.out.size))
  clear hb h50
  go_wp2_with (go_at_call 67; refine (down_92 _).mono ?_; rintro e w' ⟨rfl, rfl⟩)
  go_ret
  exact ⟨rfl, hB.out⟩
end Clr
end Go.Proofs.Ytmmekdkllccmdaa
