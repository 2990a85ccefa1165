/-
  Chapter 41: findings and amounts; the walks of right, fact, cmp.Compare, cmp.Or, after.
-/
import Derived.Test.YtmmekdkllccmdaaCalLawsC
import Derived.Deep.RegionHeld3
import Derived.Test.YtmmekdkllccmdaaKeep
namespace Go.Proofs.Ytmmekdkllccmdaa
open Go.RowKit Go.Sort
set_option linter.unusedVariables false
namespace Clr
open Cal (ret_bool ret_int int_eq cell_later)
structure Fd where
  n : Int
  s : Int
  f : Int
  u : Int
  m : Int
instance : Inhabited Fd := ⟨⟨0, 0, 0, 0, 0⟩⟩
structure Sp where
  y : Int
  s : Int
  a : Int
instance : Inhabited Sp := ⟨⟨0, 0, 0⟩⟩
def Fd.vs (x : Fd) : List Value := [.int .i64 x.n, .int .i64 x.s, .int .i64 x.f, .int .i64 x.u, .int .i64 x.m]
def Sp.vs (x : Sp) : List Value := [.int .i64 x.y, .int .i64 x.s, .int .i64 x.a]
def Fd.ok (x : Fd) : Prop := 1 ≤ x.n ∧ x.n ≤ 1125899906842624 ∧ 1 ≤ x.s ∧ x.s < 65536 ∧ 0 ≤ x.f ∧ x.f ≤ x.u ∧ x.u ≤ 100 ∧ 1 ≤ x.m ∧ x.m ≤ 1000
def Sp.ok (x : Sp) : Prop := 0 ≤ x.y ∧ x.y ≤ 100 ∧ 0 ≤ x.s ∧ x.s ≤ 15 ∧ 0 ≤ x.a ∧ x.a ≤ 68719476736

set_option maxHeartbeats 400000 in
theorem right_ok (x : Fd) (h : x.ok) (w : World) : Calls Try.prog 76 #[.agg #[.int .i64 x.n, .int .i64 x.s, .int .i64 x.f, .int .i64 x.u, .int .i64 x.m]] w fun e w' => e = .returned (.bool true) ∧ Below w.heap.size w w' := by
  obtain ⟨n, s, f, u, m⟩ := x
  obtain ⟨h1, h2, h3, h4, h5, h6, h7, h8, h9⟩ := h
  simp only at h1 h2 h3 h4 h5 h6 h7 h8 h9 ⊢
  go_enter Try.func76, Try.ntmps76
  go_wp2
  go_ret
  exact ⟨rfl, (Below.refl _ _).alloc (Nat.le_refl _) _⟩

set_option maxHeartbeats 400000 in
theorem fact_ok (x : Sp) (h : x.ok) (w : World) : Calls Try.prog 77 #[.agg #[.int .i64 x.y, .int .i64 x.s, .int .i64 x.a]] w fun e w' => e = .returned (.bool true) ∧ Below w.heap.size w w' := by
  obtain ⟨y, s, a⟩ := x
  obtain ⟨h1, h2, h3, h4, h5, h6⟩ := h
  simp only at h1 h2 h3 h4 h5 h6 ⊢
  go_enter Try.func77, Try.ntmps77
  go_wp2
  go_ret
  exact ⟨rfl, (Below.refl _ _).alloc (Nat.le_refl _) _⟩

def cmpI (a b : Int) : Int := if a < b then -1 else if b < a then 1 else 0
theorem nan_any (x : Int) (w : World) : Calls Try.prog 111 #[.int .i64 x] w fun e w' => e = .returned (.bool false) ∧ w = w' := by
  go_enter Try.func111, Try.ntmps111
  go_wp2
  go_ret
  exact ⟨ret_bool (by simp), rfl⟩
theorem compare_any (a b : Int) (w : World) : Calls Try.prog 72 #[.int .i64 a, .int .i64 b] w fun e w' => e = .returned (.int .i64 (cmpI a b)) ∧ w = w' := by
  have h : a < b ∨ (¬ a < b ∧ b < a) ∨ (¬ a < b ∧ ¬ b < a) := by omega
  rcases h with h | ⟨h, h2⟩ | ⟨h, h2⟩
  · rw [show cmpI a b = -1 by unfold cmpI; rw [if_pos h]]
    go_enter Try.func72, Try.ntmps72
    go_wp2_with (go_at_call 111; refine (nan_any _ _).mono ?_; rintro e w' ⟨rfl, rfl⟩)
    go_ret
    exact ⟨rfl, rfl⟩
  · rw [show cmpI a b = 1 by unfold cmpI; rw [if_neg h, if_pos h2]]
    go_enter Try.func72, Try.ntmps72
    go_wp2_with (go_at_call 111; refine (nan_any _ _).mono ?_; rintro e w' ⟨rfl, rfl⟩)
    go_ret
    exact ⟨rfl, rfl⟩
  · rw [show cmpI a b = 0 by unfold cmpI; rw [if_neg h, if_neg h2]]
    go_enter Try.func72, Try.ntmps72
    go_wp2_with (go_at_call 111; refine (nan_any _ _).mono ?_; rintro e w' ⟨rfl, rfl⟩)
    go_ret
    exact ⟨rfl, rfl⟩

set_option maxHeartbeats 400000 in
theorem or2_any (b : Nat) (x y : Int) (cap : Nat) (w : World) (c0 : w.cell? ⟨b, 0, none⟩ = some (.int .i64 x)) (c1 : w.cell? ⟨b, 1, none⟩ = some (.int .i64 y)) :
    Calls Try.prog 105 #[.slice (some ⟨b, 0, none⟩) 2 cap] w fun e w' => e = .returned (.int .i64 (if x = 0 then y else x)) ∧ w = w' := by
  by_cases hx : x = 0
  · rw [if_pos hx]
    have hx2 : (x != 0) = false := by simp [hx]
    have hx' := Lib.hid hx
    clear hx
    by_cases hy : y = 0
    · subst hy
      go_enter Try.func105, Try.ntmps105
      go_wp2
      refine wp_loop_rounds 3 ?_
      rw [rounds_succ]
      go_wp2
      rw [rounds_succ]
      go_wp2
      rw [rounds_succ]
      go_wp2
      go_ret
      exact ⟨rfl, rfl⟩
    · have hy2 : (y != 0) = true := by simp [hy]
      go_enter Try.func105, Try.ntmps105
      go_wp2
      refine wp_loop_rounds 3 ?_
      rw [rounds_succ]
      go_wp2
      rw [rounds_succ]
      go_wp2
      go_ret
      exact ⟨rfl, rfl⟩
  · rw [if_neg hx]
    have hx2 : (x != 0) = true := by simp [hx]
    go_enter Try.func105, Try.ntmps105
    go_wp2
    refine wp_loop_rounds 3 ?_
    rw [rounds_succ]
    go_wp2
    go_ret
    exact ⟨rfl, rfl⟩

theorem cells_box2d {w : World} {v0 v1 : Value} {t : TypeId} : (w.alloc (.cells #[v0, v1] t)).drew.cell? ⟨w.heap.size, 0, none⟩ = some v0 ∧ (w.alloc (.cells #[v0, v1] t)).drew.cell? ⟨w.heap.size, 1, none⟩ = some v1 := Cal.cells_box2
def aft (a b : Sp) : Int := if cmpI a.y b.y = 0 then cmpI a.s b.s else cmpI a.y b.y
set_option maxHeartbeats 1600000 in
theorem after_any (p q : Sp) (w : World) :
    Calls Try.prog 78 #[.agg #[.int .i64 p.y, .int .i64 p.s, .int .i64 p.a], .agg #[.int .i64 q.y, .int .i64 q.s, .int .i64 q.a]] w fun e w' => e = .returned (.int .i64 (aft p q)) ∧ Below w.heap.size w w' := by
  obtain ⟨y, s, a⟩ := p
  obtain ⟨y2, s2, a2⟩ := q
  simp only [aft]
  obtain ⟨x, hx⟩ : ∃ x, cmpI y y2 = x := ⟨_, rfl⟩
  obtain ⟨z, hz⟩ : ∃ z, cmpI s s2 = z := ⟨_, rfl⟩
  rw [hx, hz]
  obtain ⟨R, hR⟩ : ∃ R, (if x = 0 then z else x) = R := ⟨_, rfl⟩
  rw [hR]
  go_enter Try.func78, Try.ntmps78
  go_upto_region 1 with fail
  have hB0 := Lib.hid (((Below.refl w.heap.size w).alloc (Nat.le_refl _) (.cells #[.int .i64 y, .int .i64 s, .int .i64 a] 36)).alloc (by simp) (.cells #[.int .i64 y2, .int .i64 s2, .int .i64 a2] 36))
  have h1 := Keep.blk_cells3 (Keep.blk_below (heap_alloc_new w (.cells #[.int .i64 y, .int .i64 s, .int .i64 a] 36)) ((Below.refl _ _).alloc (Nat.le_refl _) (.cells #[.int .i64 y2, .int .i64 s2, .int .i64 a2] 36)))
  have h2 := Keep.blk_cells3 (heap_alloc_new (w.alloc (.cells #[.int .i64 y, .int .i64 s, .int .i64 a] 36)) (.cells #[.int .i64 y2, .int .i64 s2, .int .i64 a2] 36))
  rw [show (w.alloc (.cells #[.int .i64 y, .int .i64 s, .int .i64 a] 36)).heap.size = w.heap.size + 1 by simp] at h2
  obtain ⟨W, hW⟩ : ∃ W, W = (w.alloc (.cells #[.int .i64 y, .int .i64 s, .int .i64 a] 36)).alloc (.cells #[.int .i64 y2, .int .i64 s2, .int .i64 a2] 36) := ⟨_, rfl⟩
  have hB := hB0.out
  rw [← hW] at h1 h2 hB ⊢
  obtain ⟨c0, c1, _, _⟩ := h1
  obtain ⟨c2, c3, _, _⟩ := h2
  obtain ⟨b, hb⟩ : ∃ b, w.heap.size = b := ⟨_, rfl⟩
  rw [hb] at c0 c1 c2 c3 ⊢
  have hB' := Lib.hid hB
  clear hW hB0 hb hB
  go_region_held3 (fun W' => W'.cell? ⟨b, 0, none⟩ = some (.int .i64 y) ∧ W'.cell? ⟨b, 1, none⟩ = some (.int .i64 s) ∧ W'.cell? ⟨b + 1, 0, none⟩ = some (.int .i64 y2) ∧ W'.cell? ⟨b + 1, 1, none⟩ = some (.int .i64 s2)) (go_keep) (first | (go_at_call 72; refine (compare_any _ _ _).mono ?_; rintro e w' ⟨rfl, rfl⟩) | (go_at_call 105; refine (or2_any _ _ _ _ _ cells_box2d.1 cells_box2d.2).mono ?_; rw [hR]; rintro e w' ⟨rfl, rfl⟩))
  all_goals
    go_wp2
    go_ret
    exact ⟨rfl, (hB'.out.alloc hB'.out.size _).drew⟩
end Clr
end Go.Proofs.Ytmmekdkllccmdaa
