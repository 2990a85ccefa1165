/-
  The walks of package exact (Part, and what it calls) and of landaidref01's Part, for products below 2^62.
-/
import Derived.Test.YtmmekdkllccmdaaRows
import Derived.Test.YtmmekdkllccmdaaShelf
import Derived.WalkKit
import Derived.WalkSpells
import Derived.WalkLawsBesides
import Derived.BigQuiet
import Derived.Deep.QuietTactic
import Derived.Lib.Hide
namespace Go.Proofs.Ytmmekdkllccmdaa
open Go.RowKit
set_option linter.unusedVariables false
namespace Ex
theorem ret_int {k : IntKind} {a b : Int} (h : a = b) : Ending.returned (.int k a) = .returned (.int k b) := by rw [h]
theorem ret_bool {a b : Bool} (h : a = b) : Ending.returned (.bool a) = .returned (.bool b) := by rw [h]
theorem ret_pair {k l : IntKind} {a b c d : Int} (h : a = b) (h2 : c = d) : Ending.returned (.tuple #[.int k a, .int l c]) = .returned (.tuple #[.int k b, .int l d]) := by rw [h, h2]
theorem ret_three {k l : IntKind} {a b c d : Int} {x y : Bool} (h : a = b) (h2 : c = d) (h3 : x = y) : Ending.returned (.tuple #[.int k a, .int l c, .bool x]) = .returned (.tuple #[.int k b, .int l d, .bool y]) := by rw [h, h2, h3]
theorem below_drewN {B : Nat} {a w : World} (h : Below B a w) (n : Nat) : Below B a (w.drewN n) := ⟨h.os, h.tape, h.output, h.size, h.block⟩

theorem mul64 (x y : Nat) (h : x * y < 18446744073709551616) (hx : x < 18446744073709551616) (hy : y < 18446744073709551616) (w : World) :
    Calls Try.prog 135 #[.int .u64 x, .int .u64 y] w fun e w' => e = .returned (.tuple #[.int .u64 0, .int .u64 ((x * y : Nat) : Int)]) ∧ w = w' :=
  (Try.bits_Mul64 x y hx hy w).mono fun e w' ⟨h1, h2⟩ => ⟨by rw [h1, Nat.div_eq_of_lt h, Nat.mod_eq_of_lt h]; rfl, h2.symm⟩

set_option maxHeartbeats 400000 in
theorem div64 (lo y : Nat) (hl : lo < 18446744073709551616) (hy : 1 ≤ y) (hy2 : y < 18446744073709551616) (w : World) :
    Calls Try.prog 134 #[.int .u64 0, .int .u64 lo, .int .u64 y] w fun e w' => e = .returned (.tuple #[.int .u64 ((lo / y : Nat) : Int), .int .u64 ((lo % y : Nat) : Int)]) ∧ ∃ n, w' = w.drewN n := by
  have h1 : ((y : Int) == 0) = false := beq_eq_false_iff_ne.2 (by omega)
  have h2 : ¬ (y : Int) ≤ 0 := by omega
  obtain ⟨q, hq⟩ : ∃ q, q = lo / y := ⟨_, rfl⟩
  obtain ⟨r, hr⟩ : ∃ r, r = lo % y := ⟨_, rfl⟩
  have k1 : (lo : Int).tdiv y = (q : Int) := by rw [hq]; rfl
  have k2 : (lo : Int).tmod y = (r : Int) := by rw [hr]; rfl
  have b1 : q ≤ lo := by rw [hq]; exact Nat.div_le_self _ _
  have b2 : r < y := by rw [hr]; exact Nat.mod_lt _ (by omega)
  rw [← hq, ← hr]
  clear hq hr
  have k3 : IntKind.u64.wrap (q : Int) = q := IntWalk.u64_in _ (by omega)
  have k3' := Lib.hid k3
  have k1' := Lib.hid k1
  have k2' := Lib.hid k2
  clear k1 k2 k3
  go_enter Try.func134, Try.ntmps134
  go_wp2
  have j1 := k1'.out
  have j2 := k2'.out
  have j3 := k3'.out
  clear h1 h2
  have h3 : (y : Int) ≠ 0 := by omega
  go_quiet (fail)
  go_wp2
  go_ret2
  exact ⟨rfl, _, rfl⟩
theorem limited_yes (n : Int) (w : World) (h : 0 ≤ n) (h2 : n ≤ 1099511627776) :
    Calls Try.prog 112 #[.int .i64 n] w fun e w' => e = .returned (.bool true) ∧ w = w' := by
  go_enter Try.func112, Try.ntmps112
  go_wp2
  go_ret
  exact ⟨rfl, rfl⟩

set_option maxHeartbeats 400000 in
theorem product_any (x y : Nat) (h : x * y < 18446744073709551616) (hx : x ≤ 1099511627776) (hy : y ≤ 1099511627776) (w : World) :
    Calls Try.prog 133 #[.int .i64 x, .int .i64 y] w fun e w' => e = .returned (.agg #[.int .u64 0, .int .u64 ((x * y : Nat) : Int)]) ∧ Below w.heap.size w w' := by
  go_enter Try.func133, Try.ntmps133
  go_wp2_with fail
  refine (mul64 x y h (by omega) (by omega) _).mono ?_
  rintro e w' ⟨rfl, rfl⟩
  go_wp2
  refine bodyPost_ret (v := .agg #[.int .u64 0, .int .u64 ((x * y : Nat) : Int)]) (by simp [results, Try.results133, go_sem]) rfl ⟨rfl, ?_⟩
  exact (Below.refl _ _).alloc (Nat.le_refl _) _

theorem bcell {W w1 : World} (hb : Below W.heap.size W w1) : (∀ b o, b < W.heap.size → w1.cell? ⟨b, o, none⟩ = W.cell? ⟨b, o, none⟩) ∧ (∀ b o, b < W.heap.size → w1.frozen? ⟨b, o, none⟩ = W.frozen? ⟨b, o, none⟩) :=
  ⟨fun b o h => hb.cell (p := ⟨b, o, none⟩) h, fun b o h => hb.frozen (p := ⟨b, o, none⟩) h⟩

set_option maxHeartbeats 400000 in
theorem divide_any (t p wh : Nat) (h : t * p ≤ 1125899906842624) (ht : t ≤ 1099511627776) (hp : p ≤ 1099511627776) (hw : 1 ≤ wh) (hw2 : wh ≤ 1099511627776) (w : World) :
    Calls Try.prog 113 #[.int .i64 t, .int .i64 p, .int .i64 wh] w fun e w' => e = .returned (.tuple #[.int .i64 ((t * p / wh : Nat) : Int), .int .i64 ((t * p % wh : Nat) : Int)]) ∧ Below w.heap.size w w' := by
  obtain ⟨m, hm⟩ : ∃ m, m = t * p := ⟨_, rfl⟩
  have hpr := product_any t p (by omega) ht hp w
  rw [← hm] at h hpr ⊢
  have b1 : m / wh ≤ m := Nat.div_le_self _ _
  have b2 : m % wh < wh := Nat.mod_lt _ (by omega)
  have hd := fun W => div64 m wh (by omega) hw (by omega) W
  obtain ⟨q, hq⟩ : ∃ q, q = m / wh := ⟨_, rfl⟩
  obtain ⟨r, hr⟩ : ∃ r, r = m % wh := ⟨_, rfl⟩
  rw [← hq] at b1 hd ⊢
  rw [← hr] at b2 hd ⊢
  clear hq hr hm
  have hd' := Lib.hid hd
  have hpr' := Lib.hid hpr
  clear hd hpr
  go_enter Try.func113, Try.ntmps113
  go_wp2_with fail
  refine hpr'.out.mono ?_
  rintro e w1 ⟨rfl, hb⟩
  go_wp2_with fail
  refine (hd'.out _).mono ?_
  rintro e w2 ⟨rfl, n, rfl⟩
  go_wp2
  go_ret2
  exact ⟨ret_pair (show min (q : Int) 1125899906842625 = q by omega) rfl, below_drewN (hb.alloc hb.size _) n⟩

set_option maxHeartbeats 400000 in
theorem part_any (t p wh : Nat) (h : t * p ≤ 1125899906842624) (ht : t ≤ 1099511627776) (hp : p ≤ 1099511627776) (hw : 1 ≤ wh) (hw2 : wh ≤ 1099511627776) (w : World) :
    Calls Try.prog 73 #[.int .i64 t, .int .i64 p, .int .i64 wh] w fun e w' => e = .returned (.tuple #[.int .i64 ((t * p / wh : Nat) : Int), .int .i64 0]) ∧ Below w.heap.size w w' := by
  have hd := divide_any t p wh h ht hp hw hw2 w
  have b1 : t * p / wh ≤ t * p := Nat.div_le_self _ _
  obtain ⟨q, hq⟩ : ∃ q, q = t * p / wh := ⟨_, rfl⟩
  obtain ⟨r, hr⟩ : ∃ r, r = t * p % wh := ⟨_, rfl⟩
  rw [← hq] at b1 hd ⊢
  rw [← hr] at hd
  have hq2 : q ≤ 1125899906842624 := by omega
  clear hq hr b1 h
  have hd' := Lib.hid hd
  clear hd
  go_enter Try.func73, Try.ntmps73
  go_wp2_with (go_at_call 112; refine (limited_yes _ _ (by omega) (by omega)).mono ?_; rintro e w' ⟨rfl, rfl⟩)
  refine hd'.out.mono ?_
  rintro e w1 ⟨rfl, hb⟩
  go_wp2
  go_ret2
  exact ⟨rfl, hb⟩

set_option maxRecDepth 100000 in
set_option maxHeartbeats 400000 in
theorem rdivide_any (t p wh : Nat) (h : t * p ≤ 1125899906842624) (ht : t ≤ 1099511627776) (hp : p ≤ 1099511627776) (hw : 1 ≤ wh) (hw2 : wh ≤ 1099511627776) (w : World) :
    Calls Try.prog 114 #[.int .i64 t, .int .i64 p, .int .i64 wh] w fun e w' => e = .returned (.tuple #[.int .i64 ((t * p / wh : Nat) : Int), .int .i64 ((t * p % wh : Nat) : Int), .bool true]) ∧ Below w.heap.size w w' := by
  obtain ⟨m, hm⟩ : ∃ m, m = t * p := ⟨_, rfl⟩
  have hpr := mul64 t p (by omega) (by omega) (by omega) w
  rw [← hm] at h hpr ⊢
  have b1 : m / wh ≤ m := Nat.div_le_self _ _
  have b2 : m % wh < wh := Nat.mod_lt _ (by omega)
  have hd := fun W => div64 m wh (by omega) hw (by omega) W
  obtain ⟨q, hq⟩ : ∃ q, q = m / wh := ⟨_, rfl⟩
  obtain ⟨r, hr⟩ : ∃ r, r = m % wh := ⟨_, rfl⟩
  rw [← hq] at b1 hd ⊢
  rw [← hr] at b2 hd ⊢
  clear hq hr hm
  have hd' := Lib.hid hd
  have hpr' := Lib.hid hpr
  clear hd hpr
  go_enter Try.func114, Try.ntmps114
  go_wp2_with fail
  refine hpr'.out.mono ?_
  rintro e w1 ⟨rfl, rfl⟩
  go_wp2_with fail
  refine (hd'.out _).mono ?_
  rintro e w2 ⟨rfl, n, rfl⟩
  go_wp2
  go_ret3
  exact ⟨ret_three (by omega) (by omega) (by simp; omega), below_drewN (Below.refl _ _) n⟩

set_option maxHeartbeats 400000 in
theorem rpart_any (t p wh : Nat) (h : t * p ≤ 1125899906842624) (ht : t ≤ 1099511627776) (hp : p ≤ 1099511627776) (hw : 1 ≤ wh) (hw2 : wh ≤ 1099511627776) (w : World) :
    Calls Try.prog 75 #[.int .i64 t, .int .i64 p, .int .i64 wh] w fun e w' => e = .returned (.tuple #[.int .i64 ((t * p / wh : Nat) : Int), .int .i64 0]) ∧ Below w.heap.size w w' := by
  have hd := rdivide_any t p wh h ht hp hw hw2 w
  have b1 : t * p / wh ≤ t * p := Nat.div_le_self _ _
  obtain ⟨q, hq⟩ : ∃ q, q = t * p / wh := ⟨_, rfl⟩
  obtain ⟨r, hr⟩ : ∃ r, r = t * p % wh := ⟨_, rfl⟩
  rw [← hq] at b1 hd ⊢
  rw [← hr] at hd
  have hq2 : q ≤ 1125899906842624 := by omega
  clear hq hr b1 h
  have hd' := Lib.hid hd
  clear hd
  go_enter Try.func75, Try.ntmps75
  go_wp2_with fail
  refine hd'.out.mono ?_
  rintro e w1 ⟨rfl, hb⟩
  go_wp2
  go_ret2
  exact ⟨rfl, hb⟩
end Ex
end Go.Proofs.Ytmmekdkllccmdaa
