/-
  Layings of slices.SortFunc at doubles and at pairs of integers.
-/
import Derived.Shelf.SlSortCmp.NoneTotal
import Derived.Shelf.SlicesG.Cmp
import Derived.Shelf.Spec.SlicesGrow
import Derived.Ground.SlsfProg
import Derived.Ground.SlgcProg
import Derived.Ground.Names8Prog
import Derived.Test.YtblcakaohlgagaaGreatUReg
import Derived.Test.YtblcakaohlgagaaGreatUEngC
import Derived.Test.YtblcakaohlgagaaGreatUPlain
import Derived.Test.YtblcakaohlgagaaGreatProg
import Derived.WalkKit
import Derived.WalkSpells
import Derived.WalkLawsBesides
import Derived.BigQuiet
import Derived.Deep.QuietTactic
import Derived.Lib.Hide
import Derived.Lib.Small
import Derived.Deep.RegionHeld3
import Derived.Deep.DeepCutAuto
import Derived.Deep.CutBlock
import Derived.Test.YtblcakaohlgagaaGreatUCopB
import Derived.Test.YtblcakaohlgagaaGreatUCopC
namespace Go.Proofs
open Go.Shelf
def Tryz.sortDp_ren : Go.Shelf.Ren := ⟨fun | 6 => 54 | 15 => 98 | 14 => 97 | 28 => 122 | 29 => 123 | 20 => 114 | 21 => 115 | 22 => 116 | 23 => 117 | 24 => 118 | 25 => 119 | 26 => 120 | 27 => 121 | 46 => 138 | 47 => 139 | 48 => 140 | 49 => 141 | 50 => 142 | 57 => 164 | n => n, fun | 22 => 29 | 24 => 47 | 25 => 107 | 3 => 3 | 39 => 144 | 0 => 0 | 53 => 173 | 55 => 175 | 4 => 4 | 46 => 166 | 45 => 165 | 50 => 170 | 5 => 5 | 9 => 9 | 66 => 187 | 70 => 191 | 76 => 207 | 77 => 208 | n => n, fun | n => n⟩
theorem Tryz.sortDp : Go.Proofs.SlLaysF0.n6 Tryz.prog Tryz.sortDp_ren := {
  mixed := by kernel_rfl
  f6 := ⟨Tryz.f54.name, by decide, Tryz.func54.trans (congrArg some (by kernel_rfl))⟩
  f14 := ⟨Tryz.f97.name, by decide, Tryz.func97.trans (congrArg some (by kernel_rfl))⟩
  f15 := Tryz.func98.trans (congrArg some (by kernel_rfl))
  f20 := ⟨Tryz.f114.name, by decide, Tryz.func114.trans (congrArg some (by kernel_rfl))⟩
  f21 := ⟨Tryz.f115.name, by decide, Tryz.func115.trans (congrArg some (by kernel_rfl))⟩
  f22 := ⟨Tryz.f116.name, by decide, Tryz.func116.trans (congrArg some (by kernel_rfl))⟩
  f23 := ⟨Tryz.f117.name, by decide, Tryz.func117.trans (congrArg some (by kernel_rfl))⟩
  f24 := ⟨Tryz.f118.name, by decide, Tryz.func118.trans (congrArg some (by kernel_rfl))⟩
  f25 := ⟨Tryz.f119.name, by decide, Tryz.func119.trans (congrArg some (by kernel_rfl))⟩
  f26 := ⟨Tryz.f120.name, by decide, Tryz.func120.trans (congrArg some (by kernel_rfl))⟩
  f27 := ⟨Tryz.f121.name, by decide, Tryz.func121.trans (congrArg some (by kernel_rfl))⟩
  f28 := Tryz.func122.trans (congrArg some (by kernel_rfl))
  f29 := Tryz.func123.trans (congrArg some (by kernel_rfl))
  f46 := ⟨Tryz.f138.name, by decide, Tryz.func138.trans (congrArg some (by kernel_rfl))⟩
  f47 := Tryz.func139.trans (congrArg some (by kernel_rfl))
  f48 := Tryz.func140.trans (congrArg some (by kernel_rfl))
  f49 := ⟨Tryz.f141.name, by decide, Tryz.func141.trans (congrArg some (by kernel_rfl))⟩
  f50 := ⟨Tryz.f142.name, by decide, Tryz.func142.trans (congrArg some (by kernel_rfl))⟩
  f57 := ⟨Tryz.f164.name, by decide, Tryz.func164.trans (congrArg some (by kernel_rfl))⟩
  t0 := Tryz.underlying0
  a0 := Tryz.isAgg0
  z0 := Tryz.sizeOf0
  v0 := Tryz.zeroValue0
  t3 := Tryz.underlying3
  a3 := Tryz.isAgg3
  z3 := Tryz.sizeOf3
  v3 := Tryz.zeroValue3
  t4 := Tryz.underlying4
  a4 := Tryz.isAgg4
  z4 := Tryz.sizeOf4
  v4 := Tryz.zeroValue4
  t5 := Tryz.underlying5
  a5 := Tryz.isAgg5
  z5 := Tryz.sizeOf5
  v5 := Tryz.zeroValue5
  t9 := Tryz.underlying9
  a9 := Tryz.isAgg9
  z9 := Tryz.sizeOf9
  v9 := Tryz.zeroValue9
  t22 := Tryz.underlying29
  a22 := Tryz.isAgg29
  z22 := Tryz.sizeOf29
  v22 := Tryz.zeroValue29
  t25 := Tryz.underlying107
  a25 := Tryz.isAgg107
  z25 := Tryz.sizeOf107
  v25 := Tryz.zeroValue107
  t39 := Tryz.underlying144
  a39 := Tryz.isAgg144
  z39 := Tryz.sizeOf144
  v39 := Tryz.zeroValue144
  t45 := Tryz.underlying165
  a45 := Tryz.isAgg165
  z45 := Tryz.sizeOf165
  v45 := Tryz.zeroValue165
  t46 := Tryz.underlying166
  a46 := Tryz.isAgg166
  z46 := Tryz.sizeOf166
  v46 := Tryz.zeroValue166
  t50 := Tryz.underlying170
  a50 := Tryz.isAgg170
  z50 := Tryz.sizeOf170
  v50 := Tryz.zeroValue170
  t53 := Tryz.underlying173
  a53 := Tryz.isAgg173
  z53 := Tryz.sizeOf173
  v53 := Tryz.zeroValue173
  t55 := Tryz.underlying175
  a55 := Tryz.isAgg175
  z55 := Tryz.sizeOf175
  v55 := Tryz.zeroValue175
  t66 := Tryz.underlying187
  a66 := Tryz.isAgg187
  z66 := Tryz.sizeOf187
  v66 := Tryz.zeroValue187
  t70 := Tryz.underlying191
  a70 := Tryz.isAgg191
  z70 := Tryz.sizeOf191
  v70 := Tryz.zeroValue191
  t76 := Tryz.underlying207
  a76 := Tryz.isAgg207
  z76 := Tryz.sizeOf207
  v76 := Tryz.zeroValue207
  t77 := Tryz.underlying208
  a77 := Tryz.isAgg208
  z77 := Tryz.sizeOf208
  v77 := Tryz.zeroValue208 }
def Tryz.sortAp_ren : Go.Shelf.Ren := ⟨fun | 6 => 64 | 15 => 98 | 14 => 102 | 28 => 122 | 29 => 123 | 20 => 125 | 21 => 126 | 22 => 127 | 23 => 128 | 24 => 129 | 25 => 130 | 26 => 131 | 27 => 132 | 46 => 143 | 47 => 139 | 48 => 140 | 49 => 144 | 50 => 145 | 57 => 165 | n => n, fun | 22 => 67 | 24 => 70 | 25 => 117 | 3 => 3 | 39 => 144 | 0 => 0 | 53 => 173 | 55 => 175 | 4 => 4 | 46 => 166 | 45 => 165 | 50 => 170 | 5 => 5 | 9 => 9 | 66 => 187 | 70 => 191 | 76 => 207 | 77 => 208 | n => n, fun | n => n⟩
theorem Tryz.sortAp : Go.Proofs.SlLaysF0.n6 Tryz.prog Tryz.sortAp_ren := {
  mixed := by kernel_rfl
  f6 := ⟨Tryz.f64.name, by decide, Tryz.func64.trans (congrArg some (by kernel_rfl))⟩
  f14 := ⟨Tryz.f102.name, by decide, Tryz.func102.trans (congrArg some (by kernel_rfl))⟩
  f15 := Tryz.func98.trans (congrArg some (by kernel_rfl))
  f20 := ⟨Tryz.f125.name, by decide, Tryz.func125.trans (congrArg some (by kernel_rfl))⟩
  f21 := ⟨Tryz.f126.name, by decide, Tryz.func126.trans (congrArg some (by kernel_rfl))⟩
  f22 := ⟨Tryz.f127.name, by decide, Tryz.func127.trans (congrArg some (by kernel_rfl))⟩
  f23 := ⟨Tryz.f128.name, by decide, Tryz.func128.trans (congrArg some (by kernel_rfl))⟩
  f24 := ⟨Tryz.f129.name, by decide, Tryz.func129.trans (congrArg some (by kernel_rfl))⟩
  f25 := ⟨Tryz.f130.name, by decide, Tryz.func130.trans (congrArg some (by kernel_rfl))⟩
  f26 := ⟨Tryz.f131.name, by decide, Tryz.func131.trans (congrArg some (by kernel_rfl))⟩
  f27 := ⟨Tryz.f132.name, by decide, Tryz.func132.trans (congrArg some (by kernel_rfl))⟩
  f28 := Tryz.func122.trans (congrArg some (by kernel_rfl))
  f29 := Tryz.func123.trans (congrArg some (by kernel_rfl))
  f46 := ⟨Tryz.f143.name, by decide, Tryz.func143.trans (congrArg some (by kernel_rfl))⟩
  f47 := Tryz.func139.trans (congrArg some (by kernel_rfl))
  f48 := Tryz.func140.trans (congrArg some (by kernel_rfl))
  f49 := ⟨Tryz.f144.name, by decide, Tryz.func144.trans (congrArg some (by kernel_rfl))⟩
  f50 := ⟨Tryz.f145.name, by decide, Tryz.func145.trans (congrArg some (by kernel_rfl))⟩
  f57 := ⟨Tryz.f165.name, by decide, Tryz.func165.trans (congrArg some (by kernel_rfl))⟩
  t0 := Tryz.underlying0
  a0 := Tryz.isAgg0
  z0 := Tryz.sizeOf0
  v0 := Tryz.zeroValue0
  t3 := Tryz.underlying3
  a3 := Tryz.isAgg3
  z3 := Tryz.sizeOf3
  v3 := Tryz.zeroValue3
  t4 := Tryz.underlying4
  a4 := Tryz.isAgg4
  z4 := Tryz.sizeOf4
  v4 := Tryz.zeroValue4
  t5 := Tryz.underlying5
  a5 := Tryz.isAgg5
  z5 := Tryz.sizeOf5
  v5 := Tryz.zeroValue5
  t9 := Tryz.underlying9
  a9 := Tryz.isAgg9
  z9 := Tryz.sizeOf9
  v9 := Tryz.zeroValue9
  t22 := Tryz.underlying67
  a22 := Tryz.isAgg67
  z22 := Tryz.sizeOf67
  v22 := Tryz.zeroValue67
  t25 := Tryz.underlying117
  a25 := Tryz.isAgg117
  z25 := Tryz.sizeOf117
  v25 := Tryz.zeroValue117
  t39 := Tryz.underlying144
  a39 := Tryz.isAgg144
  z39 := Tryz.sizeOf144
  v39 := Tryz.zeroValue144
  t45 := Tryz.underlying165
  a45 := Tryz.isAgg165
  z45 := Tryz.sizeOf165
  v45 := Tryz.zeroValue165
  t46 := Tryz.underlying166
  a46 := Tryz.isAgg166
  z46 := Tryz.sizeOf166
  v46 := Tryz.zeroValue166
  t50 := Tryz.underlying170
  a50 := Tryz.isAgg170
  z50 := Tryz.sizeOf170
  v50 := Tryz.zeroValue170
  t53 := Tryz.underlying173
  a53 := Tryz.isAgg173
  z53 := Tryz.sizeOf173
  v53 := Tryz.zeroValue173
  t55 := Tryz.underlying175
  a55 := Tryz.isAgg175
  z55 := Tryz.sizeOf175
  v55 := Tryz.zeroValue175
  t66 := Tryz.underlying187
  a66 := Tryz.isAgg187
  z66 := Tryz.sizeOf187
  v66 := Tryz.zeroValue187
  t70 := Tryz.underlying191
  a70 := Tryz.isAgg191
  z70 := Tryz.sizeOf191
  v70 := Tryz.zeroValue191
  t76 := Tryz.underlying207
  a76 := Tryz.isAgg207
  z76 := Tryz.sizeOf207
  v76 := Tryz.zeroValue207
  t77 := Tryz.underlying208
  a77 := Tryz.isAgg208
  z77 := Tryz.sizeOf208
  v77 := Tryz.zeroValue208 }
end Go.Proofs
set_option linter.unusedVariables false
set_option maxRecDepth 100000
namespace Go.Proofs.YtblcakaohlgagaaGreat
open Go.RowKit Go.Sort Go.Lib
namespace RE
namespace PL
def orI (x y : Int) : Int := if x ≠ 0 then x else y
/-- Two places compared. -/
def cmpP (a b : api_Place) : Int := orI (Lib.compareInt a.1 b.1) (Lib.compareInt a.2 b.2)
/-- Two lists of places compared. -/
def cmpL : List api_Place → List api_Place → Int
  | [], [] => 0
  | [], _ :: _ => -1
  | _ :: _, [] => 1
  | a :: s, b :: t => if cmpP a b ≠ 0 then cmpP a b else cmpL s t
end PL
open PL
theorem cell_row2 {W : World} {b o : Nat} {x y : Value} {t : TypeId} (h : W.heap[b]? = some (.cells #[x, y] t (0, 0))) : W.cell? ⟨b, 0, none⟩ = some x ∧ W.cell? ⟨b, 1, none⟩ = some y := by
  constructor <;> simp [World.cell?, h]
theorem keep_alloc {W : World} {b k : Nat} {v : Value} (o : Obj) (l : b < W.heap.size) (h : W.drew.cell? ⟨b, k, none⟩ = some v) : (W.alloc o).drew.cell? ⟨b, k, none⟩ = some v := by
  rw [← h]
  exact World.cell?_of_block (Below.heap_alloc W o b l)
theorem World.cell?_of_new2 {W : World} {x y : Value} (t : TypeId) : (W.alloc (.cells #[x, y] t)).drew.cell? ⟨W.heap.size, 0, none⟩ = some x ∧ (W.alloc (.cells #[x, y] t)).drew.cell? ⟨W.heap.size, 1, none⟩ = some y :=
  cell_row2 (o := 0) (W := (W.alloc (.cells #[x, y] t)).drew) (heap_alloc_new W _)
/-- What was there is as it was, and no draw is undone. -/
structure Ahd (W w' : World) : Prop where
  bl : Below W.heap.size W w'
  dr : W.drawn ≤ w'.drawn
theorem Ahd.refl (W : World) : Ahd W W := ⟨Below.refl _ _, Nat.le_refl _⟩
theorem Ahd.trans {a b c : World} (h : Ahd a b) (k : Ahd b c) : Ahd a c := ⟨h.bl.trans (k.bl.mono h.bl.size), Nat.le_trans h.dr k.dr⟩
theorem Ahd.alloc {W w : World} (h : Ahd W w) (o : Obj) : Ahd W (w.alloc o) := ⟨h.bl.alloc h.bl.size _, h.dr⟩
theorem Ahd.set {W w : World} (h : Ahd W w) {p : Addr} (hp : W.heap.size ≤ p.block) (v : Value) : Ahd W (w.setCell p v) := ⟨h.bl.setCell hp _, h.dr⟩
theorem Ahd.drew {W w : World} (h : Ahd W w) : Ahd W w.drew := ⟨h.bl.drew, Nat.le_succ_of_le h.dr⟩
theorem Ahd.cell {W w : World} (h : Ahd W w) {a : Addr} {v : Value} (hc : W.cell? a = some v) : w.cell? a = some v := (h.bl.cell (World.block_lt_of_cell? W a hc)).trans hc
theorem Ahd.grow {W w : World} (h : Ahd W w) : ∃ q os, w = grow (W.drewN q) os := by
  refine ⟨w.drawn - W.drawn, w.heap.extract W.heap.size w.heap.size, ?_⟩
  obtain ⟨⟨h1, h2, h3, h4, h5⟩, h6⟩ := h
  have e1 : w.heap = W.heap ++ w.heap.extract W.heap.size w.heap.size := by
    apply Array.ext_getElem?
    intro i
    rw [Array.getElem?_append]
    split
    · rename_i hi; exact h5 i hi
    · rename_i hi
      rw [Array.getElem?_extract]
      by_cases hw : i < w.heap.size
      · rw [if_pos (by omega), show W.heap.size + (i - W.heap.size) = i by omega]
      · rw [if_neg (by omega), Array.getElem?_eq_none (by omega)]
  have e2 : w.drawn = W.drawn + (w.drawn - W.drawn) := by omega
  generalize w.heap.extract W.heap.size w.heap.size = ext at *
  generalize w.drawn - W.drawn = q at *
  obtain ⟨wh, wt, wd, wo, wu⟩ := w
  obtain ⟨Wh, Wt, Wd, Wo, Wu⟩ := W
  simp only at h1 h2 h3 e1 e2
  subst h1 h2 h3 e1 e2
  rfl
set_option maxHeartbeats 1000000 in
theorem or_any (x y : Int) (b : Nat) (W : World) (h0 : W.cell? ⟨b, 0, none⟩ = some (.int .i64 x)) (h1 : W.cell? ⟨b, 1, none⟩ = some (.int .i64 y)) :
    Calls Tryz.prog 99 #[.slice (some ⟨b, 0, none⟩) 2 2] W fun e w' => e = .returned (.int .i64 (orI x y)) ∧ w' = W := by
  unfold orI
  by_cases hx : x = 0
  · subst hx
    rw [if_neg (fun h => h rfl)]
    by_cases hy : y = 0
    · subst hy
      go_enter Tryz.func99, Tryz.ntmps99
      go_wp2_with fail
      refine wp_loop_rounds 3 ?_
      rw [rounds_succ]
      go_wp2
      rw [rounds_succ]
      go_wp2
      rw [rounds_succ]
      go_wp2
      go_ret
      exact ⟨rfl, rfl⟩
    · have hb : (y == 0) = false := beq_eq_false_iff_ne.2 hy
      go_enter Tryz.func99, Tryz.ntmps99
      go_wp2_with fail
      refine wp_loop_rounds 2 ?_
      rw [rounds_succ]
      go_wp2
      rw [rounds_succ]
      go_wp2
      go_ret
      exact ⟨rfl, rfl⟩
  · rw [if_pos hx]
    have hb : (x == 0) = false := beq_eq_false_iff_ne.2 hx
    go_enter Tryz.func99, Tryz.ntmps99
    go_wp2_with fail
    refine wp_loop_rounds 1 ?_
    rw [rounds_succ]
    go_wp2
    go_ret
    exact ⟨rfl, rfl⟩

def CmpOK (P : Program) : Prop := ∀ (x y : Int) (W : World), Calls P 100 #[.int .i64 x, .int .i64 y] W fun e w' => e = .returned (.int .i64 (Lib.compareInt x y)) ∧ w' = W
set_option maxHeartbeats 2000000 in
theorem compare_any (hc : CmpOK Tryz.prog) (a c : api_Place) (W : World) :
    Calls Tryz.prog 57 #[.agg #[.int .i64 a.1, .int .i64 a.2], .agg #[.int .i64 c.1, .int .i64 c.2]] W fun e w' => e = .returned (.int .i64 (cmpP a c)) ∧ Ahd W w' := by
  have hc := Lib.hid hc
  unfold cmpP
  obtain ⟨a1, a2⟩ := a
  obtain ⟨d1, d2⟩ := c
  dsimp only
  go_enter Tryz.func57, Tryz.ntmps57
  go_upto_region 1 with fail
  obtain ⟨W1, hW1⟩ : ∃ W1, W1 = (W.alloc (.cells #[.int .i64 a1, .int .i64 a2] 53)).alloc (.cells #[.int .i64 d1, .int .i64 d2] 53) := ⟨_, rfl⟩
  have h1 := Lib.hid (show Ahd W W1 by rw [hW1]; exact ((Ahd.refl W).alloc _).alloc _)
  have k1 : W1.heap[W.heap.size]? = some (.cells #[.int .i64 a1, .int .i64 a2] 53 (0, 0)) := by rw [hW1, Below.heap_alloc _ _ _ (by simp)]; exact heap_alloc_new W _
  have k2 : W1.heap[(W.alloc (.cells #[.int .i64 a1, .int .i64 a2] 53)).heap.size]? = some (.cells #[.int .i64 d1, .int .i64 d2] 53 (0, 0)) := by rw [hW1]; exact heap_alloc_new _ _
  rw [← hW1]
  have e2 : (W.alloc (.cells #[.int .i64 a1, .int .i64 a2] 53)).heap.size = W.heap.size + 1 := by simp
  rw [e2] at k2
  obtain ⟨b1, hb1⟩ : ∃ b1, W.heap.size = b1 := ⟨_, rfl⟩
  rw [hb1] at k1 k2 ⊢
  have hb1' := Lib.hid hb1
  have d1' : W1.drew.cell? ⟨b1, 0, none⟩ = some (.int .i64 a1) := (cell_row2 (o := 0) k1).1
  have d2' : W1.drew.cell? ⟨b1, 1, none⟩ = some (.int .i64 a2) := (cell_row2 (o := 0) k1).2
  have d3' : W1.drew.cell? ⟨b1 + 1, 0, none⟩ = some (.int .i64 d1) := (cell_row2 (o := 0) k2).1
  have d4' : W1.drew.cell? ⟨b1 + 1, 1, none⟩ = some (.int .i64 d2) := (cell_row2 (o := 0) k2).2
  have hor := Lib.hid or_any
  have l1 : b1 < W1.heap.size := (Array.getElem?_eq_some_iff.1 k1).1
  have l2 : b1 + 1 < W1.heap.size := (Array.getElem?_eq_some_iff.1 k2).1
  clear hW1 k1 k2 e2 hb1
  go_region_held3 (fun W' => W'.cell? ⟨b1, 0, none⟩ = some (.int .i64 a1) ∧ W'.cell? ⟨b1, 1, none⟩ = some (.int .i64 a2) ∧ W'.cell? ⟨b1 + 1, 0, none⟩ = some (.int .i64 d1) ∧ W'.cell? ⟨b1 + 1, 1, none⟩ = some (.int .i64 d2)) (first | exact ⟨keep_alloc _ l1 d1', keep_alloc _ l1 d2', keep_alloc _ l2 d3', keep_alloc _ l2 d4'⟩ | (refine ⟨keep_alloc _ l1 ?_, keep_alloc _ l1 ?_, keep_alloc _ l2 ?_, keep_alloc _ l2 ?_⟩ <;> assumption) | go_keep) (first | (go_at_call 100; refine (hc.out _ _ _).mono ?_; rintro e w' ⟨rfl, rfl⟩) | (go_at_call 99; refine (hor.out _ _ _ _ (World.cell?_of_new2 _).1 (World.cell?_of_new2 _).2).mono ?_; rintro e w' ⟨rfl, rfl⟩))
  go_wp2
  go_ret
  exact ⟨rfl, ((h1.out).alloc _).drew⟩
theorem drop_nil {α : Type} {l : List α} {k : Nat} (h : l.length ≤ k) : l.drop k = [] := List.drop_eq_nil_of_le h
theorem cmpL_drop {l m : List api_Place} {k : Nat} (h1 : k < l.length) (h2 : k < m.length) : cmpL (l.drop k) (m.drop k) = if cmpP (ix l (k : Int)) (ix m (k : Int)) ≠ 0 then cmpP (ix l (k : Int)) (ix m (k : Int)) else cmpL (l.drop (k + 1)) (m.drop (k + 1)) := by
  rw [List.drop_eq_getElem_cons h1, List.drop_eq_getElem_cons h2, ix_lt h1, ix_lt h2, cmpL]
set_option maxHeartbeats 4000000 in
theorem compF_any (hc : CmpOK Tryz.prog) (l m : List api_Place) (b1 o1 c1 b2 o2 c2 : Nat) (W : World) (hl : l.length ≤ 1000000000) (hm : m.length ≤ 1000000000)
    (h1 : ∀ i, i < l.length → W.cell? ⟨b1, o1 + i * 2, none⟩ = some (.int .i64 (ix l (i : Int)).1) ∧ W.cell? ⟨b1, o1 + i * 2 + 1, none⟩ = some (.int .i64 (ix l (i : Int)).2))
    (h2 : ∀ i, i < m.length → W.cell? ⟨b2, o2 + i * 2, none⟩ = some (.int .i64 (ix m (i : Int)).1) ∧ W.cell? ⟨b2, o2 + i * 2 + 1, none⟩ = some (.int .i64 (ix m (i : Int)).2)) :
    Calls Tryz.prog 56 #[.slice (some ⟨b1, o1, none⟩) l.length c1, .slice (some ⟨b2, o2, none⟩) m.length c2, .func (.func 57) #[] #[]] W fun e w' => e = .returned (.int .i64 (cmpL l m)) ∧ Ahd W w' := by
  obtain ⟨n, hn⟩ : ∃ n, l.length = n := ⟨_, rfl⟩
  obtain ⟨k2, hk2⟩ : ∃ n, m.length = n := ⟨_, rfl⟩
  rw [hn, hk2]
  rw [hn] at hl h1
  rw [hk2] at hm h2
  have hn' := Lib.hid hn
  have hk2' := Lib.hid hk2
  have h1' := Lib.hid h1
  have h2' := Lib.hid h2
  obtain ⟨r, hr⟩ : ∃ r, cmpL l m = r := ⟨_, rfl⟩
  rw [hr]
  have hr' := Lib.hid hr
  have hca := Lib.hid (compare_any hc)
  clear hn hk2 h1 h2 hr hc
  go_enter Tryz.func56, Tryz.ntmps56
  go_wp2_with fail
  go_loopw [13] (fun x wr => ∃ k : Nat, k ≤ n ∧ k ≤ k2 ∧ x = .int .i64 k ∧ cmpL (l.drop k) (m.drop k) = r ∧ Ahd W wr) (fun x _ => n - (intOf x).toNat)
  case atStart => exact ⟨0, by omega, by omega, rfl, hr'.out, Ahd.refl _⟩
  case round =>
    obtain ⟨k, hk, hkk, rfl, hd, hA⟩ := hrel
    have hd' := Lib.hid hd
    have hA' := Lib.hid hA
    clear hd hA
    by_cases hlt : k < n
    · obtain ⟨a, ha⟩ : ∃ a, ix l (k : Int) = a := ⟨_, rfl⟩
      obtain ⟨q1, q2⟩ := h1'.out k hlt
      rw [ha] at q1 q2
      have q1 := hA'.out.cell q1
      have q2 := hA'.out.cell q2
      have ha' := Lib.hid ha
      have hlx := Lib.hid hlt
      clear ha
      by_cases hlt2 : k < k2
      · obtain ⟨c, hc⟩ : ∃ c, ix m (k : Int) = c := ⟨_, rfl⟩
        obtain ⟨q3, q4⟩ := h2'.out k hlt2
        rw [hc] at q3 q4
        have q3 := hA'.out.cell q3
        have q4 := hA'.out.cell q4
        have hc' := Lib.hid hc
        have hlx2 := Lib.hid hlt2
        clear hc
        go_upto_region 6 with fail
        obtain ⟨W1, hW1⟩ : ∃ W1, W1 = wr.alloc (.cells #[.int .i64 a.1, .int .i64 a.2] 53) := ⟨_, rfl⟩
        have g1 : Ahd wr W1 := by rw [hW1]; exact (Ahd.refl _).alloc _
        have k1 : W1.heap[wr.heap.size]? = some (.cells #[.int .i64 a.1, .int .i64 a.2] 53 (0, 0)) := by rw [hW1]; exact heap_alloc_new wr _
        rw [← hW1]
        obtain ⟨b7, hb7⟩ : ∃ b7, wr.heap.size = b7 := ⟨_, rfl⟩
        rw [hb7] at k1 ⊢
        have l7 := (Array.getElem?_eq_some_iff.1 k1).1
        have q5 := g1.cell q3
        have q6 := g1.cell q4
        have g1' := Lib.hid (hA'.out.trans g1)
        clear hW1 g1 q1 q2 q3 q4
        go_upto_region 7 with fail
        obtain ⟨W2, hW2⟩ : ∃ W2, W2 = W1.alloc (.cells #[.int .i64 c.1, .int .i64 c.2] 53) := ⟨_, rfl⟩
        have g2 : Ahd W1 W2 := by rw [hW2]; exact (Ahd.refl _).alloc _
        have k3 : W2.heap[W1.heap.size]? = some (.cells #[.int .i64 c.1, .int .i64 c.2] 53 (0, 0)) := by rw [hW2]; exact heap_alloc_new W1 _
        rw [← hW2]
        obtain ⟨b8, hb8⟩ : ∃ b8, W1.heap.size = b8 := ⟨_, rfl⟩
        rw [hb8] at k3 ⊢
        obtain ⟨r1, r2⟩ := cell_row2 (o := 0) k1
        obtain ⟨r3, r4⟩ := cell_row2 (o := 0) k3
        have r1 := g2.cell r1
        have r2 := g2.cell r2
        have g2' := Lib.hid (g1'.out.trans g2)
        obtain ⟨z, hz⟩ : ∃ z, cmpP a c = z := ⟨_, rfl⟩
        have hz' := Lib.hid hz
        have hcz : ∀ W3, Calls Tryz.prog 57 #[.agg #[.int .i64 a.1, .int .i64 a.2], .agg #[.int .i64 c.1, .int .i64 c.2]] W3 fun e w' => e = .returned (.int .i64 z) ∧ Ahd W3 w' := fun W3 => hz ▸ hca.out a c W3
        have hcz' := Lib.hid hcz
        have hstep := Lib.hid (show r = if z ≠ 0 then z else cmpL (l.drop (k + 1)) (m.drop (k + 1)) by
          rw [← hd'.out, cmpL_drop (by rw [hn'.out]; exact hlx.out) (by rw [hk2'.out]; exact hlx2.out), ha'.out, hc'.out, hz])
        clear hW2 g2 k1 k3 hb8 hz hcz q5 q6
        by_cases hz0 : z = 0
        · subst hz0
          go_wp2_with (go_at_call 57; refine (hcz'.out _).mono ?_; rintro e W4 ⟨rfl, hA4⟩)
          have hA5 := Lib.hid (g2'.out.trans hA4)
          clear hA4
          go_wp2
          go_round
          case rel => exact ⟨k + 1, hlx.out, hlx2.out, by go_num, by rw [hstep.out, if_neg (fun h => h rfl)], hA5.out⟩
          case measure => have := hlx.out; simp [intOf]; omega
        · have hb : (z == 0) = false := beq_eq_false_iff_ne.2 hz0
          have hr2 : r = z := by rw [hstep.out, if_pos hz0]
          have hr2' := Lib.hid hr2
          clear hr2
          go_wp2_with (go_at_call 57; refine (hcz'.out _).mono ?_; rintro e W4 ⟨rfl, hA4⟩)
          have hA5 := Lib.hid (g2'.out.trans hA4)
          clear hA4
          go_wp2
          go_ret
          exact ⟨by rw [hr2'.out]; rfl, hA5.out⟩
      · have hb : k2 ≤ k := by omega
        have hr2 := Lib.hid (show r = 1 by
          rw [← hd'.out, List.drop_eq_getElem_cons (by rw [hn'.out]; exact hlx.out), drop_nil (l := m) (by rw [hk2'.out]; exact hb)]; rfl)
        go_wp2
        go_ret
        exact ⟨by rw [hr2.out]; rfl, (hA'.out).alloc _⟩
    · have hkn : k = n := by omega
      have hl1 : l.drop k = [] := drop_nil (l := l) (by rw [hn'.out]; omega)
      subst hkn
      by_cases hb : k < k2
      · have hr2 := Lib.hid (show r = -1 by
          rw [← hd'.out, hl1, List.drop_eq_getElem_cons (by rw [hk2'.out]; exact hb)]; rfl)
        clear hl1
        go_wp2
        go_ret
        exact ⟨by rw [hr2.out]; rfl, hA'.out⟩
      · have hr2 := Lib.hid (show r = 0 by
          rw [← hd'.out, hl1, drop_nil (l := m) (by rw [hk2'.out]; omega)]; rfl)
        clear hl1
        go_wp2
        go_ret
        exact ⟨by rw [hr2.out]; rfl, hA'.out⟩
set_option maxHeartbeats 2000000 in
/-- The comparison of doubles, by their claims. -/
theorem cmpD_any (hc : CmpOK Tryz.prog) (u v : Value) (l m : List api_Place) (b1 o1 c1 b2 o2 c2 : Nat) (W : World) (hl : l.length ≤ 1000000000) (hm : m.length ≤ 1000000000)
    (h1 : ∀ i, i < l.length → W.cell? ⟨b1, o1 + i * 2, none⟩ = some (.int .i64 (ix l (i : Int)).1) ∧ W.cell? ⟨b1, o1 + i * 2 + 1, none⟩ = some (.int .i64 (ix l (i : Int)).2))
    (h2 : ∀ i, i < m.length → W.cell? ⟨b2, o2 + i * 2, none⟩ = some (.int .i64 (ix m (i : Int)).1) ∧ W.cell? ⟨b2, o2 + i * 2 + 1, none⟩ = some (.int .i64 (ix m (i : Int)).2)) :
    Calls Tryz.prog 55 #[.agg #[u, .slice (some ⟨b1, o1, none⟩) l.length c1], .agg #[v, .slice (some ⟨b2, o2, none⟩) m.length c2]] W fun e w' => e = .returned (.int .i64 (cmpL l m)) ∧ Ahd W w' := by
  obtain ⟨n, hn⟩ : ∃ n, l.length = n := ⟨_, rfl⟩
  obtain ⟨k2, hk2⟩ : ∃ n, m.length = n := ⟨_, rfl⟩
  have hcf := Lib.hid (fun (W' : World) (hA : Ahd W W') => compF_any hc l m b1 o1 c1 b2 o2 c2 W' hl hm (fun i hi => ⟨hA.cell (h1 i hi).1, hA.cell (h1 i hi).2⟩) fun i hi => ⟨hA.cell (h2 i hi).1, hA.cell (h2 i hi).2⟩)
  rw [hn, hk2] at hcf ⊢
  clear hn hk2 h1 h2 hc hl hm
  go_enter Tryz.func55, Tryz.ntmps55
  go_upto_region 1 with fail
  obtain ⟨W1, hW1⟩ : ∃ W1, W1 = (W.alloc (.cells #[u, .slice (some ⟨b1, o1, none⟩) n c1] 47)).alloc (.cells #[v, .slice (some ⟨b2, o2, none⟩) k2 c2] 47) := ⟨_, rfl⟩
  have g1 := Lib.hid (show Ahd W W1 by rw [hW1]; exact ((Ahd.refl W).alloc _).alloc _)
  have k1 : W1.heap[W.heap.size]? = some (.cells #[u, .slice (some ⟨b1, o1, none⟩) n c1] 47 (0, 0)) := by rw [hW1, Below.heap_alloc _ _ _ (by simp)]; exact heap_alloc_new W _
  have k3 : W1.heap[(W.alloc (.cells #[u, .slice (some ⟨b1, o1, none⟩) n c1] 47)).heap.size]? = some (.cells #[v, .slice (some ⟨b2, o2, none⟩) k2 c2] 47 (0, 0)) := by rw [hW1]; exact heap_alloc_new _ _
  rw [← hW1]
  have e2 : (W.alloc (.cells #[u, .slice (some ⟨b1, o1, none⟩) n c1] 47)).heap.size = W.heap.size + 1 := by simp
  rw [e2] at k3
  obtain ⟨b7, hb7⟩ : ∃ b1, W.heap.size = b1 := ⟨_, rfl⟩
  rw [hb7] at k1 k3 ⊢
  obtain ⟨r1, r2⟩ := cell_row2 (o := 0) k1
  obtain ⟨r3, r4⟩ := cell_row2 (o := 0) k3
  clear hW1 k1 k3 e2 hb7
  go_wp2_with (go_at_call 56; refine (hcf.out _ g1.out).mono ?_; rintro e W4 ⟨rfl, hA4⟩)
  have hA5 := Lib.hid (g1.out.trans hA4)
  clear hA4
  go_wp2
  go_ret
  exact ⟨rfl, hA5.out⟩
end RE
end Go.Proofs.YtblcakaohlgagaaGreat
set_option linter.unusedVariables false
set_option maxRecDepth 100000
namespace Go.Proofs.YtblcakaohlgagaaGreat
open Go.RowKit Go.Sort Go.Lib
namespace RE
open PL
theorem cmpOK : CmpOK Tryz.prog := fun x y W => AnyG.cmp_Compare_int Tryz.cmpSp x y W
theorem cmpI_lt (x y : Int) : (Lib.compareInt x y < 0 ↔ x < y) ∧ (Lib.compareInt x y = 0 ↔ x = y) := by
  unfold Lib.compareInt
  by_cases h1 : x < y
  · rw [if_pos h1]
    refine ⟨⟨fun _ => h1, fun _ => by decide⟩, fun h => absurd h (by decide), fun h => by omega⟩
  · rw [if_neg h1]
    by_cases h2 : x > y
    · rw [if_pos h2]
      exact ⟨⟨fun h => absurd h (by decide), fun h => by omega⟩, fun h => absurd h (by decide), fun h => by omega⟩
    · rw [if_neg h2]
      exact ⟨⟨fun h => absurd h (by decide), fun h => by omega⟩, fun h => by omega, fun h => rfl⟩
theorem cmpL_bef : ∀ {a b : List api_Place}, cmpL a b < 0 ↔ befP a b = true
  | [], [] => by unfold cmpL befP; decide
  | [], _ :: _ => by unfold cmpL befP; decide
  | _ :: _, [] => by unfold cmpL befP; decide
  | a :: s, b :: t => by
    have ih := cmpL_bef (a := s) (b := t)
    obtain ⟨p1, p2⟩ := cmpI_lt a.1 b.1
    obtain ⟨q1, q2⟩ := cmpI_lt a.2 b.2
    unfold cmpL befP cmpP
    have o1 : Lib.compareInt a.1 b.1 ≠ 0 → orI (Lib.compareInt a.1 b.1) (Lib.compareInt a.2 b.2) = Lib.compareInt a.1 b.1 := fun h => if_pos h
    have o2 : Lib.compareInt a.1 b.1 = 0 → orI (Lib.compareInt a.1 b.1) (Lib.compareInt a.2 b.2) = Lib.compareInt a.2 b.2 := fun h => if_neg (not_not_intro h)
    by_cases h1 : a.1 < b.1
    · have h0 := p1.2 h1
      have h2 : Lib.compareInt a.1 b.1 ≠ 0 := by omega
      rw [if_pos h1, o1 h2, if_pos h2]
      exact ⟨fun _ => rfl, fun _ => h0⟩
    · by_cases h3 : b.1 < a.1
      · have h2 : Lib.compareInt a.1 b.1 ≠ 0 := fun e => by have := p2.1 e; omega
        rw [if_neg h1, if_pos h3, o1 h2, if_pos h2]
        exact ⟨fun h => absurd (p1.1 h) h1, fun h => by cases h⟩
      · have h2 : Lib.compareInt a.1 b.1 = 0 := p2.2 (by omega)
        rw [if_neg h1, if_neg h3, o2 h2]
        by_cases h4 : a.2 < b.2
        · have h0 := q1.2 h4
          have h5 : Lib.compareInt a.2 b.2 ≠ 0 := by omega
          rw [if_pos h4, if_pos h5]
          exact ⟨fun _ => rfl, fun _ => h0⟩
        · by_cases h6 : b.2 < a.2
          · have h5 : Lib.compareInt a.2 b.2 ≠ 0 := fun e => by have := q2.1 e; omega
            rw [if_neg h4, if_pos h6, if_pos h5]
            exact ⟨fun h => absurd (q1.1 h) h4, fun h => by cases h⟩
          · have h5 : Lib.compareInt a.2 b.2 = 0 := q2.2 (by omega)
            rw [if_neg h4, if_neg h6, if_neg (not_not_intro h5)]
            exact ih
/-- A double as it lies in a world. -/
def DblAt (S : Cells) (w : World) (q : Value × Value × api_Double) : Prop :=
  q.1.oneCell' = true ∧ q.2.1.oneCell' = true ∧ Rd S w (.sl (.st .api_Rect) q.2.2.Region.Rects) q.1 ∧ Rd S w (.sl (.st .api_Place) q.2.2.Claims) q.2.1 ∧ q.2.2.Claims ≠ [] ∧ q.2.2.Claims.length ≤ 1000000000
abbrev Al (S : Cells) (w : World) : Type := { q : Value × Value × api_Double // DblAt S w q }
def encD {S : Cells} {w : World} (x : Al S w) : List Value := [x.1.1, x.1.2.1]
def cfD {S : Cells} {w : World} (x y : Al S w) : Int := cmpL x.1.2.2.Claims y.1.2.2.Claims
theorem ltD {S : Cells} {w : World} (x y : Al S w) : ltOf cfD x y = befP x.1.2.2.Claims y.1.2.2.Claims := by
  refine bool_iff ?_
  unfold ltOf cfD
  rw [decide_eq_true_iff]
  exact cmpL_bef
theorem swoD {S : Cells} {w : World} : SWO (ltOf (cfD (S := S) (w := w))) where
  irrefl x := by rw [ltD]; exact bef_irr _
  trans x y z h1 h2 := by rw [ltD] at *; exact bef_trans h1 h2
  ntrans x y z h1 h2 := by
    rw [ltD] at *
    cases e : befP x.1.2.2.Claims z.1.2.2.Claims
    · rfl
    · exfalso
      by_cases e1 : x.1.2.2.Claims = y.1.2.2.Claims
      · rw [e1] at e; rw [e] at h2; cases h2
      · rcases bef_tri e1 with h | h
        · rw [h] at h1; cases h1
        · have := bef_trans h e
          rw [this] at h2; cases h2
theorem placeCells {S : Cells} {w : World} {l : List api_Place} {u : Value} (h : Rd S w (.sl (.st .api_Place) l) u) (hne : l ≠ []) : ∃ b off cap, u = .slice (some ⟨b, off, none⟩) l.length cap ∧
    ∀ i, i < l.length → (S b (off + i * 2) ∧ w.cell? ⟨b, off + i * 2, none⟩ = some (.int .i64 (ix l (i : Int)).1)) ∧ S b (off + i * 2 + 1) ∧ w.cell? ⟨b, off + i * 2 + 1, none⟩ = some (.int .i64 (ix l (i : Int)).2) := by
  obtain ⟨ad, cap, b, off, f, rfl, hc1, hc2, ha, hx1, hx2⟩ := h.slInv
  rcases ha with ha | ha
  · exact absurd ha hne
  subst ha
  refine ⟨b, off, cap, rfl, fun i hi => ?_⟩
  have h0 := hx1 i hi 0 (by decide)
  have h1 := hx1 i hi 1 (by decide)
  have e0 := rd_v (hx2 i l[i] 0 (.v (.int .i64 l[i].1)) (List.getElem?_eq_getElem hi) rfl)
  have e1 := rd_v (hx2 i l[i] 1 (.v (.int .i64 l[i].2)) (List.getElem?_eq_getElem hi) rfl)
  rw [e0] at h0
  rw [e1] at h1
  rw [ix_lt hi]
  exact ⟨⟨h0.1, h0.2.1⟩, h1.1, h1.2.1⟩
theorem cmpLaysD {S : Cells} {w : World} [Inhabited (Al S w)] (g : Nat) (hS : ∀ b o, S b o → b < w.heap.size) (hg : ∀ o, ¬ S g o) (size : Nat) : CmpLays Tryz.prog 55 #[] (encD (S := S) (w := w)) 2 cfD g 0 size w := by
  intro m os dk hdk x y
  obtain ⟨⟨u1, u2, dx⟩, x1, x2, x3, x4, x5, x6⟩ := x
  obtain ⟨⟨v1, v2, dy⟩, y1, y2, y3, y4, y5, y6⟩ := y
  dsimp only at x1 x2 x3 x4 x5 x6 y1 y2 y3 y4 y5 y6
  obtain ⟨b1, o1, c1, rfl, h1⟩ := placeCells x4 x5
  obtain ⟨b2, o2, c2, rfl, h2⟩ := placeCells y4 y5
  have hG := grownBy_sortedV (w := w) (n := m) (g := g) (os := os) (flatK encD 2 dk)
  have hk : ∀ b o, S b o → (sortWorldK encD 2 w g 0 m dk os).cell? ⟨b, o, none⟩ = w.cell? ⟨b, o, none⟩ := fun b o hs => World.cell?_of_block (hG.block b (hS b o hs) (fun e => hg o (by injection e with e; rw [← e]; exact hs)))
  refine (cmpD_any cmpOK u1 v1 dx.Claims dy.Claims b1 o1 c1 b2 o2 c2 (sortWorldK encD 2 w g 0 m dk os) x6 y6 (fun i hi => ?_) fun i hi => ?_).mono ?_
  · obtain ⟨⟨s1, e1⟩, s2, e2⟩ := h1 i hi
    exact ⟨(hk _ _ s1).trans e1, (hk _ _ s2).trans e2⟩
  · obtain ⟨⟨s1, e1⟩, s2, e2⟩ := h2 i hi
    exact ⟨(hk _ _ s1).trans e1, (hk _ _ s2).trans e2⟩
  · rintro e w' ⟨rfl, hA⟩
    exact ⟨rfl, hA.grow⟩
theorem dbl_row {S : Cells} {w : World} {cur : Array Value} : ∀ (l : List api_Double) (k : Nat), (∀ d ∈ l, d.Claims ≠ [] ∧ d.Claims.length ≤ 1000000000) →
    (∀ (i : Nat) (x : api_Double), l[i]? = some x → ∀ (j : Nat) (c : D), (enc (.st .api_Double) x)[j]? = some c → ∃ u : Value, cur[(k + i) * 2 + j]? = some u ∧ u.oneCell' = true ∧ Rd S w c u) →
    ∃ dl : List (Al S w), dl.map (fun q => q.1.2.2) = l ∧ ∀ (i : Nat) (q : Al S w), dl[i]? = some q → cur[(k + i) * 2]? = some q.1.1 ∧ cur[(k + i) * 2 + 1]? = some q.1.2.1
  | [], k, _, _ => ⟨[], rfl, fun i q h => by simp at h⟩
  | x :: l, k, hc, h => by
    obtain ⟨dl, h1, h2⟩ := dbl_row l (k + 1) (fun d hd => hc d (List.mem_cons_of_mem _ hd)) fun i y hy j c hcj => by
      have := h (i + 1) y (by simpa using hy) j c hcj
      rwa [show k + (i + 1) = k + 1 + i by omega] at this
    obtain ⟨u1, a1, a2, a3⟩ := h 0 x rfl 0 (.sl (.st .api_Rect) x.Region.Rects) rfl
    obtain ⟨u2, b1, b2, b3⟩ := h 0 x rfl 1 (.sl (.st .api_Place) x.Claims) rfl
    obtain ⟨c1, c2⟩ := hc x (List.mem_cons_self ..)
    refine ⟨⟨(u1, u2, x), a2, b2, a3, b3, c1, c2⟩ :: dl, by rw [List.map_cons, h1], fun i q hq => ?_⟩
    match i, hq with
    | 0, hq =>
      have hq : some _ = some q := hq
      injection hq with hq
      subst hq
      exact ⟨a1, b1⟩
    | i + 1, hq =>
      have := h2 i q (by simpa using hq)
      rwa [show k + 1 + i = k + (i + 1) by omega] at this
def psortD_sp : Spec3 := ⟨54, .st .api_Double, some 55, fun (l : List api_Double) post => (l.length ≤ 1000000 ∧ ∀ d ∈ l, d.Claims ≠ [] ∧ d.Claims.length ≤ 1000000000) ∧ ∀ l2, l2.Perm l → l2.Pairwise (fun a b => befP b.Claims a.Claims = false) → post l2⟩
theorem psortD_row (l : List api_Double) (post : List api_Double → Prop) (hp : (l.length ≤ 1000000 ∧ ∀ d ∈ l, d.Claims ≠ [] ∧ d.Claims.length ≤ 1000000000) ∧ ∀ l2, l2.Perm l → l2.Pairwise (fun a b => befP b.Claims a.Claims = false) → post l2) (w : World) (S : Cells) (v : Value) (F : Nat → Prop) (e : TypeId) (hrow : RowAt w S v F e (.st .api_Double) l) (hS : ∀ b o, S b o → b < w.heap.size) (hF : ∀ b, F b → b < w.heap.size ∧ ∀ k, ¬ S b k) :
    Calls Tryz.prog 54 #[v, .func (.func 55) #[] #[]] w fun e' w' => ∃ r, ∃ l' : List api_Double, e' = .returned r ∧ post l' ∧ RowAt w' S v F e (.st .api_Double) l' ∧ w'.os = w.os ∧ w'.tape = w.tape ∧ w'.output = w.output ∧ w.heap.size ≤ w'.heap.size ∧ ∀ b, b < w.heap.size → ¬ F b → w'.heap[b]? = w.heap[b]? := by
  obtain ⟨⟨hlen, hcl⟩, hp⟩ := hp
  obtain ⟨h0, ⟨rfl, ⟨ad, rfl⟩, hn⟩ | ⟨g, cap, cur, rfl, hFg, hg, hnl, hcm, hcs, hrr⟩⟩ := hrow
  · refine (AnyF.slices_SortFunc_none Tryz.sortDp ad 0 _ w).mono ?_
    rintro e' w' ⟨rfl, rfl⟩
    exact ⟨_, [], rfl, hp [] (List.Perm.refl _) List.Pairwise.nil, ⟨h0, .inl ⟨rfl, ⟨ad, rfl⟩, hn⟩⟩, rfl, rfl, rfl, Nat.le_refl _, fun _ _ _ => rfl⟩
  by_cases hne : l = []
  · subst hne
    refine (AnyF.slices_SortFunc_none Tryz.sortDp (some ⟨g, 0, none⟩) cap _ w).mono ?_
    rintro e' w' ⟨rfl, rfl⟩
    exact ⟨_, [], rfl, hp [] (List.Perm.refl _) List.Pairwise.nil, ⟨h0, .inr ⟨g, cap, cur, rfl, hFg, hg, hnl, hcm, hcs, hrr⟩⟩, rfl, rfl, rfl, Nat.le_refl _, fun _ _ _ => rfl⟩
  have hgl := (Array.getElem?_eq_some_iff.1 hg).1
  have hgS := (hF g ((hFg g).2 rfl)).2
  have hnl : List.length (l : List api_Double) ≤ cap := hnl
  have hcs : cur.size = cap * 2 := hcs
  obtain ⟨dl, hd1, hd2⟩ := dbl_row (S := S) (w := w) (cur := cur) l 0 hcl fun i x hx j c hc => by
    rw [Nat.zero_add]; exact hrr i x hx j c hc
  have hdl : dl.length = l.length := by rw [← hd1, List.length_map]
  have hdne : dl ≠ [] := fun e => hne (by rw [← hd1, e]; rfl)
  obtain ⟨q0, hq0⟩ := List.exists_mem_of_ne_nil _ hdne
  letI : Inhabited (Al S w) := ⟨q0⟩
  have eg : ∀ args w, (callFunc 55 args).run Tryz.prog w = .ok (.enter 55 args) w := enters_of Tryz.func55 (by kernel_rfl) rfl
  have hone : ∀ (x : Al S w), ∀ v ∈ encD x, v.oneCell' = true := fun x v hv => by
    unfold encD at hv
    rcases List.mem_cons.1 hv with rfl | hv
    · exact x.2.1
    · rw [List.mem_singleton] at hv; subst hv; exact x.2.2.1
  have hH : HoldsK encD 2 w g 0 dl.toArray := by
    intro t ht
    have ht : t < dl.length * 2 := by simpa using ht
    refine ⟨?_, by simp [World.frozen?, hg]⟩
    show w.cell? ⟨g, 0 + t, none⟩ = some (flatK encD 2 dl.toArray)[t]!
    rw [get_flatK _ _ _ t (by simpa using ht), Nat.zero_add, cell_row hg]
    obtain ⟨i, hi2⟩ : ∃ i, t = i * 2 ∨ t = i * 2 + 1 := ⟨t / 2, by omega⟩
    have hi : i < dl.length := by omega
    obtain ⟨k1, k2⟩ := hd2 i dl[i] (List.getElem?_eq_getElem hi)
    rw [Nat.zero_add] at k1 k2
    have e1 : (dl.toArray)[i]! = dl[i] := by simp [hi]
    rcases hi2 with rfl | rfl
    · rw [show i * 2 / 2 = i by omega, show i * 2 % 2 = 0 by omega, e1]; exact k1
    · rw [show (i * 2 + 1) / 2 = i by omega, show (i * 2 + 1) % 2 = 1 by omega, e1]; exact k2
  have hsz : dl.toArray.size = l.length := by simpa using hdl
  have hcall := AnyQ.slices_SortFunc Tryz.sortDp 2 Tryz.isAgg47 Tryz.sizeOf47 (encD (S := S) (w := w)) (fun _ => rfl) hone cfD swoD 55 #[] g 0 cap dl.toArray w eg (cmpLaysD g hS hgS _) hH hgl (by rw [hsz]; omega)
  rw [hsz] at hcall
  refine hcall.mono ?_
  rintro e' w' ⟨rfl, d, n, os, ⟨q1, q2, q3⟩, q4, rfl⟩
  have hdsz : d.size = l.length := by rw [q1]; exact hsz
  have hG := grownBy_sortedV (w := w) (n := n) (g := g) (os := os) (flatK encD 2 d)
  have hHp := heap_sortedV (n := n) (os := os) (flatK encD 2 d) hg
  have hk : ∀ b o, S b o → (sortWorldK encD 2 w g 0 n d os).cell? ⟨b, o, none⟩ = w.cell? ⟨b, o, none⟩ := fun b o hs => World.cell?_of_block (hG.block b (hS b o hs) (fun e => hgS o (by injection e with e; rw [← e]; exact hs)))
  have hlen2 : List.length (d.toList.map (fun q : Al S w => q.1.2.2)) = l.length := by rw [List.length_map, Array.length_toList]; exact hdsz
  refine ⟨_, d.toList.map (fun q => q.1.2.2), rfl, hp _ ?_ ?_, ⟨h0, .inr ⟨g, cap, _, ?_, hFg, hHp, Nat.le_trans (Nat.le_of_eq hlen2) hnl, hcm, by simp [putCells, hcs]; rfl, fun i (x : api_Double) hx j c hc => ?_⟩⟩, hG.os, hG.tape, hG.output, hG.size, fun b hb hnF => hG.block b hb fun e => hnF ((hFg b).2 (Option.some.inj e))⟩
  · have e1 : d.extract 0 l.length = d := by rw [← hdsz]; simp
    have e2 : dl.toArray.extract 0 l.length = dl.toArray := by rw [← hsz]; simp
    rw [e1, e2] at q3
    have := q3.map (fun q : Al S w => q.1.2.2)
    rwa [show dl.toArray.toList = dl by simp, hd1] at this
  · rw [List.pairwise_map, List.pairwise_iff_getElem]
    intro i j hi hj hij
    have hi' : i < d.size := by simpa using hi
    have hj' : j < d.size := by simpa using hj
    have := q4 i j (Nat.zero_le _) hij (by rw [← hdsz]; exact hj')
    rw [ltD, getElem!_pos d i hi', getElem!_pos d j hj'] at this
    simpa using this
  · show Value.slice (some ⟨g, 0, none⟩) l.length cap = Value.slice (some ⟨g, 0, none⟩) (List.length (d.toList.map (fun q : Al S w => q.1.2.2))) cap
    rw [hlen2]
  · have hx : (d.toList.map (fun q : Al S w => q.1.2.2))[i]? = some x := hx
    rw [List.getElem?_map, Array.getElem?_toList, Option.map_eq_some_iff] at hx
    obtain ⟨q, hq, rfl⟩ := hx
    have hi : i < d.size := (Array.getElem?_eq_some_iff.1 hq).1
    have hxe : d[i]! = q := by
      rw [getElem!_pos d i hi]
      exact (Array.getElem?_eq_some_iff.1 hq).2
    have key : ∀ k, k < 2 → (putCells id 0 (flatK encD 2 d) cur)[i * 2 + k]? = some (encD q)[k]! := by
      intro k hk
      have h1 : i * 2 + k < cur.size := by omega
      have h2 : i * 2 + k < d.size * 2 := by omega
      simp only [putCells, Array.getElem?_mapIdx, Array.getElem?_eq_getElem h1, Option.map_some, Nat.zero_le, true_and, Nat.zero_add, size_flatK, if_pos h2, Nat.sub_zero, id]
      rw [get_flatK _ _ _ _ h2, show (i * 2 + k) / 2 = i by omega, show (i * 2 + k) % 2 = k by omega, hxe]
    obtain ⟨⟨u1, u2, dx⟩, x1, x2, x3, x4, x5, x6⟩ := q
    match j, hc with
    | 0, hc =>
      have hc : some (D.sl (.st .api_Rect) dx.Region.Rects) = some c := hc
      injection hc with hc
      subst hc
      exact ⟨_, key 0 (by omega), x1, x3.mono (fun _ _ h => h) hk⟩
    | 1, hc =>
      have hc : some (D.sl (.st .api_Place) dx.Claims) = some c := hc
      injection hc with hc
      subst hc
      exact ⟨_, key 1 (by omega), x2, x4.mono (fun _ _ h => h) hk⟩
    | j + 2, hc => cases (show (none : Option D) = some c from hc)
theorem psortD_ok : Spec3OK Tryz.prog psortD_sp := fun l post hp w S v F e hrow hS hF => psortD_row l post hp w S v F e hrow hS hF
end RE
end Go.Proofs.YtblcakaohlgagaaGreat
set_option maxRecDepth 100000
set_option linter.unusedVariables false
namespace Go.Proofs.YtblcakaohlgagaaGreat
open Go.RowKit
namespace RE
open PL

namespace PL
/-- Is too much claimed twice? -/
def dblE (ds : List Dbl) : Prop := 200 < ds.length ∨ ∃ d ∈ ds, 120 < d.Region.Rects.length
/-- What Doubles returns. -/
def dblR (l : List api_Version) (ds : List Dbl) (e : Int) : Prop := (beginF l ≠ 0 ∧ ds = [] ∧ e = beginF l) ∨ (beginF l = 0 ∧ ∃ d0, dblsP (linV l) d0 ∧ ((dblE d0 ∧ ds = [] ∧ e = 1) ∨ (¬ dblE d0 ∧ ds = d0 ∧ e = 0)))
def okD (l : List api_Version) : Prop := manyV l ∧ (beginF l = 0 → smallF (linV l))
end PL

def pdbl_P (l : List (api_Version)) (post : List (api_Double) → Int → Prop) : Prop := okD l ∧ ∀ (ds : List Dbl) (e : Int), dblR l ds e → post ds e
def pdbl_sp : Spec := ⟨23, false, true, [.sl (.st .api_Version)], .tup [.dat (.sl (.st .api_Double)), .dat (.int .i64)], fun x post => pdbl_P (x.1 : List (api_Version)) (fun y0 y1 => post (y0, y1, ()))⟩
def pdbl_C : CtxR := ⟨tau, [rule1 plines_sp, rule1 pfaces_sp, rule3 psortD_sp], lookJ [(0, 13, ⟨[(22, .dat (.int .i64)), (6, .own 47 (.st .api_Double))], [], [23, 29, 28, 27, 26, 8, 25, 24, 45, 44, 43, 42, 41, 40, 39, 37, 36, 10, 9, 35, 34, 30, 33, 32, 31, 46], [], []⟩), (0, 26, ⟨[(6, .own 47 (.st .api_Double))], [], [31, 32, 33, 30, 34, 35, 9, 10, 36, 37, 39, 40, 41, 42, 43, 44, 45, 24, 25, 8, 26, 27, 28, 29], [0], []⟩), (9192, 0, ⟨[(0, .tup [.agg [.dat (.sl (.st .api_Rect))], .dat (.int .i64)])], [], [], [], []⟩)]⟩
def pdbl_W (l : List (api_Version)) (post : List (api_Double) → Int → Prop) : Prop := (l.length ≤ (1000 : Nat) ∧ ∀ (v1 : api_Version), v1 ∈ l → v1.2.length ≤ (1000 : Nat)) ∧ ∀ (v2 : List crosscheck_line) (v3 : Int), linesR l v2 v3 → IFB (!decide (v3 = (0 : Int))) (post [] v3) ((v2.length ≤ (60 : Nat) ∧ List.Pairwise (fun (x1 x2 : api_Place) ↦ x1 = x2 → False) (List.map (fun (x : crosscheck_line) ↦ x.1) v2) ∧ ∀ (v4 : crosscheck_line), v4 ∈ v2 → (∀ (v5 : api_Rect), v5 ∈ v4.2 → (0 : Int) ≤ v5.1 ∧ v5.1 < v5.3 ∧ v5.3 ≤ (30 : Int) ∧ (0 : Int) ≤ v5.2 ∧ v5.2 < v5.4 ∧ v5.4 ≤ (10 : Int)) ∧ v4.2.length ≤ (120 : Nat)) ∧ ((↑(facesS v2).length : Int) ≤ (9223372036854775807 : Int) → LOOP [Ty.int IntKind.i64, (Ty.st Sn.api_Double).sl] (fun (rec6 : Int → List api_Double → Prop) (z7 : Int) (z8 : List api_Double) ↦ IFB (decide (z7 < (↑(facesS v2).length : Int))) (JOIN [(Ty.st Sn.api_Double).sl] (fun (y9 : List api_Double) ↦ rec6 (IntKind.i64.wrap (z7 + (1 : Int))) y9) fun (J10 : List api_Double → Prop) ↦ ((0 : Int) ≤ z7 ∧ z7 < (↑(facesS v2).length : Int)) ∧ ((↑(ix (facesS v2) z7).2.length : Int) ≤ (9223372036854775807 : Int) → IFB (decide ((↑(ix (facesS v2) z7).2.length : Int) < (2 : Int))) (J10 z8) (JOIN [(Ty.st Sn.api_Rect).sl, Ty.int IntKind.i64] (fun (y11 : List api_Rect) (y12 : Int) ↦ IFB (!decide (y12 = (0 : Int))) (post [] y12) ((z8.length + [{ Region := { Rects := y11 : api_Region }, Claims := (ix (facesS v2) z7).2 : api_Double }].length) * (48 : Nat) ≤ (140737488355328 : Nat) ∧ J10 (z8 ++ [{ Region := { Rects := y11 : api_Region }, Claims := (ix (facesS v2) z7).2 : api_Double }]))) fun (J13 : List api_Rect → Int → Prop) ↦ (↑(ix (facesS v2) z7).1.length : Int) ≤ (9223372036854775807 : Int) → IFB (decide ((120 : Int) < (↑(ix (facesS v2) z7).1.length : Int))) (J13 [] (1 : Int)) (J13 (ix (facesS v2) z7).1 (0 : Int))))) ((↑z8.length : Int) ≤ (9223372036854775807 : Int) → IFB (decide ((200 : Int) < (↑z8.length : Int))) (post [] (1 : Int)) ((z8.length ≤ (1000000 : Nat) ∧ ∀ (v14 : api_Double), v14 ∈ z8 → (v14.2 = [] → False) ∧ v14.2.length ≤ (1000000000 : Nat)) ∧ ∀ (v15 : List api_Double), v15.Perm z8 → List.Pairwise (fun (a b : api_Double) ↦ befP b.2 a.2 = false) v15 → post v15 (0 : Int)))) ((0 : Int), [], PUnit.unit)))
theorem pdbl_w (l : List (api_Version)) (post : dens (shT pdbl_sp.rs []) → Prop) : pdbl_W l (fun y0 y1 => post (y0, y1, ())) = walkG (callR Tryz.prog pdbl_C (drawR Tryz.prog tau) 8 0) 23 false [tv (.sl (.st .api_Version)) l] pdbl_sp.rs post := by kernel_rfl
theorem pdbl_of (h : ∀ (l : List (api_Version)) (post : List (api_Double) → Int → Prop), pdbl_P l post → pdbl_W l post) : SpecOK Tryz.prog pdbl_sp := SpecOK.of_rules (C := pdbl_C) (dr := drawR Tryz.prog tau) (n := 8) (fk := 0) (.cons (rule1_ok plines_ok) (.cons (rule1_ok pfaces_ok) (.cons (rule3_ok psortD_ok) .nil))) (drawR_ok tau) fun x post hp => HoldW.of (pdbl_w x.1 post) (h x.1 (fun y0 y1 => post (y0, y1, ())) hp)
theorem two_app {F G : List Fc} : two (F ++ G) = two F ++ two G := List.filter_append ..
theorem dbl_ex {L : List Ln} (h : (L.map (·.place)).Nodup) : ∃ d0, dblsP L d0 ∧ d0.Perm ((two (facesS L)).map toD) := by
  obtain ⟨q1, q2⟩ := sortD_ok (two_ne (faces_ok h))
  exact ⟨_, ⟨q1, q2⟩, q1⟩
def pdbI (F : List Fc) (z : Int) (b : List Dbl) : Prop := ∃ k : Nat, z = (k : Int) ∧ k ≤ F.length ∧ b = (two (F.take k)).map toD ∧ ∀ d ∈ b, d.Region.Rects.length ≤ 120
theorem pdbl_h (l : List api_Version) (post : List (api_Double) → Int → Prop) (hp : pdbl_P l post) : pdbl_W l post := by
  obtain ⟨⟨h1, hs⟩, hp⟩ := hp
  unfold pdbl_W
  refine ⟨h1, fun L e he => ?_⟩
  refine IFB.mk (fun hb => ?_) (fun hb => ?_)
  · have hb : e ≠ 0 := by simpa using hb
    rcases he with ⟨a, _, c⟩ | ⟨_, _, c⟩
    · exact hp [] e (.inl ⟨a, rfl, c⟩)
    · exact absurd c hb
  have hb : e = 0 := by simpa using hb
  subst hb
  have hz : beginF l = 0 ∧ L = linV l := by
    rcases he with ⟨a, _, c⟩ | ⟨a, c, _⟩
    · exact absurd c.symm a
    · exact ⟨a, c⟩
  clear he
  obtain ⟨hz, rfl⟩ := hz
  have hs := hs hz
  have hbox : ∀ x ∈ linV l, inBox x.rects := fun x hx => (hs.2.2 x hx).1
  have hok := faces_ok hs.2.1
  have hfew := faces_few hok hbox
  obtain ⟨d0, hd0, hd1⟩ := dbl_ex hs.2.1
  refine ⟨hs, fun _ => ?_⟩
  generalize hF : facesS (linV l) = F at *
  refine LOOP.fuel (fun u => pdbI F u.1 u.2.1) (fun u => F.length - Int.toNat u.1) ⟨0, rfl, Nat.zero_le _, rfl, fun d hd => (by cases hd)⟩ ?_
  rintro rec ⟨(z : Int), (b : List Dbl), ⟨⟩⟩ ⟨k, i1, i2, i3, i4⟩ hrec
  have i1 : z = (k : Int) := i1
  have q3 : b = (two (F.take k)).map toD := i3
  have q4 : ∀ d ∈ b, d.Region.Rects.length ≤ 120 := i4
  clear i3 i4
  subst i1
  have hbl : b.length ≤ 300 := by
    rw [q3, List.length_map]
    unfold two
    have := List.length_filter_le (fun f : Fc => decide (2 ≤ f.claims.length)) (F.take k)
    rw [List.length_take] at this
    omega
  refine IFB.mk (fun hc => JOIN.opq fun (J : List Dbl → Prop) hJ => ?_) (fun hc => ?_)
  · have hc : (k : Int) < F.length := of_decide_eq_true hc
    have hk : k < F.length := by omega
    have hfm : ix F (k : Int) ∈ F := by rw [ix_lt hk]; exact List.getElem_mem hk
    have etk : two (F.take (k + 1)) = two (F.take k) ++ two [ix F (k : Int)] := by rw [List.take_succ_eq_append_getElem hk, two_app, ix_lt hk]
    have hJ2 : ∀ y : List Dbl, y = (two (F.take (k + 1))).map toD → (∀ d ∈ y, d.Region.Rects.length ≤ 120) → J y := fun y hy hy2 => by
      rw [hJ]
      show rec (IntKind.i64.wrap ((k : Int) + 1)) y
      rw [wrapS (by omega)]
      exact hrec (((k + 1 : Nat) : Int), y, ()) ⟨k + 1, rfl, hk, hy, hy2⟩ (by show F.length - ((k + 1 : Nat) : Int).toNat < F.length - (k : Int).toNat; omega)
    refine ⟨⟨by omega, hc⟩, fun _ => IFB.mk (fun hd => ?_) (fun hd => ?_)⟩
    · have hd : ((ix F (k : Int)).claims.length : Int) < 2 := of_decide_eq_true hd
      refine hJ2 b ?_ q4
      rw [etk, q3, show two [ix F (k : Int)] = [] by unfold two; rw [List.filter_cons, if_neg (by simp; omega), List.filter_nil], List.append_nil]
    · have hd : ¬ ((ix F (k : Int)).claims.length : Int) < 2 := of_decide_eq_false hd
      have e2 : two [ix F (k : Int)] = [ix F (k : Int)] := by unfold two; rw [List.filter_cons, if_pos (by simp; omega), List.filter_nil]
      refine JOIN.opq fun (K : List Rc → Int → Prop) hK => fun _ => IFB.mk (fun hn => ?_) (fun hn => ?_)
      · have hn : (120 : Int) < ((ix F (k : Int)).rects.length : Int) := of_decide_eq_true hn
        rw [hK]
        refine IFB.mk (fun _ => hp [] 1 (.inr ⟨hz, d0, hd0, .inl ⟨.inr ?_, rfl, rfl⟩⟩)) (fun h => by cases h)
        refine ⟨toD (ix F (k : Int)), hd1.mem_iff.2 (List.mem_map.2 ⟨_, List.mem_filter.2 ⟨hfm, decide_eq_true (by omega)⟩, rfl⟩), ?_⟩
        show 120 < (ix F (k : Int)).rects.length
        omega
      · have hn : ¬ (120 : Int) < ((ix F (k : Int)).rects.length : Int) := of_decide_eq_false hn
        rw [hK]
        refine IFB.mk (fun h => by cases h) (fun _ => ⟨by simp only [List.length_cons, List.length_nil]; omega, hJ2 _ ?_ ?_⟩)
        · rw [etk, e2, List.map_append, ← q3]; rfl
        · intro d hd
          rcases List.mem_append.1 hd with hd | hd
          · exact q4 d hd
          · rw [List.mem_singleton] at hd
            subst hd
            show (ix F (k : Int)).rects.length ≤ 120
            omega
  · have hc : ¬ (k : Int) < F.length := of_decide_eq_false hc
    have hk : k = F.length := by omega
    rw [hk, List.take_length] at q3
    have hpm : d0.Perm b := by rw [q3]; exact hd1
    refine fun _ => IFB.mk (fun hd => ?_) (fun hd => ⟨⟨by show b.length ≤ 1000000; omega, fun d hd => ?_⟩, fun v hv1 hv2 => ?_⟩)
    · have hd : (200 : Int) < (b.length : Int) := of_decide_eq_true hd
      refine hp [] 1 (.inr ⟨hz, d0, hd0, .inl ⟨.inl ?_, rfl, rfl⟩⟩)
      rw [hpm.length_eq]; omega
    · rw [q3] at hd
      obtain ⟨f, hf, rfl⟩ := List.mem_map.1 hd
      obtain ⟨hf, h2⟩ := List.mem_filter.1 hf
      have h2 : 2 ≤ f.claims.length := of_decide_eq_true h2
      have h3 := (face_small hok hbox hf).2.2
      have h4 : (linV l).length ≤ 60 := hs.1
      refine ⟨fun e => ?_, ?_⟩
      · have e : f.claims = [] := e
        rw [e] at h2; exact absurd h2 (by decide)
      · show f.claims.length ≤ 1000000000
        omega
    · have hd : ¬ (200 : Int) < (b.length : Int) := of_decide_eq_false hd
      refine hp v 0 (.inr ⟨hz, v, dbls_prog hs.2.1 (by rw [hF, ← q3]; exact hv1) hv2, .inr ⟨fun h => ?_, rfl, rfl⟩⟩)
      rcases h with h | ⟨d, hd2, h⟩
      · rw [hv1.length_eq] at h
        have h : 200 < b.length := h
        omega
      · have := q4 d (hv1.mem_iff.1 hd2); omega
theorem pdbl_ok : SpecOK Tryz.prog pdbl_sp := pdbl_of pdbl_h

end RE
end Go.Proofs.YtblcakaohlgagaaGreat
set_option linter.unusedVariables false
set_option maxRecDepth 100000
namespace Go.Proofs.YtblcakaohlgagaaGreat
open Go.RowKit
namespace RE
open PL
namespace PL
/-- What Settled returns. -/
def setR (l : List api_Version) (y : List api_Yield) (m : List api_Version) (ds : List Dbl) (e : Int) : Prop :=
  ((givS l y).2 ≠ 0 ∧ m = [] ∧ ds = [] ∧ e = (givS l y).2) ∨ ((givS l y).2 = 0 ∧ ∃ d0 e0, dblR (givS l y).1 d0 e0 ∧ ((e0 ≠ 0 ∧ m = [] ∧ ds = [] ∧ e = e0) ∨ (e0 = 0 ∧ limitF (setS (givS l y).1 d0) ≠ 0 ∧ m = [] ∧ ds = [] ∧ e = 1) ∨ (e0 = 0 ∧ limitF (setS (givS l y).1 d0) = 0 ∧ m = setS (givS l y).1 d0 ∧ ds = d0 ∧ e = 0)))
/-- Versions that are few, and whose lines lie within 30 by 10 squares. -/
structure okS (l : List api_Version) : Prop where
  many : manyV l
  box : beginF l = 0 → ∀ x ∈ linV l, inBox x.rects
end PL
theorem many_like {l m : List api_Version} (h : likeV l m) (hm : manyV l) : manyV m := by
  refine ⟨by rw [h.1]; exact hm.1, fun v hv => ?_⟩
  obtain ⟨i, hi, rfl⟩ := List.getElem_of_mem hv
  have := h.shape.2 i
  rw [ix_lt hi, ix_lt (by rw [← h.1]; exact hi)] at this
  rw [this]; exact hm.2 _ (List.getElem_mem _)
/-- Lines behind gives stay small. -/
theorem gave_box {l : List api_Version} (hb : beginF l = 0) (h : okS l) {ys : List api_Yield} (hy : ∀ z ∈ ys, thereP l z.1) {p : api_Place} (hp : thereP l p) : inBox (gat (ys.foldl give1 l) p) ∧ (gat (ys.foldl give1 l) p).length ≤ 300 ∧ Canon (gat (ys.foldl give1 l) p) := by
  obtain ⟨q1, q2⟩ := (gives_ok hy).2 p hp
  have hm : (⟨p, gat l p⟩ : Ln) ∈ linV l := mem_linV.2 ⟨hp, rfl⟩
  obtain ⟨_, v2, v3⟩ := (begin_zero hb).2 ⟨p, gat l p⟩ hm
  have hbx := h.2 hb ⟨p, gat l p⟩ hm
  obtain ⟨r1, r2⟩ := can_inBox (q1 v3) fun x y hc => box_cov2 hbx ((q2 x y).1 hc).1
  exact ⟨r1, r2, q1 v3⟩
theorem errY_take {l : List api_Version} {ys : List api_Yield} (h : errY l ys = 0) : ∀ z ∈ ys, thereP l z.1 := fun z hz => (errY_zero h z hz).1
theorem begin_small {l : List api_Version} (h : okS l) (hb : beginF l = 0) : smallF (linV l) := by
  obtain ⟨h1, h2⟩ := begin_zero hb
  exact ⟨h1, linV_nodup l, fun x hx => ⟨h.2 hb x hx, (h2 x hx).1⟩⟩
theorem okS_D {l : List api_Version} (h : okS l) : okD l := ⟨h.1, begin_small h⟩
theorem givS_zero {l : List api_Version} {ys : List api_Yield} (h : (givS l ys).2 = 0) : beginF l = 0 ∧ ys.length ≤ 200 ∧ errY l ys = 0 ∧ limitF (ys.foldl give1 l) = 0 ∧ (givS l ys).1 = ys.foldl give1 l := by
  unfold givS at h ⊢
  by_cases h1 : beginF l ≠ 0
  · rw [if_pos h1] at h; exact absurd h h1
  rw [if_neg h1] at h ⊢
  by_cases h2 : 200 < ys.length
  · rw [if_pos h2] at h; cases h
  rw [if_neg h2] at h ⊢
  by_cases h3 : errY l ys ≠ 0
  · rw [if_pos h3] at h; exact absurd h h3
  rw [if_neg h3] at h ⊢
  by_cases h4 : limitF (ys.foldl give1 l) ≠ 0
  · rw [if_pos h4] at h; cases h
  rw [if_neg h4]
  exact ⟨Classical.not_not.1 h1, by omega, Classical.not_not.1 h3, Classical.not_not.1 h4, rfl⟩
theorem okS_like {l m : List api_Version} (hl : likeV l m) (h : okS l) (hb : beginF l = 0) (hbx : ∀ p, thereP l p → inBox (gat m p)) : okS m := by
  refine ⟨many_like hl h.1, fun _ x hx => ?_⟩
  obtain ⟨h1, h2⟩ := mem_linV.1 hx
  rw [h2]
  exact hbx _ (hl.there.1 h1)
theorem okS_give {l : List api_Version} (h : okS l) {ys : List api_Yield} (he : (givS l ys).2 = 0) : okS (givS l ys).1 ∧ likeV l (givS l ys).1 := by
  obtain ⟨hb, _, hy, _, e⟩ := givS_zero he
  rw [e]
  have hy := errY_take hy
  have hl := (gives_ok hy).1
  exact ⟨okS_like hl h hb fun p hp => (gave_box hb h hy hp).1, hl⟩
theorem setS_app (g : List api_Version) (a : List Dbl) (d : Dbl) : setS g (a ++ [d]) = (d.Claims.map fun p => (⟨p, d.Region⟩ : api_Yield)).foldl give1 (setS g a) := by
  unfold setS claimsY
  rw [List.flatMap_append, List.foldl_append]
  simp
/-- In the course of Settled. -/
theorem set_mid {g : List api_Version} (h : okS g) (hb : beginF g = 0) {ds : List Dbl} (hd : dblsP (linV g) ds) {i : Nat} {d : Dbl} (hi : ds[i]? = some d) (j : Nat) :
    likeV g (((d.Claims.take j).map fun p => (⟨p, d.Region⟩ : api_Yield)).foldl give1 (setS g (ds.take i))) ∧ ∀ p, thereP g p → inBox (gat (((d.Claims.take j).map fun p => (⟨p, d.Region⟩ : api_Yield)).foldl give1 (setS g (ds.take i))) p) ∧ (gat (((d.Claims.take j).map fun p => (⟨p, d.Region⟩ : api_Yield)).foldl give1 (setS g (ds.take i))) p).length ≤ 300 := by
  have e : ((d.Claims.take j).map fun p => (⟨p, d.Region⟩ : api_Yield)).foldl give1 (setS g (ds.take i)) = (claimsY (ds.take i) ++ (d.Claims.take j).map fun p => (⟨p, d.Region⟩ : api_Yield)).foldl give1 g := by
    rw [List.foldl_append]; rfl
  have hy : ∀ z ∈ claimsY (ds.take i) ++ (d.Claims.take j).map fun p => (⟨p, d.Region⟩ : api_Yield), thereP g z.1 := fun z hz => by
    rcases List.mem_append.1 hz with hz | hz
    · obtain ⟨d', hd', hp, _⟩ := mem_claimsY.1 hz
      exact claims_there hd (List.mem_of_mem_take hd') hp
    · obtain ⟨p, hp, rfl⟩ := List.mem_map.1 hz
      exact claims_there hd (List.mem_of_getElem? hi) (List.mem_of_mem_take hp)
  rw [e]
  exact ⟨(gives_ok hy).1, fun p hp => ⟨(gave_box hb h hy hp).1, (gave_box hb h hy hp).2.1⟩⟩
theorem dbl_small {g : List api_Version} (h : okS g) (hb : beginF g = 0) {ds : List Dbl} (hd : dblsP (linV g) ds) {d : Dbl} (hm : d ∈ ds) : inBox d.Region.Rects ∧ d.Region.Rects.length ≤ 300 ∧ d.Claims.length ≤ 60 ∧ ∀ p ∈ d.Claims, thereP g p := by
  have hs := begin_small h hb
  obtain ⟨f, hf, rfl⟩ := List.mem_map.1 (hd.1.mem_iff.1 hm)
  have hf := (List.mem_filter.1 hf).1
  obtain ⟨q1, q2, q3⟩ := face_small (faces_ok hs.2.1) (fun x hx => (hs.2.2 x hx).1) hf
  have h6 : (linV g).length ≤ 60 := hs.1
  exact ⟨q1, q2, Nat.le_trans q3 h6, fun p hp => claims_there hd hm hp⟩
theorem dblR_zero {l : List api_Version} {ds : List Dbl} (h : dblR l ds 0) : beginF l = 0 ∧ dblsP (linV l) ds ∧ ds.length ≤ 200 := by
  rcases h with ⟨a, _, b⟩ | ⟨a, d0, h1, ⟨_, _, b⟩ | ⟨h2, rfl, _⟩⟩
  · exact absurd b.symm a
  · cases b
  · refine ⟨a, h1, ?_⟩
    apply Classical.byContradiction
    intro hn
    exact h2 (.inl (by omega))
end RE
end Go.Proofs.YtblcakaohlgagaaGreat
set_option maxRecDepth 100000
set_option linter.unusedVariables false
namespace Go.Proofs.YtblcakaohlgagaaGreat
open Go.RowKit
namespace RE
open PL

def pset_P (l : List (api_Version)) (ys : List (api_Yield)) (post : List (api_Version) → List (api_Double) → Int → Prop) : Prop := okS l ∧ ∀ m ds e, setR l ys m ds e → post m ds e
def pset_sp : Spec := ⟨13, false, true, [.sl (.st .api_Version), .sl (.st .api_Yield)], .tup [.dat (.sl (.st .api_Version)), .dat (.sl (.st .api_Double)), .dat (.int .i64)], fun x post => pset_P (x.1 : List (api_Version)) (x.2.1 : List (api_Yield)) (fun y0 y1 y2 => post (y0, y1, y2, ()))⟩
def pset_C : CtxR := ⟨tau, [rule1 pthere_sp, rule1 pval_sp, ruleW 50 (.st .api_Version) 38 1 43 (.st .api_Line) Nest.Small, ruleC pchoN_sp 39, rule1 plimit_sp, rule1 pfaces_sp, rule3 psortD_sp], lookJ [(0, 17, ⟨[(35, .dat (.int .i64))], [], [36, 37, 38, 11, 39, 40, 41, 67, 66, 65, 64, 63, 62, 61, 60, 59, 58, 57, 56, 14, 55, 54, 53, 52, 51, 50, 49, 48, 47, 46, 13, 45, 44, 42, 43, 68], [], [(1, 38, (.st .api_Version))]⟩), (0, 23, ⟨[(42, .dat (.int .i64))], [], [43, 44, 45, 13, 46, 47, 48, 49, 50, 51, 52, 53, 54, 55, 14, 56, 57, 58, 59, 60, 61, 62, 63, 64, 65, 66, 67], [], [(1, 38, (.st .api_Version))]⟩), (4086, 0, ⟨[(0, .tup [.own 47 (.st .api_Double), .dat (.int .i64)])], [], [], [], []⟩), (4086, 13, ⟨[(22, .dat (.int .i64)), (6, .own 47 (.st .api_Double))], [], [23, 29, 28, 27, 26, 8, 25, 24, 45, 44, 43, 42, 41, 40, 39, 37, 36, 10, 9, 35, 34, 30, 33, 32, 31, 46], [], []⟩), (4086, 26, ⟨[(6, .own 47 (.st .api_Double))], [], [31, 32, 33, 30, 34, 35, 9, 10, 36, 37, 39, 40, 41, 42, 43, 44, 45, 24, 25, 8, 26, 27, 28, 29], [3], []⟩), (4259423118, 0, ⟨[(0, .tup [.agg [.dat (.sl (.st .api_Rect))], .dat (.int .i64)])], [], [], [], []⟩), (4259414949, 0, ⟨[(0, .tup [.own 136 (.st .crosscheck_line), .dat (.int .i64)])], [], [], [], []⟩), (4259414949, 9, ⟨[(12, .dat (.int .i64)), (5, .dat .bool), (4, .own 136 (.st .crosscheck_line))], [], [13, 14, 15, 16, 7, 6, 17, 18, 19, 41, 39, 38, 37, 40, 36, 35, 34, 33, 32, 31, 30, 29, 28, 27, 26, 25, 8, 9, 24, 23, 22, 20, 21, 42, 43, 44, 45], [], []⟩), (4259414949, 15, ⟨[(20, .dat (.int .i64)), (5, .dat .bool), (4, .own 136 (.st .crosscheck_line))], [], [21, 22, 23, 24, 9, 8, 25, 26, 27, 28, 29, 30, 31, 32, 33, 34, 35, 36, 40, 37, 38, 39, 41], [2], []⟩), (1024, 33, ⟨[(48, .dat (.int .i64))], [], [49, 50, 51, 12, 52, 53, 54, 55, 56, 57, 58, 59, 60, 61, 62, 63, 13, 64, 65, 66, 67, 68, 69, 70, 71, 72, 73, 74, 75], [], [(1, 38, (.st .api_Version))]⟩), (1024, 15, ⟨[(28, .dat (.int .i64))], [], [29, 30, 31, 9, 33, 34, 35, 36, 37, 32, 39, 40, 41, 42, 38, 43], [], []⟩), (1067460607, 0, ⟨[(0, .tup [.own 136 (.st .crosscheck_line), .dat (.int .i64)])], [], [], [], []⟩), (1067460607, 9, ⟨[(12, .dat (.int .i64)), (5, .dat .bool), (4, .own 136 (.st .crosscheck_line))], [], [13, 14, 15, 16, 7, 6, 17, 18, 19, 41, 39, 38, 37, 40, 36, 35, 34, 33, 32, 31, 30, 29, 28, 27, 26, 25, 8, 9, 24, 23, 22, 20, 21, 42, 43, 44, 45], [], []⟩), (1067460607, 15, ⟨[(20, .dat (.int .i64)), (5, .dat .bool), (4, .own 136 (.st .crosscheck_line))], [], [21, 22, 23, 24, 9, 8, 25, 26, 27, 28, 29, 30, 31, 32, 33, 34, 35, 36, 40, 37, 38, 39, 41], [0], []⟩)]⟩
def pset_W (l : List (api_Version)) (ys : List (api_Yield)) (post : List (api_Version) → List (api_Double) → Int → Prop) : Prop := JOIN [(Ty.st Sn.crosscheck_line).sl, Ty.int IntKind.i64] (fun (y1 : List crosscheck_line) (y2 : Int) ↦ IFB (!decide (y2 = (0 : Int))) (IFB (!decide (y2 = (0 : Int))) (post [] [] y2) (JOIN [(Ty.st Sn.api_Double).sl, Ty.int IntKind.i64] (fun (y3 : List api_Double) (y4 : Int) ↦ IFB (!decide (y4 = (0 : Int))) (post [] [] y4) ((↑y3.length : Int) ≤ (9223372036854775807 : Int) → False)) fun (J5 : List api_Double → Int → Prop) ↦ JOIN [(Ty.st Sn.crosscheck_line).sl, Ty.int IntKind.i64] (fun (y6 : List crosscheck_line) (y7 : Int) ↦ IFB (!decide (y7 = (0 : Int))) (J5 [] y7) ((y6.length ≤ (60 : Nat) ∧ List.Pairwise (fun (x1 x2 : api_Place) ↦ x1 = x2 → False) (List.map (fun (x : crosscheck_line) ↦ x.1) y6) ∧ ∀ (v8 : crosscheck_line), v8 ∈ y6 → (∀ (v9 : api_Rect), v9 ∈ v8.2 → (0 : Int) ≤ v9.1 ∧ v9.1 < v9.3 ∧ v9.3 ≤ (30 : Int) ∧ (0 : Int) ≤ v9.2 ∧ v9.2 < v9.4 ∧ v9.4 ≤ (10 : Int)) ∧ v8.2.length ≤ (120 : Nat)) ∧ ((↑(facesS y6).length : Int) ≤ (9223372036854775807 : Int) → LOOP [Ty.int IntKind.i64, (Ty.st Sn.api_Double).sl] (fun (rec10 : Int → List api_Double → Prop) (z11 : Int) (z12 : List api_Double) ↦ IFB (decide (z11 < (↑(facesS y6).length : Int))) (JOIN [(Ty.st Sn.api_Double).sl] (fun (y13 : List api_Double) ↦ rec10 (IntKind.i64.wrap (z11 + (1 : Int))) y13) fun (J14 : List api_Double → Prop) ↦ ((0 : Int) ≤ z11 ∧ z11 < (↑(facesS y6).length : Int)) ∧ ((↑(ix (facesS y6) z11).2.length : Int) ≤ (9223372036854775807 : Int) → IFB (decide ((↑(ix (facesS y6) z11).2.length : Int) < (2 : Int))) False (JOIN [(Ty.st Sn.api_Rect).sl, Ty.int IntKind.i64] (fun (y15 : List api_Rect) (y16 : Int) ↦ IFB (!decide (y16 = (0 : Int))) (J5 [] y16) ((z12.length + [{ Region := { Rects := y15 : api_Region }, Claims := (ix (facesS y6) z11).2 : api_Double }].length) * (48 : Nat) ≤ (140737488355328 : Nat) ∧ False)) fun (J17 : List api_Rect → Int → Prop) ↦ (↑(ix (facesS y6) z11).1.length : Int) ≤ (9223372036854775807 : Int) → IFB (decide ((120 : Int) < (↑(ix (facesS y6) z11).1.length : Int))) (J17 [] (1 : Int)) (J17 (ix (facesS y6) z11).1 (0 : Int))))) ((↑z12.length : Int) ≤ (9223372036854775807 : Int) → IFB (decide ((200 : Int) < (↑z12.length : Int))) (J5 [] (1 : Int)) ((z12.length ≤ (1000000 : Nat) ∧ ∀ (v18 : api_Double), v18 ∈ z12 → (v18.2 = [] → False) ∧ v18.2.length ≤ (1000000000 : Nat)) ∧ ∀ (v19 : List api_Double), v19.Perm z12 → List.Pairwise (fun (a b : api_Double) ↦ befP b.2 a.2 = false) v19 → J5 v19 (0 : Int)))) ((0 : Int), [], PUnit.unit)))) fun (J20 : List crosscheck_line → Int → Prop) ↦ LOOP [Ty.int IntKind.i64, Ty.bool, (Ty.st Sn.crosscheck_line).sl] (fun (rec21 : Int → Bool → List crosscheck_line → Prop) (z22 : Int) (z23 : Bool) (z24 : List crosscheck_line) ↦ IFB (decide (z22 < (0 : Int))) False (IFB (!z23) (J20 [] (7 : Int)) (J20 z24 (0 : Int)))) ((0 : Int), true, [], PUnit.unit))) ((↑ys.length : Int) ≤ (9223372036854775807 : Int) → IFB (decide ((200 : Int) < (↑ys.length : Int))) (IFB true (post [] [] (1 : Int)) (JOIN [(Ty.st Sn.api_Double).sl, Ty.int IntKind.i64] (fun (y25 : List api_Double) (y26 : Int) ↦ IFB (!decide (y26 = (0 : Int))) (post [] [] y26) ((↑y25.length : Int) ≤ (9223372036854775807 : Int) → False)) fun (J27 : List api_Double → Int → Prop) ↦ JOIN [(Ty.st Sn.crosscheck_line).sl, Ty.int IntKind.i64] (fun (y28 : List crosscheck_line) (y29 : Int) ↦ IFB (!decide (y29 = (0 : Int))) (J27 [] y29) ((y28.length ≤ (60 : Nat) ∧ List.Pairwise (fun (x1 x2 : api_Place) ↦ x1 = x2 → False) (List.map (fun (x : crosscheck_line) ↦ x.1) y28) ∧ ∀ (v30 : crosscheck_line), v30 ∈ y28 → (∀ (v31 : api_Rect), v31 ∈ v30.2 → (0 : Int) ≤ v31.1 ∧ v31.1 < v31.3 ∧ v31.3 ≤ (30 : Int) ∧ (0 : Int) ≤ v31.2 ∧ v31.2 < v31.4 ∧ v31.4 ≤ (10 : Int)) ∧ v30.2.length ≤ (120 : Nat)) ∧ ((↑(facesS y28).length : Int) ≤ (9223372036854775807 : Int) → LOOP [Ty.int IntKind.i64, (Ty.st Sn.api_Double).sl] (fun (rec32 : Int → List api_Double → Prop) (z33 : Int) (z34 : List api_Double) ↦ IFB (decide (z33 < (↑(facesS y28).length : Int))) (JOIN [(Ty.st Sn.api_Double).sl] (fun (y35 : List api_Double) ↦ rec32 (IntKind.i64.wrap (z33 + (1 : Int))) y35) fun (J36 : List api_Double → Prop) ↦ ((0 : Int) ≤ z33 ∧ z33 < (↑(facesS y28).length : Int)) ∧ ((↑(ix (facesS y28) z33).2.length : Int) ≤ (9223372036854775807 : Int) → IFB (decide ((↑(ix (facesS y28) z33).2.length : Int) < (2 : Int))) False (JOIN [(Ty.st Sn.api_Rect).sl, Ty.int IntKind.i64] (fun (y37 : List api_Rect) (y38 : Int) ↦ IFB (!decide (y38 = (0 : Int))) (J27 [] y38) ((z34.length + [{ Region := { Rects := y37 : api_Region }, Claims := (ix (facesS y28) z33).2 : api_Double }].length) * (48 : Nat) ≤ (140737488355328 : Nat) ∧ False)) fun (J39 : List api_Rect → Int → Prop) ↦ (↑(ix (facesS y28) z33).1.length : Int) ≤ (9223372036854775807 : Int) → IFB (decide ((120 : Int) < (↑(ix (facesS y28) z33).1.length : Int))) (J39 [] (1 : Int)) (J39 (ix (facesS y28) z33).1 (0 : Int))))) ((↑z34.length : Int) ≤ (9223372036854775807 : Int) → IFB (decide ((200 : Int) < (↑z34.length : Int))) (J27 [] (1 : Int)) ((z34.length ≤ (1000000 : Nat) ∧ ∀ (v40 : api_Double), v40 ∈ z34 → (v40.2 = [] → False) ∧ v40.2.length ≤ (1000000000 : Nat)) ∧ ∀ (v41 : List api_Double), v41.Perm z34 → List.Pairwise (fun (a b : api_Double) ↦ befP b.2 a.2 = false) v41 → J27 v41 (0 : Int)))) ((0 : Int), [], PUnit.unit)))) fun (J42 : List crosscheck_line → Int → Prop) ↦ LOOP [Ty.int IntKind.i64, Ty.bool, (Ty.st Sn.crosscheck_line).sl] (fun (rec43 : Int → Bool → List crosscheck_line → Prop) (z44 : Int) (z45 : Bool) (z46 : List crosscheck_line) ↦ IFB (decide (z44 < (0 : Int))) False (IFB (!z45) (J42 [] (7 : Int)) (J42 z46 (0 : Int)))) ((0 : Int), true, [], PUnit.unit))) ((↑ys.length : Int) ≤ (9223372036854775807 : Int) → LOOP [Ty.int IntKind.i64] (fun (rec47 : Int → Prop) (z48 : Int) ↦ IFB (decide (z48 < (↑ys.length : Int))) (((0 : Int) ≤ z48 ∧ z48 < (↑ys.length : Int)) ∧ l.length ≤ (1000000 : Nat) ∧ ∀ (v49 : Bool), (v49 = true ↔ thereP l { Application := (ix ys z48).1.1, Line := (ix ys z48).1.2 : api_Place }) → IFB (!v49) (IFB true (post [] [] (15 : Int)) (JOIN [(Ty.st Sn.api_Double).sl, Ty.int IntKind.i64] (fun (y50 : List api_Double) (y51 : Int) ↦ IFB (!decide (y51 = (0 : Int))) (post [] [] y51) ((↑y50.length : Int) ≤ (9223372036854775807 : Int) → False)) fun (J52 : List api_Double → Int → Prop) ↦ JOIN [(Ty.st Sn.crosscheck_line).sl, Ty.int IntKind.i64] (fun (y53 : List crosscheck_line) (y54 : Int) ↦ IFB (!decide (y54 = (0 : Int))) (J52 [] y54) ((y53.length ≤ (60 : Nat) ∧ List.Pairwise (fun (x1 x2 : api_Place) ↦ x1 = x2 → False) (List.map (fun (x : crosscheck_line) ↦ x.1) y53) ∧ ∀ (v55 : crosscheck_line), v55 ∈ y53 → (∀ (v56 : api_Rect), v56 ∈ v55.2 → (0 : Int) ≤ v56.1 ∧ v56.1 < v56.3 ∧ v56.3 ≤ (30 : Int) ∧ (0 : Int) ≤ v56.2 ∧ v56.2 < v56.4 ∧ v56.4 ≤ (10 : Int)) ∧ v55.2.length ≤ (120 : Nat)) ∧ ((↑(facesS y53).length : Int) ≤ (9223372036854775807 : Int) → LOOP [Ty.int IntKind.i64, (Ty.st Sn.api_Double).sl] (fun (rec57 : Int → List api_Double → Prop) (z58 : Int) (z59 : List api_Double) ↦ IFB (decide (z58 < (↑(facesS y53).length : Int))) (JOIN [(Ty.st Sn.api_Double).sl] (fun (y60 : List api_Double) ↦ rec57 (IntKind.i64.wrap (z58 + (1 : Int))) y60) fun (J61 : List api_Double → Prop) ↦ ((0 : Int) ≤ z58 ∧ z58 < (↑(facesS y53).length : Int)) ∧ ((↑(ix (facesS y53) z58).2.length : Int) ≤ (9223372036854775807 : Int) → IFB (decide ((↑(ix (facesS y53) z58).2.length : Int) < (2 : Int))) (J61 z59) (JOIN [(Ty.st Sn.api_Rect).sl, Ty.int IntKind.i64] (fun (y62 : List api_Rect) (y63 : Int) ↦ IFB (!decide (y63 = (0 : Int))) (J52 [] y63) ((z59.length + [{ Region := { Rects := y62 : api_Region }, Claims := (ix (facesS y53) z58).2 : api_Double }].length) * (48 : Nat) ≤ (140737488355328 : Nat) ∧ J61 (z59 ++ [{ Region := { Rects := y62 : api_Region }, Claims := (ix (facesS y53) z58).2 : api_Double }]))) fun (J64 : List api_Rect → Int → Prop) ↦ (↑(ix (facesS y53) z58).1.length : Int) ≤ (9223372036854775807 : Int) → IFB (decide ((120 : Int) < (↑(ix (facesS y53) z58).1.length : Int))) (J64 [] (1 : Int)) (J64 (ix (facesS y53) z58).1 (0 : Int))))) ((↑z59.length : Int) ≤ (9223372036854775807 : Int) → IFB (decide ((200 : Int) < (↑z59.length : Int))) (J52 [] (1 : Int)) ((z59.length ≤ (1000000 : Nat) ∧ ∀ (v65 : api_Double), v65 ∈ z59 → (v65.2 = [] → False) ∧ v65.2.length ≤ (1000000000 : Nat)) ∧ ∀ (v66 : List api_Double), v66.Perm z59 → List.Pairwise (fun (a b : api_Double) ↦ befP b.2 a.2 = false) v66 → J52 v66 (0 : Int)))) ((0 : Int), [], PUnit.unit)))) fun (J67 : List crosscheck_line → Int → Prop) ↦ LOOP [Ty.int IntKind.i64, Ty.bool, (Ty.st Sn.crosscheck_line).sl] (fun (rec68 : Int → Bool → List crosscheck_line → Prop) (z69 : Int) (z70 : Bool) (z71 : List crosscheck_line) ↦ IFB (decide (z69 < (0 : Int))) False (IFB (!z70) (J67 [] (7 : Int)) (J67 z71 (0 : Int)))) ((0 : Int), true, [], PUnit.unit))) (∀ (v72 : Bool), (v72 = true ↔ validP (ix ys z48).2.1) → IFB (!v72) (IFB true (post [] [] (7 : Int)) (JOIN [(Ty.st Sn.api_Double).sl, Ty.int IntKind.i64] (fun (y73 : List api_Double) (y74 : Int) ↦ IFB (!decide (y74 = (0 : Int))) (post [] [] y74) ((↑y73.length : Int) ≤ (9223372036854775807 : Int) → False)) fun (J75 : List api_Double → Int → Prop) ↦ JOIN [(Ty.st Sn.crosscheck_line).sl, Ty.int IntKind.i64] (fun (y76 : List crosscheck_line) (y77 : Int) ↦ IFB (!decide (y77 = (0 : Int))) (J75 [] y77) ((y76.length ≤ (60 : Nat) ∧ List.Pairwise (fun (x1 x2 : api_Place) ↦ x1 = x2 → False) (List.map (fun (x : crosscheck_line) ↦ x.1) y76) ∧ ∀ (v78 : crosscheck_line), v78 ∈ y76 → (∀ (v79 : api_Rect), v79 ∈ v78.2 → (0 : Int) ≤ v79.1 ∧ v79.1 < v79.3 ∧ v79.3 ≤ (30 : Int) ∧ (0 : Int) ≤ v79.2 ∧ v79.2 < v79.4 ∧ v79.4 ≤ (10 : Int)) ∧ v78.2.length ≤ (120 : Nat)) ∧ ((↑(facesS y76).length : Int) ≤ (9223372036854775807 : Int) → LOOP [Ty.int IntKind.i64, (Ty.st Sn.api_Double).sl] (fun (rec80 : Int → List api_Double → Prop) (z81 : Int) (z82 : List api_Double) ↦ IFB (decide (z81 < (↑(facesS y76).length : Int))) (JOIN [(Ty.st Sn.api_Double).sl] (fun (y83 : List api_Double) ↦ rec80 (IntKind.i64.wrap (z81 + (1 : Int))) y83) fun (J84 : List api_Double → Prop) ↦ ((0 : Int) ≤ z81 ∧ z81 < (↑(facesS y76).length : Int)) ∧ ((↑(ix (facesS y76) z81).2.length : Int) ≤ (9223372036854775807 : Int) → IFB (decide ((↑(ix (facesS y76) z81).2.length : Int) < (2 : Int))) (J84 z82) (JOIN [(Ty.st Sn.api_Rect).sl, Ty.int IntKind.i64] (fun (y85 : List api_Rect) (y86 : Int) ↦ IFB (!decide (y86 = (0 : Int))) (J75 [] y86) ((z82.length + [{ Region := { Rects := y85 : api_Region }, Claims := (ix (facesS y76) z81).2 : api_Double }].length) * (48 : Nat) ≤ (140737488355328 : Nat) ∧ J84 (z82 ++ [{ Region := { Rects := y85 : api_Region }, Claims := (ix (facesS y76) z81).2 : api_Double }]))) fun (J87 : List api_Rect → Int → Prop) ↦ (↑(ix (facesS y76) z81).1.length : Int) ≤ (9223372036854775807 : Int) → IFB (decide ((120 : Int) < (↑(ix (facesS y76) z81).1.length : Int))) (J87 [] (1 : Int)) (J87 (ix (facesS y76) z81).1 (0 : Int))))) ((↑z82.length : Int) ≤ (9223372036854775807 : Int) → IFB (decide ((200 : Int) < (↑z82.length : Int))) (J75 [] (1 : Int)) ((z82.length ≤ (1000000 : Nat) ∧ ∀ (v88 : api_Double), v88 ∈ z82 → (v88.2 = [] → False) ∧ v88.2.length ≤ (1000000000 : Nat)) ∧ ∀ (v89 : List api_Double), v89.Perm z82 → List.Pairwise (fun (a b : api_Double) ↦ befP b.2 a.2 = false) v89 → J75 v89 (0 : Int)))) ((0 : Int), [], PUnit.unit)))) fun (J90 : List crosscheck_line → Int → Prop) ↦ LOOP [Ty.int IntKind.i64, Ty.bool, (Ty.st Sn.crosscheck_line).sl] (fun (rec91 : Int → Bool → List crosscheck_line → Prop) (z92 : Int) (z93 : Bool) (z94 : List crosscheck_line) ↦ IFB (decide (z92 < (0 : Int))) False (IFB (!z93) (J90 [] (7 : Int)) (J90 z94 (0 : Int)))) ((0 : Int), true, [], PUnit.unit))) (rec47 (IntKind.i64.wrap (z48 + (1 : Int)))))) ((l.length ≤ (4000000 : Nat) ∧ ∀ (v95 : api_Version), v95 ∈ l → v95.2.length ≤ (4000000 : Nat) ∧ ∀ (v96 : api_Line), v96 ∈ v95.2 → v96.2.1.length ≤ (4000000 : Nat)) ∧ ((↑ys.length : Int) ≤ (9223372036854775807 : Int) → LOOP [Ty.int IntKind.i64, (Ty.st Sn.api_Version).sl] (fun (rec97 : Int → List api_Version → Prop) (z98 : Int) (z99 : List api_Version) ↦ IFB (decide (z98 < (↑ys.length : Int))) (((0 : Int) ≤ z98 ∧ z98 < (↑ys.length : Int)) ∧ ((0 : Int) ≤ (ix ys z98).1.1 ∧ (ix ys z98).1.1 < (↑z99.length : Int)) ∧ ((0 : Int) ≤ (ix ys z98).1.2 ∧ (ix ys z98).1.2 < (↑(ix z99 (ix ys z98).1.1).2.length : Int)) ∧ (((∀ (v100 : api_Rect), v100 ∈ (ix (ix z99 (ix ys z98).1.1).2 (ix ys z98).1.2).2.1 → (0 : Int) ≤ v100.1 ∧ v100.1 < v100.3 ∧ v100.3 ≤ (16384 : Int) ∧ (0 : Int) ≤ v100.2 ∧ v100.2 < v100.4 ∧ v100.4 ≤ (16384 : Int)) ∧ (ix (ix z99 (ix ys z98).1.1).2 (ix ys z98).1.2).2.1.length ≤ (8000 : Nat)) ∧ (∀ (v101 : api_Rect), v101 ∈ (ix ys z98).2.1 → (0 : Int) ≤ v101.1 ∧ v101.1 < v101.3 ∧ v101.3 ≤ (16384 : Int) ∧ (0 : Int) ≤ v101.2 ∧ v101.2 < v101.4 ∧ v101.4 ≤ (16384 : Int)) ∧ (ix ys z98).2.1.length ≤ (8000 : Nat)) ∧ rec97 (IntKind.i64.wrap (z98 + (1 : Int))) (z99.set (ix ys z98).1.1.toNat { Day := (ix z99 (ix ys z98).1.1).1, Lines := (ix z99 (ix ys z98).1.1).2.set (ix ys z98).1.2.toNat { Parcel := (ix (ix z99 (ix ys z98).1.1).2 (ix ys z98).1.2).1, Region := { Rects := canonF fun (x y : Int) ↦ howS (3 : Int) (cov (ix (ix z99 (ix ys z98).1.1).2 (ix ys z98).1.2).2.1 x y) (cov (ix ys z98).2.1 x y) : api_Region }, Crop := (ix (ix z99 (ix ys z98).1.1).2 (ix ys z98).1.2).3, Schemes := (ix (ix z99 (ix ys z98).1.1).2 (ix ys z98).1.2).4 : api_Line } : api_Version })) ((z99.length ≤ (1000 : Nat) ∧ ∀ (v102 : api_Version), v102 ∈ z99 → v102.2.length ≤ (1000 : Nat)) ∧ IFB (!decide (limitF z99 = (0 : Int))) (IFB (!decide (limitF z99 = (0 : Int))) (post [] [] (limitF z99)) (JOIN [(Ty.st Sn.api_Double).sl, Ty.int IntKind.i64] (fun (y103 : List api_Double) (y104 : Int) ↦ IFB (!decide (y104 = (0 : Int))) (post [] [] y104) ((↑y103.length : Int) ≤ (9223372036854775807 : Int) → LOOP [Ty.int IntKind.i64, (Ty.st Sn.api_Version).sl] (fun (rec105 : Int → List api_Version → Prop) (z106 : Int) (z107 : List api_Version) ↦ IFB (decide (z106 < (↑y103.length : Int))) (((0 : Int) ≤ z106 ∧ z106 < (↑y103.length : Int)) ∧ ((↑(ix y103 z106).2.length : Int) ≤ (9223372036854775807 : Int) → LOOP [Ty.int IntKind.i64, (Ty.st Sn.api_Version).sl] (fun (rec108 : Int → List api_Version → Prop) (z109 : Int) (z110 : List api_Version) ↦ IFB (decide (z109 < (↑(ix y103 z106).2.length : Int))) (((0 : Int) ≤ z109 ∧ z109 < (↑(ix y103 z106).2.length : Int)) ∧ False) (rec105 (IntKind.i64.wrap (z106 + (1 : Int))) z110)) ((0 : Int), z107, PUnit.unit))) ((Nat.le ((0 : Nat)) ((1000 : Nat)) ∧ ∀ (v111 : api_Version), v111 ∈ [] → v111.2.length ≤ (1000 : Nat)) ∧ IFB false (post [] [] (0 : Int)) (post [] y103 (0 : Int)))) ((0 : Int), z99, PUnit.unit))) fun (J112 : List api_Double → Int → Prop) ↦ JOIN [(Ty.st Sn.crosscheck_line).sl, Ty.int IntKind.i64] (fun (y113 : List crosscheck_line) (y114 : Int) ↦ IFB (!decide (y114 = (0 : Int))) (J112 [] y114) ((y113.length ≤ (60 : Nat) ∧ List.Pairwise (fun (x1 x2 : api_Place) ↦ x1 = x2 → False) (List.map (fun (x : crosscheck_line) ↦ x.1) y113) ∧ ∀ (v115 : crosscheck_line), v115 ∈ y113 → (∀ (v116 : api_Rect), v116 ∈ v115.2 → (0 : Int) ≤ v116.1 ∧ v116.1 < v116.3 ∧ v116.3 ≤ (30 : Int) ∧ (0 : Int) ≤ v116.2 ∧ v116.2 < v116.4 ∧ v116.4 ≤ (10 : Int)) ∧ v115.2.length ≤ (120 : Nat)) ∧ ((↑(facesS y113).length : Int) ≤ (9223372036854775807 : Int) → LOOP [Ty.int IntKind.i64, (Ty.st Sn.api_Double).sl] (fun (rec117 : Int → List api_Double → Prop) (z118 : Int) (z119 : List api_Double) ↦ IFB (decide (z118 < (↑(facesS y113).length : Int))) (JOIN [(Ty.st Sn.api_Double).sl] (fun (y120 : List api_Double) ↦ rec117 (IntKind.i64.wrap (z118 + (1 : Int))) y120) fun (J121 : List api_Double → Prop) ↦ ((0 : Int) ≤ z118 ∧ z118 < (↑(facesS y113).length : Int)) ∧ ((↑(ix (facesS y113) z118).2.length : Int) ≤ (9223372036854775807 : Int) → IFB (decide ((↑(ix (facesS y113) z118).2.length : Int) < (2 : Int))) (J121 z119) (JOIN [(Ty.st Sn.api_Rect).sl, Ty.int IntKind.i64] (fun (y122 : List api_Rect) (y123 : Int) ↦ IFB (!decide (y123 = (0 : Int))) (J112 [] y123) ((z119.length + [{ Region := { Rects := y122 : api_Region }, Claims := (ix (facesS y113) z118).2 : api_Double }].length) * (48 : Nat) ≤ (140737488355328 : Nat) ∧ J121 (z119 ++ [{ Region := { Rects := y122 : api_Region }, Claims := (ix (facesS y113) z118).2 : api_Double }]))) fun (J124 : List api_Rect → Int → Prop) ↦ (↑(ix (facesS y113) z118).1.length : Int) ≤ (9223372036854775807 : Int) → IFB (decide ((120 : Int) < (↑(ix (facesS y113) z118).1.length : Int))) (J124 [] (1 : Int)) (J124 (ix (facesS y113) z118).1 (0 : Int))))) ((↑z119.length : Int) ≤ (9223372036854775807 : Int) → IFB (decide ((200 : Int) < (↑z119.length : Int))) (J112 [] (1 : Int)) ((z119.length ≤ (1000000 : Nat) ∧ ∀ (v125 : api_Double), v125 ∈ z119 → (v125.2 = [] → False) ∧ v125.2.length ≤ (1000000000 : Nat)) ∧ ∀ (v126 : List api_Double), v126.Perm z119 → List.Pairwise (fun (a b : api_Double) ↦ befP b.2 a.2 = false) v126 → J112 v126 (0 : Int)))) ((0 : Int), [], PUnit.unit)))) fun (J127 : List crosscheck_line → Int → Prop) ↦ LOOP [Ty.int IntKind.i64, Ty.bool, (Ty.st Sn.crosscheck_line).sl] (fun (rec128 : Int → Bool → List crosscheck_line → Prop) (z129 : Int) (z130 : Bool) (z131 : List crosscheck_line) ↦ IFB (decide (z129 < (0 : Int))) False (IFB (!z130) (J127 [] (7 : Int)) (J127 z131 (0 : Int)))) ((0 : Int), true, [], PUnit.unit))) (IFB false (post [] [] (0 : Int)) (JOIN [(Ty.st Sn.api_Double).sl, Ty.int IntKind.i64] (fun (y132 : List api_Double) (y133 : Int) ↦ IFB (!decide (y133 = (0 : Int))) (post [] [] y133) ((↑y132.length : Int) ≤ (9223372036854775807 : Int) → LOOP [Ty.int IntKind.i64, (Ty.st Sn.api_Version).sl] (fun (rec134 : Int → List api_Version → Prop) (z135 : Int) (z136 : List api_Version) ↦ IFB (decide (z135 < (↑y132.length : Int))) (((0 : Int) ≤ z135 ∧ z135 < (↑y132.length : Int)) ∧ ((↑(ix y132 z135).2.length : Int) ≤ (9223372036854775807 : Int) → LOOP [Ty.int IntKind.i64, (Ty.st Sn.api_Version).sl] (fun (rec137 : Int → List api_Version → Prop) (z138 : Int) (z139 : List api_Version) ↦ IFB (decide (z138 < (↑(ix y132 z135).2.length : Int))) (((0 : Int) ≤ z138 ∧ z138 < (↑(ix y132 z135).2.length : Int)) ∧ ((0 : Int) ≤ (ix (ix y132 z135).2 z138).1 ∧ (ix (ix y132 z135).2 z138).1 < (↑z139.length : Int)) ∧ ((0 : Int) ≤ (ix (ix y132 z135).2 z138).2 ∧ (ix (ix y132 z135).2 z138).2 < (↑(ix z139 (ix (ix y132 z135).2 z138).1).2.length : Int)) ∧ (((∀ (v140 : api_Rect), v140 ∈ (ix (ix z139 (ix (ix y132 z135).2 z138).1).2 (ix (ix y132 z135).2 z138).2).2.1 → (0 : Int) ≤ v140.1 ∧ v140.1 < v140.3 ∧ v140.3 ≤ (16384 : Int) ∧ (0 : Int) ≤ v140.2 ∧ v140.2 < v140.4 ∧ v140.4 ≤ (16384 : Int)) ∧ (ix (ix z139 (ix (ix y132 z135).2 z138).1).2 (ix (ix y132 z135).2 z138).2).2.1.length ≤ (8000 : Nat)) ∧ (∀ (v141 : api_Rect), v141 ∈ (ix y132 z135).1.1 → (0 : Int) ≤ v141.1 ∧ v141.1 < v141.3 ∧ v141.3 ≤ (16384 : Int) ∧ (0 : Int) ≤ v141.2 ∧ v141.2 < v141.4 ∧ v141.4 ≤ (16384 : Int)) ∧ (ix y132 z135).1.1.length ≤ (8000 : Nat)) ∧ rec137 (IntKind.i64.wrap (z138 + (1 : Int))) (z139.set (ix (ix y132 z135).2 z138).1.toNat { Day := (ix z139 (ix (ix y132 z135).2 z138).1).1, Lines := (ix z139 (ix (ix y132 z135).2 z138).1).2.set (ix (ix y132 z135).2 z138).2.toNat { Parcel := (ix (ix z139 (ix (ix y132 z135).2 z138).1).2 (ix (ix y132 z135).2 z138).2).1, Region := { Rects := canonF fun (x y : Int) ↦ howS (3 : Int) (cov (ix (ix z139 (ix (ix y132 z135).2 z138).1).2 (ix (ix y132 z135).2 z138).2).2.1 x y) (cov (ix y132 z135).1.1 x y) : api_Region }, Crop := (ix (ix z139 (ix (ix y132 z135).2 z138).1).2 (ix (ix y132 z135).2 z138).2).3, Schemes := (ix (ix z139 (ix (ix y132 z135).2 z138).1).2 (ix (ix y132 z135).2 z138).2).4 : api_Line } : api_Version })) (rec134 (IntKind.i64.wrap (z135 + (1 : Int))) z139)) ((0 : Int), z136, PUnit.unit))) ((z136.length ≤ (1000 : Nat) ∧ ∀ (v142 : api_Version), v142 ∈ z136 → v142.2.length ≤ (1000 : Nat)) ∧ IFB (!decide (limitF z136 = (0 : Int))) (post [] [] (limitF z136)) (post z136 y132 (0 : Int)))) ((0 : Int), z99, PUnit.unit))) fun (J143 : List api_Double → Int → Prop) ↦ JOIN [(Ty.st Sn.crosscheck_line).sl, Ty.int IntKind.i64] (fun (y144 : List crosscheck_line) (y145 : Int) ↦ IFB (!decide (y145 = (0 : Int))) (J143 [] y145) ((y144.length ≤ (60 : Nat) ∧ List.Pairwise (fun (x1 x2 : api_Place) ↦ x1 = x2 → False) (List.map (fun (x : crosscheck_line) ↦ x.1) y144) ∧ ∀ (v146 : crosscheck_line), v146 ∈ y144 → (∀ (v147 : api_Rect), v147 ∈ v146.2 → (0 : Int) ≤ v147.1 ∧ v147.1 < v147.3 ∧ v147.3 ≤ (30 : Int) ∧ (0 : Int) ≤ v147.2 ∧ v147.2 < v147.4 ∧ v147.4 ≤ (10 : Int)) ∧ v146.2.length ≤ (120 : Nat)) ∧ ((↑(facesS y144).length : Int) ≤ (9223372036854775807 : Int) → LOOP [Ty.int IntKind.i64, (Ty.st Sn.api_Double).sl] (fun (rec148 : Int → List api_Double → Prop) (z149 : Int) (z150 : List api_Double) ↦ IFB (decide (z149 < (↑(facesS y144).length : Int))) (JOIN [(Ty.st Sn.api_Double).sl] (fun (y151 : List api_Double) ↦ rec148 (IntKind.i64.wrap (z149 + (1 : Int))) y151) fun (J152 : List api_Double → Prop) ↦ ((0 : Int) ≤ z149 ∧ z149 < (↑(facesS y144).length : Int)) ∧ ((↑(ix (facesS y144) z149).2.length : Int) ≤ (9223372036854775807 : Int) → IFB (decide ((↑(ix (facesS y144) z149).2.length : Int) < (2 : Int))) (J152 z150) (JOIN [(Ty.st Sn.api_Rect).sl, Ty.int IntKind.i64] (fun (y153 : List api_Rect) (y154 : Int) ↦ IFB (!decide (y154 = (0 : Int))) (J143 [] y154) ((z150.length + [{ Region := { Rects := y153 : api_Region }, Claims := (ix (facesS y144) z149).2 : api_Double }].length) * (48 : Nat) ≤ (140737488355328 : Nat) ∧ J152 (z150 ++ [{ Region := { Rects := y153 : api_Region }, Claims := (ix (facesS y144) z149).2 : api_Double }]))) fun (J155 : List api_Rect → Int → Prop) ↦ (↑(ix (facesS y144) z149).1.length : Int) ≤ (9223372036854775807 : Int) → IFB (decide ((120 : Int) < (↑(ix (facesS y144) z149).1.length : Int))) (J155 [] (1 : Int)) (J155 (ix (facesS y144) z149).1 (0 : Int))))) ((↑z150.length : Int) ≤ (9223372036854775807 : Int) → IFB (decide ((200 : Int) < (↑z150.length : Int))) (J143 [] (1 : Int)) ((z150.length ≤ (1000000 : Nat) ∧ ∀ (v156 : api_Double), v156 ∈ z150 → (v156.2 = [] → False) ∧ v156.2.length ≤ (1000000000 : Nat)) ∧ ∀ (v157 : List api_Double), v157.Perm z150 → List.Pairwise (fun (a b : api_Double) ↦ befP b.2 a.2 = false) v157 → J143 v157 (0 : Int)))) ((0 : Int), [], PUnit.unit)))) fun (J158 : List crosscheck_line → Int → Prop) ↦ (↑z99.length : Int) ≤ (9223372036854775807 : Int) → LOOP [Ty.int IntKind.i64, Ty.bool, (Ty.st Sn.crosscheck_line).sl] (fun (rec159 : Int → Bool → List crosscheck_line → Prop) (z160 : Int) (z161 : Bool) (z162 : List crosscheck_line) ↦ IFB (decide (z160 < (↑z99.length : Int))) (((0 : Int) ≤ z160 ∧ z160 < (↑z99.length : Int)) ∧ ((↑(ix z99 z160).2.length : Int) ≤ (9223372036854775807 : Int) → LOOP [Ty.int IntKind.i64, Ty.bool, (Ty.st Sn.crosscheck_line).sl] (fun (rec163 : Int → Bool → List crosscheck_line → Prop) (z164 : Int) (z165 : Bool) (z166 : List crosscheck_line) ↦ IFB (decide (z164 < (↑(ix z99 z160).2.length : Int))) (((0 : Int) ≤ z164 ∧ z164 < (↑(ix z99 z160).2.length : Int)) ∧ (z166.length + [{ place := { Application := z160, Line := z164 : api_Place }, rects := (ix (ix z99 z160).2 z164).2.1 : crosscheck_line }].length) * (40 : Nat) ≤ (140737488355328 : Nat) ∧ JOIN [Ty.bool] (fun (y167 : Bool) ↦ rec163 (IntKind.i64.wrap (z164 + (1 : Int))) (z165 && y167) (z166 ++ [{ place := { Application := z160, Line := z164 : api_Place }, rects := (ix (ix z99 z160).2 z164).2.1 : crosscheck_line }])) fun (J168 : Bool → Prop) ↦ IFB (gx true z165) (∀ (v169 : Bool), (v169 = true ↔ validP (ix (ix z99 z160).2 z164).2.1) → J168 v169) (J168 false)) ((↑z166.length : Int) ≤ (9223372036854775807 : Int) → IFB (decide ((60 : Int) < (↑z166.length : Int))) (J158 [] (1 : Int)) (rec159 (IntKind.i64.wrap (z160 + (1 : Int))) z165 z166))) ((0 : Int), z161, z162, PUnit.unit))) (IFB (!z161) (J158 [] (7 : Int)) (J158 z162 (0 : Int)))) ((0 : Int), true, [], PUnit.unit))))) ((0 : Int), l, PUnit.unit)))) ((0 : Int), PUnit.unit)))) fun (J170 : List crosscheck_line → Int → Prop) ↦ (↑l.length : Int) ≤ (9223372036854775807 : Int) → LOOP [Ty.int IntKind.i64, Ty.bool, (Ty.st Sn.crosscheck_line).sl] (fun (rec171 : Int → Bool → List crosscheck_line → Prop) (z172 : Int) (z173 : Bool) (z174 : List crosscheck_line) ↦ IFB (decide (z172 < (↑l.length : Int))) (((0 : Int) ≤ z172 ∧ z172 < (↑l.length : Int)) ∧ ((↑(ix l z172).2.length : Int) ≤ (9223372036854775807 : Int) → LOOP [Ty.int IntKind.i64, Ty.bool, (Ty.st Sn.crosscheck_line).sl] (fun (rec175 : Int → Bool → List crosscheck_line → Prop) (z176 : Int) (z177 : Bool) (z178 : List crosscheck_line) ↦ IFB (decide (z176 < (↑(ix l z172).2.length : Int))) (((0 : Int) ≤ z176 ∧ z176 < (↑(ix l z172).2.length : Int)) ∧ (z178.length + [{ place := { Application := z172, Line := z176 : api_Place }, rects := (ix (ix l z172).2 z176).2.1 : crosscheck_line }].length) * (40 : Nat) ≤ (140737488355328 : Nat) ∧ JOIN [Ty.bool] (fun (y179 : Bool) ↦ rec175 (IntKind.i64.wrap (z176 + (1 : Int))) (z177 && y179) (z178 ++ [{ place := { Application := z172, Line := z176 : api_Place }, rects := (ix (ix l z172).2 z176).2.1 : crosscheck_line }])) fun (J180 : Bool → Prop) ↦ IFB (gx true z177) (∀ (v181 : Bool), (v181 = true ↔ validP (ix (ix l z172).2 z176).2.1) → J180 v181) (J180 false)) ((↑z178.length : Int) ≤ (9223372036854775807 : Int) → IFB (decide ((60 : Int) < (↑z178.length : Int))) (J170 [] (1 : Int)) (rec171 (IntKind.i64.wrap (z172 + (1 : Int))) z177 z178))) ((0 : Int), z173, z174, PUnit.unit))) (IFB (!z173) (J170 [] (7 : Int)) (J170 z174 (0 : Int)))) ((0 : Int), true, [], PUnit.unit)
theorem pset_w (l : List (api_Version)) (ys : List (api_Yield)) (post : dens (shT pset_sp.rs []) → Prop) : pset_W l ys (fun y0 y1 y2 => post (y0, y1, y2, ())) = walkG (callR Tryz.prog pset_C (drawR Tryz.prog tau) 10 0) 13 false [tv (.sl (.st .api_Version)) l, tv (.sl (.st .api_Yield)) ys] pset_sp.rs post := by kernel_rfl
theorem pset_of (h : ∀ (l : List (api_Version)) (ys : List (api_Yield)) (post : List (api_Version) → List (api_Double) → Int → Prop), pset_P l ys post → pset_W l ys post) : SpecOK Tryz.prog pset_sp := SpecOK.of_rules (C := pset_C) (dr := drawR Tryz.prog tau) (n := 10) (fk := 0) (.cons (rule1_ok pthere_ok) (.cons (rule1_ok pval_ok) (.cons (ruleW_ok Nest.copied_mk) (.cons (ruleC_ok pchoN_ok) (.cons (rule1_ok plimit_ok) (.cons (rule1_ok pfaces_ok) (.cons (rule3_ok psortD_ok) .nil))))))) (drawR_ok tau) fun x post hp => HoldW.of (pset_w x.1 x.2.1 post) (h x.1 x.2.1 (fun y0 y1 y2 => post (y0, y1, y2, ())) hp)
theorem IFB.yes {c : Bool} {A B : Prop} (hc : c = true) (h : A) : IFB c A B := IFB.mk (fun _ => h) (fun e => by rw [hc] at e; cases e)
theorem IFB.no {c : Bool} {A B : Prop} (hc : c = false) (h : B) : IFB c A B := IFB.mk (fun e => by rw [hc] at e; cases e) (fun _ => h)
def psetI (g : List api_Version) (ds : List Dbl) (z : Int) (m : List api_Version) : Prop := ∃ k : Nat, z = (k : Int) ∧ k ≤ ds.length ∧ m = setS g (ds.take k)
def psetJ (b : List api_Version) (d : Dbl) (z : Int) (m : List api_Version) : Prop := ∃ j : Nat, z = (j : Int) ∧ j ≤ d.Claims.length ∧ m = ((d.Claims.take j).map fun p => (⟨p, d.Region⟩ : api_Yield)).foldl give1 b
theorem pset_h (l : List api_Version) (ys : List api_Yield) (post : List (api_Version) → List (api_Double) → Int → Prop) (hp : pset_P l ys post) : pset_W l ys post := by
  obtain ⟨hS, hp⟩ := hp
  have h1 := hS.1
  have perr : ∀ e : Int, givS l ys = ([], e) → e ≠ 0 → post [] [] e := fun e h he => hp [] [] e (.inl ⟨by rw [h]; exact he, rfl, rfl, by rw [h]⟩)
  unfold pset_W
  refine JOIN.opq fun (J : List Ln → Int → Prop) hJ => ?_
  refine plines_h l J ⟨h1, fun L e he => ?_⟩
  rw [hJ]
  dsimp only
  refine IFB.mk (fun hb => IFB.yes hb ?_) (fun hb => ?_)
  · have hb : e ≠ 0 := by simpa using hb
    have e1 : beginF l ≠ 0 ∧ e = beginF l := by
      rcases he with ⟨a, _, b⟩ | ⟨_, _, b⟩
      · exact ⟨a, b⟩
      · exact absurd b hb
    exact perr e (by unfold givS; rw [if_pos e1.1, e1.2]) hb
  have hb : e = 0 := by simpa using hb
  have hb : beginF l = 0 := by
    rcases he with ⟨a, _, b⟩ | ⟨a, _, _⟩
    · exact absurd (b.symm.trans hb) a
    · exact a
  clear he hJ
  refine fun _ => IFB.mk (fun hc => IFB.yes rfl ?_) (fun hc => ?_)
  · have hc : (200 : Int) < (ys.length : Int) := of_decide_eq_true hc
    exact perr 1 (by unfold givS; rw [if_neg (by simp [hb]), if_pos (by omega)]) (by decide)
  have hc : ¬ (200 : Int) < (ys.length : Int) := of_decide_eq_false hc
  have hc' : ¬ 200 < ys.length := by omega
  obtain ⟨hlen, hval⟩ := begin_zero hb
  refine fun _ => loopCmp (n := ys.length) (by omega) (p := fun k => thereP l (ix ys (k : Int)).1 ∧ validP (ix ys (k : Int)).2.1) (fun rec k hk hpre hrec => ?_) fun hall => ?_
  · have htk : ys.take (k + 1) = ys.take k ++ [ix ys (k : Int)] := by rw [List.take_succ_eq_append_getElem hk, ix_lt hk]
    have h0 : ∀ j, j ≤ k → errY l (ys.take j) = 0 := fun j => by
      induction j with
      | zero => intro _; rfl
      | succ j ih =>
        intro hj
        have hj2 : j < ys.length := by omega
        have htj : ys.take (j + 1) = ys.take j ++ [ix ys (j : Int)] := by rw [List.take_succ_eq_append_getElem hj2, ix_lt hj2]
        obtain ⟨a, b⟩ := hpre j (by omega)
        rw [htj, errY_snoc (ih (by omega)), errY, if_neg (not_not_intro a), if_neg (not_not_intro b)]; rfl
    have h0 := h0 k (Nat.le_refl _)
    have hl : l.length ≤ 1000 := h1.1
    refine ⟨by omega, by omega, fun v6 hv6 => IFB.mk (fun hn => IFB.yes rfl ?_) (fun hn v7 hv7 => IFB.mk (fun hm => IFB.yes rfl ?_) (fun hm => hrec ?_))⟩
    · have hnt : ¬ thereP l (ix ys (k : Int)).1 := fun h => by have := hv6.2 h; rw [this] at hn; cases hn
      exact perr 15 (givS_err hb hc' (k := k) (e := 15) (by rw [htk, errY_snoc h0, errY, if_pos hnt]) (by decide)) (by decide)
    · have ht : thereP l (ix ys (k : Int)).1 := hv6.1 (by cases v6 <;> simp_all)
      have hnv : ¬ validP (ix ys (k : Int)).2.1 := fun h => by have := hv7.2 h; rw [this] at hm; cases hm
      exact perr 7 (givS_err hb hc' (k := k) (e := 7) (by rw [htk, errY_snoc h0, errY, if_neg (not_not_intro ht), if_pos hnv]) (by decide)) (by decide)
    · exact ⟨hv6.1 (by cases v6 <;> simp_all), hv7.1 (by cases v7 <;> simp_all)⟩
  have hY : ∀ z ∈ ys, thereP l z.1 ∧ validP z.2.1 := fun z hz => by
    obtain ⟨j, hj, rfl⟩ := List.getElem_of_mem hz
    have := hall j hj
    rwa [ix_lt hj] at this
  have hE : ∀ k, k ≤ ys.length → errY l (ys.take k) = 0 := fun k => by
    induction k with
    | zero => intro _; rfl
    | succ k ih =>
      intro hk
      have hk2 : k < ys.length := by omega
      have htk : ys.take (k + 1) = ys.take k ++ [ix ys (k : Int)] := by rw [List.take_succ_eq_append_getElem hk2, ix_lt hk2]
      obtain ⟨a, b⟩ := hall k hk2
      rw [htk, errY_snoc (ih (by omega)), errY, if_neg (not_not_intro a), if_neg (not_not_intro b)]; rfl
  refine ⟨⟨by have := h1.1; omega, fun v hv => ⟨by have := h1.2 v hv; omega, fun x hx => ?_⟩⟩, fun _ => ?_⟩
  · have := (lin_valid.2 hval _ (regN_mem hv hx)).1
    show x.Region.Rects.length ≤ 4000000; omega
  refine LOOP.fuel (fun u => pgvI l ys u.1 u.2.1) (fun u => ys.length - Int.toNat u.1) ⟨0, rfl, Nat.zero_le _, rfl⟩ ?_
  rintro rec ⟨(z0 : Int), (m : List api_Version), ⟨⟩⟩ ⟨k, i1, i2, i3⟩ hrec
  have i1 : z0 = (k : Int) := i1
  have q3 : m = (ys.take k).foldl give1 l := i3
  clear i3
  subst i1
  have hyk : ∀ z ∈ ys.take k, thereP l z.1 := fun z hz => (hY z (List.mem_of_mem_take hz)).1
  have hlike : likeV l m := by rw [q3]; exact (gives_ok hyk).1
  refine IFB.mk (fun hd => ?_) (fun hd => ?_)
  · have hd : (k : Int) < ys.length := of_decide_eq_true hd
    have hk : k < ys.length := by omega
    obtain ⟨ht, hv⟩ := hall k hk
    have hpr : ∀ r ∈ gat m (ix ys (k : Int)).1, proper r := by rw [q3]; exact gave_proper hval hyk ht
    have htm := hlike.there.2 ht
    obtain ⟨m1, m2, m3, m4⟩ := htm
    have htk : ys.take (k + 1) = ys.take k ++ [ix ys (k : Int)] := by rw [List.take_succ_eq_append_getElem hk, ix_lt hk]
    have hlen1 : (gat m (ix ys (k : Int)).1).length ≤ 300 := by rw [q3]; exact (gave_box hb hS hyk ht).2.1
    refine ⟨⟨by omega, hd⟩, ⟨m1, m2⟩, ⟨m3, m4⟩, ⟨⟨hpr, ?_⟩, hv.2.1, ?_⟩, ?_⟩
    · show (gat m (ix ys (k : Int)).1).length ≤ 8000
      omega
    · have := hv.1
      show (ix ys (k : Int)).2.1.length ≤ 8000; omega
    · show rec (IntKind.i64.wrap ((k : Int) + 1)) _
      rw [wrapS (by omega)]
      refine hrec (((k + 1 : Nat) : Int), _, ()) ⟨k + 1, rfl, hk, ?_⟩ (by show ys.length - ((k + 1 : Nat) : Int).toNat < ys.length - (k : Int).toNat; omega)
      rw [htk, foldl_snoc, ← q3]; rfl
  · have hd : ¬ (k : Int) < ys.length := of_decide_eq_false hd
    have hk : k = ys.length := by omega
    rw [hk, List.take_length] at q3
    have i4 : errY l ys = 0 := by have := hE ys.length (Nat.le_refl _); rwa [List.take_length] at this
    have hmany : manyV m := many_like hlike h1
    refine ⟨hmany, ?_⟩
    refine IFB.mk (fun hn => IFB.yes hn ?_) (fun hn => IFB.no rfl ?_)
    · have hn : limitF m ≠ 0 := by simpa using hn
      have h1' : limitF m = 1 := by unfold limitF at hn ⊢; split at hn <;> first | exact absurd rfl hn | (rename_i h; rw [if_neg h])
      rw [h1']
      exact perr 1 (by
        unfold givS
        rw [if_neg (by simp [hb]), if_neg hc', if_neg (by simp [i4]), if_pos (by rw [← q3]; exact hn)]) (by decide)
    have hn : limitF m = 0 := by simpa using hn
    have e : givS l ys = (m, 0) := by
      unfold givS
      rw [if_neg (by simp [hb]), if_neg hc', if_neg (by simp [i4]), if_neg (by rw [← q3]; simp [hn]), ← q3]
    have hSm : okS m := by
      have := (okS_give (ys := ys) hS (by rw [e])).1
      rwa [e] at this
    have hset : ∀ m' ds' e', (∃ d0 e0, dblR m d0 e0 ∧ ((e0 ≠ 0 ∧ m' = [] ∧ ds' = [] ∧ e' = e0) ∨ (e0 = 0 ∧ limitF (setS m d0) ≠ 0 ∧ m' = [] ∧ ds' = [] ∧ e' = 1) ∨ (e0 = 0 ∧ limitF (setS m d0) = 0 ∧ m' = setS m d0 ∧ ds' = d0 ∧ e' = 0))) → post m' ds' e' := fun m' ds' e' h => hp m' ds' e' (.inr (by rw [e]; exact ⟨rfl, h⟩))
    clear hrec perr
    refine JOIN.opq fun (D : List Dbl → Int → Prop) hD => ?_
    refine JOIN.opq fun (K : List Ln → Int → Prop) hK => ?_
    refine plines_h m K ⟨hmany, fun L e0 he0 => ?_⟩
    rw [hK]
    refine (pdbl_h m D ⟨okS_D hSm, fun ds e1 hde => ?_⟩).2 L e0 he0
    rw [hD]
    dsimp only
    refine IFB.mk (fun hn1 => ?_) (fun hn1 _ => ?_)
    · have hn1 : e1 ≠ 0 := by simpa using hn1
      exact hset [] [] e1 ⟨ds, e1, hde, .inl ⟨hn1, rfl, rfl, rfl⟩⟩
    have hn1 : e1 = 0 := by simpa using hn1
    subst hn1
    obtain ⟨hbm, hdd, hd2⟩ := dblR_zero hde
    refine LOOP.fuel (fun u => psetI m ds u.1 u.2.1) (fun u => ds.length - Int.toNat u.1) ⟨0, rfl, Nat.zero_le _, rfl⟩ ?_
    rintro rec ⟨(z : Int), (b : List api_Version), ⟨⟩⟩ ⟨i, i1, i2, i3⟩ hrec
    have i1 : z = (i : Int) := i1
    have q5 : b = setS m (ds.take i) := i3
    clear i3
    subst i1
    refine IFB.mk (fun hf => ?_) (fun hf => ?_)
    · have hf : (i : Int) < ds.length := of_decide_eq_true hf
      have hi : i < ds.length := by omega
      obtain ⟨d, hdx⟩ : ∃ d, ds[i]? = some d := ⟨_, List.getElem?_eq_getElem hi⟩
      have hix : ix ds (i : Int) = d := ix_of hdx
      obtain ⟨d1, d2, d3, d4⟩ := dbl_small hSm hbm hdd (List.mem_of_getElem? hdx)
      have htk : ds.take (i + 1) = ds.take i ++ [d] := by rw [List.take_succ_eq_append_getElem hi, (List.getElem?_eq_some_iff.1 hdx).2]
      dsimp only
      rw [hix]
      refine ⟨⟨by omega, hf⟩, fun _ => ?_⟩
      refine LOOP.fuel (fun u => psetJ b d u.1 u.2.1) (fun u => d.Claims.length - Int.toNat u.1) ⟨0, rfl, Nat.zero_le _, rfl⟩ ?_
      rintro rec2 ⟨(z2 : Int), (c : List api_Version), ⟨⟩⟩ ⟨j, j1, j2, j3⟩ hrec2
      have j1 : z2 = (j : Int) := j1
      have q6 : c = ((d.Claims.take j).map fun p => (⟨p, d.Region⟩ : api_Yield)).foldl give1 b := j3
      clear j3
      subst j1
      refine IFB.mk (fun hg => ?_) (fun hg => ?_)
      · have hg : (j : Int) < d.Claims.length := of_decide_eq_true hg
        have hj : j < d.Claims.length := by omega
        obtain ⟨p, hpx⟩ : ∃ p, ix d.Claims (j : Int) = p := ⟨_, rfl⟩
        have hpm : p ∈ d.Claims := by rw [← hpx, ix_lt hj]; exact List.getElem_mem hj
        obtain ⟨s1, s2⟩ := set_mid hSm hbm hdd hdx j
        rw [← q5, ← q6] at s1 s2
        obtain ⟨s3, s4⟩ := s2 p (d4 p hpm)
        obtain ⟨m1, m2, m3, m4⟩ := s1.there.2 (d4 p hpm)
        have htj : d.Claims.take (j + 1) = d.Claims.take j ++ [p] := by rw [List.take_succ_eq_append_getElem hj, ← ix_lt hj, hpx]
        have hg2 : (0 : Int) ≤ (j : Int) ∧ (j : Int) < (d.Claims.length : Int) := ⟨by omega, hg⟩
        have hd3 : j + 1 ≤ 1000000000 := by omega
        dsimp only
        rw [hpx]
        refine ⟨hg2, ⟨m1, m2⟩, ⟨m3, m4⟩, ⟨⟨box_proper s3, ?_⟩, box_proper d1, ?_⟩, ?_⟩
        · show (gat c p).length ≤ 8000
          omega
        · show d.Region.Rects.length ≤ 8000
          omega
        · show rec2 (IntKind.i64.wrap ((j : Int) + 1)) _
          rw [wrapS (by omega)]
          refine hrec2 (((j + 1 : Nat) : Int), _, ()) ⟨j + 1, rfl, hj, ?_⟩ (by show d.Claims.length - ((j + 1 : Nat) : Int).toNat < d.Claims.length - (j : Int).toNat; omega)
          rw [htj, List.map_append, List.foldl_append, ← q6]; rfl
      · have hg : ¬ (j : Int) < d.Claims.length := of_decide_eq_false hg
        have hj : j = d.Claims.length := by omega
        rw [hj, List.take_length] at q6
        show rec (IntKind.i64.wrap ((i : Int) + 1)) c
        rw [wrapS (by omega)]
        refine hrec (((i + 1 : Nat) : Int), c, ()) ⟨i + 1, rfl, hi, ?_⟩ (by show ds.length - ((i + 1 : Nat) : Int).toNat < ds.length - (i : Int).toNat; omega)
        show c = _
        rw [htk, setS_app, ← q5]; exact q6
    · have hf : ¬ (i : Int) < ds.length := of_decide_eq_false hf
      have hi : i = ds.length := by omega
      rw [hi, List.take_length] at q5
      refine ⟨many_like (by rw [q5]; exact set_like hdd) hmany, ?_⟩
      refine IFB.mk (fun hn2 => ?_) (fun hn2 => ?_)
      · have hn2 : limitF b ≠ 0 := by simpa using hn2
        have h1' : limitF b = 1 := by unfold limitF at hn2 ⊢; split at hn2 <;> first | exact absurd rfl hn2 | (rename_i h; rw [if_neg h])
        rw [h1']
        exact hset [] [] 1 ⟨ds, 0, hde, .inr (.inl ⟨rfl, by rw [← q5]; exact hn2, rfl, rfl, rfl⟩)⟩
      · have hn2 : limitF b = 0 := by simpa using hn2
        exact hset b ds 0 ⟨ds, 0, hde, .inr (.inr ⟨rfl, by rw [← q5]; exact hn2, q5, rfl, rfl⟩)⟩
theorem pset_ok : SpecOK Tryz.prog pset_sp := pset_of pset_h

end RE
end Go.Proofs.YtblcakaohlgagaaGreat
