/-
  slices.Backward of versions: what its iterator gives, after the kit's worked text on the iterators over a slice.
-/
import Derived.RangeFuncNested
import Derived.RangeFuncBound
import Derived.RangeFuncCalls
import Derived.RangeFuncLeaves
import Derived.RangeFuncBox
import Derived.RangeFuncWrites
import Derived.Shelf.Abstract
import Derived.Shelf.RegionOpen
import Derived.WalkKit
import Derived.OwnWalkIn
import Derived.TacticsInMore
import Derived.LoopNIn
import Derived.LoopIn
import Derived.Maps.AppendAt
import Derived.Lib.Hide
import Derived.Test.YtfbfknmnkcddpaaGreatRows
import Derived.Test.YtfbfknmnkcddpaaGreatVPlain
import Derived.RangeFuncFrom
import Derived.Test.YtfbfknmnkcddpaaGreatVApp
import Derived.Test.YtfbfknmnkcddpaaGreatVAmS
namespace Go.Proofs.YtfbfknmnkcddpaaGreat
open Go.RowKit Go.Shelf
set_option linter.unusedVariables false
attribute [local go_sem] Oper.semAt_some
namespace Back
/-- The elements of a row of two cells each, from the last one on. -/
theorem int_eq {a b : Int} (h : a = b) : Value.int .i64 a = .int .i64 b := by rw [h]
def elt (vs : Nat → Value) (i : Nat) : Value := .agg #[vs (i * 2), vs (i * 2 + 1)]
def enc (vs : Nat → Value) (i : Nat) : Array Value := #[.int .i64 (i : Int), elt vs i]
def seq (len k : Nat) : List Nat := (List.range k).map fun j => len - 1 - j
theorem seq_succ (len k : Nat) : seq len (k + 1) = seq len k ++ [len - 1 - k] := by simp [seq, List.range_succ]
theorem seq_length (len k : Nat) : (seq len k).length = k := by simp [seq]
set_option maxRecDepth 100000 in
set_option maxHeartbeats 2000000 in
theorem back1_in (F : Fence) (n : Nat) (h7 : F.fn 137) (hro : F.round = none) (hn : 1 ≤ n) (l Bs n₀ b off len cap : Nat) (vs : Nat → Value) (h1 : ∀ j, j < 2 * len → (vs j).oneCell' = true) (hreach : len ≤ 4398046510976) (hb : b < n₀) (J Jx : List Nat → World → Prop)
    (hY : ∀ pre x W, J pre W → pre.length < len → YieldAt F (n - 1) Tryz.prog l (enc vs x) W fun e W' =>
      (e = .returned (.bool true) ∧ J (pre ++ [x]) W' ∧ Below n₀ W W') ∨ (e = .returned (.bool false) ∧ Jx (pre ++ [x]) W'))
    (W : World) (hBs : W.cell? ⟨Bs, 0, none⟩ = some (.slice (some ⟨b, off, none⟩) len cap)) (hBn : Bs < n₀) (hc : ∀ j, j < 2 * len → W.cell? ⟨b, off + j, none⟩ = some (vs j)) (h0 : J [] W) :
    CallsIn F n Tryz.prog 137 #[.func (.yield l) #[] #[], .pointer (some ⟨Bs, 0, none⟩)] W fun e W' => (∃ v, e = .returned v) ∧
      (J (seq len len) W' ∨ (∃ k, k ≤ len ∧ Jx (seq len k) W')) := by
  refine callsIn_of_wp Tryz.func137 rfl h7 ?_ hro
  simp only [Tryz.ntmps137, List.size_toArray, List.length_cons, List.length_nil, Nat.reduceAdd, Nat.reduceSub, Array.replicate_succ, Array.replicate_zero, List.push_toArray, List.append_toArray, List.nil_append, List.cons_append]
  gi_wp2
  gi_loopw [3] (fun i wr => ∃ k : Nat, k ≤ len ∧ i = .int .i64 ((len : Int) - 1 - k) ∧ J (seq len k) wr ∧ Below n₀ W wr)
    (fun i _ => (intOf i + 1).toNat)
  case atStart => exact ⟨0, Nat.zero_le _, int_eq (by omega), h0, Below.refl _ _⟩
  case round =>
    obtain ⟨k, hk, rfl, hJs, hnx⟩ := hrel
    by_cases hlt : k < len
    · have hge : (0 : Int) ≤ (len : Int) - 1 - k := by omega
      have e0 : (len : Int) - 1 - k = ((len - 1 - k : Nat) : Int) := by omega
      obtain ⟨i, hi⟩ : ∃ i, len - 1 - k = i := ⟨_, rfl⟩
      rw [hi] at e0
      have hil : i < len := by omega
      have hcx : wr.cell? ⟨b, off + i * 2, none⟩ = some (vs (i * 2)) := (hnx.cell (p := ⟨b, off + i * 2, none⟩) hb).trans (hc (i * 2) (by omega))
      have hcy : wr.cell? ⟨b, off + i * 2 + 1, none⟩ = some (vs (i * 2 + 1)) := (hnx.cell (p := ⟨b, off + i * 2 + 1, none⟩) hb).trans (by have := hc (i * 2 + 1) (by omega); rwa [← Nat.add_assoc] at this)
      have hBw := (hnx.cell (p := ⟨Bs, 0, none⟩) hBn).trans hBs
      obtain ⟨fn, tmps, assign, body, hy, hR⟩ := hY _ i wr hJs (by rw [seq_length]; exact hlt)
      have ho1 := h1 (i * 2) (by omega)
      have ho2 := h1 (i * 2 + 1) (by omega)
      rw [e0]
      clear hge e0
      unfold enc elt at hy
      gi_wp2
      refine hR.mono ?_
      rintro e W3 (⟨rfl, hJ3, hk3⟩ | ⟨rfl, hJx3⟩)
      · gi_wp2
        go_roundw
        case rel => exact ⟨k + 1, by omega, int_eq (by omega), by rw [seq_succ, hi]; exact hJ3, hnx.trans hk3⟩
        case measure => simp [intOf]
      · gi_wp2
        refine bodyPost_ret (results_none rfl _ _ _) rfl ?_
        exact ⟨⟨_, rfl⟩, .inr ⟨k + 1, by omega, by rw [seq_succ, hi]; exact hJx3⟩⟩
    · obtain rfl : k = len := by omega
      gi_wp2
      go_end0
      exact ⟨⟨_, rfl⟩, .inl hJs⟩
set_option maxHeartbeats 1000000 in
theorem back1_nil_in (F : Fence) (n : Nat) (h7 : F.fn 137) (hro : F.round = none) (l Bs : Nat) (a : Option Addr) (cap : Nat) (J : List Nat → World → Prop) (W : World) (hBs : W.cell? ⟨Bs, 0, none⟩ = some (.slice a 0 cap)) (h0 : J [] W) :
    CallsIn F n Tryz.prog 137 #[.func (.yield l) #[] #[], .pointer (some ⟨Bs, 0, none⟩)] W fun e W' => (∃ v, e = .returned v) ∧ J [] W' := by
  refine callsIn_of_wp Tryz.func137 rfl h7 ?_ hro
  simp only [Tryz.ntmps137, List.size_toArray, List.length_cons, List.length_nil, Nat.reduceAdd, Nat.reduceSub, Array.replicate_succ, Array.replicate_zero, List.push_toArray, List.append_toArray, List.nil_append, List.cons_append]
  gi_wp2
  gi_loopw [3] (fun i wr => i = .int .i64 (-1) ∧ J [] wr) (fun _ _ => 0)
  case atStart => exact ⟨rfl, h0⟩
  case round =>
    obtain ⟨rfl, hJs⟩ := hrel
    gi_wp2
    go_end0
    exact ⟨⟨_, rfl⟩, hJs⟩
set_option maxHeartbeats 1000000 in
theorem back_in (F : Fence) (n : Nat) (h5 : F.fn 76) (hro : F.round = none) (a : Option Addr) (len cap : Nat) (w : World) :
    CallsIn F n Tryz.prog 76 #[.slice a len cap] w fun e w' => e = .returned (.func (.func 137) #[] #[.pointer (some ⟨w.heap.size, 0, none⟩)]) ∧ w' = w.alloc (.cells #[.slice a len cap] 25) := by
  refine callsIn_of_wp Tryz.func76 rfl h5 ?_ hro
  simp only [Tryz.ntmps76, List.size_toArray, List.length_cons, List.length_nil, Nat.reduceAdd, Nat.reduceSub, Array.replicate_succ, Array.replicate_zero, List.push_toArray, List.append_toArray, List.nil_append, List.cons_append]
  gi_wp2
  go_ret
  exact ⟨rfl, rfl⟩
/-- The cells of a row. -/
def Cells2 (n₀ : Nat) (W : World) (a : Option Addr) (len : Nat) (vs : Nat → Value) : Prop :=
  len = 0 ∨ ∃ b off, a = some ⟨b, off, none⟩ ∧ b < n₀ ∧ ∀ j, j < 2 * len → W.cell? ⟨b, off + j, none⟩ = some (vs j)
theorem Cells2.below {n₀ : Nat} {A B : World} (h : Below n₀ A B) {a : Option Addr} {len : Nat} {vs : Nat → Value} : Cells2 n₀ A a len vs → Cells2 n₀ B a len vs
  | .inl e => .inl e
  | .inr ⟨b, off, e, hb, hc⟩ => .inr ⟨b, off, e, hb, fun j hj => (h.cell (p := ⟨b, off + j, none⟩) hb).trans (hc j hj)⟩
theorem back_stops (F : Fence) (n : Nat) (h7 : F.fn 137) (hro : F.round = none) (hn : 1 ≤ n) (Bs n₀ : Nat) (a : Option Addr) (len cap : Nat) (vs : Nat → Value) (h1 : ∀ j, j < 2 * len → (vs j).oneCell' = true) (hreach : len ≤ 4398046510976) (w : World) (hBs : Bs < w.heap.size) (hn₀ : n₀ ≤ w.heap.size) (hBn : Bs < n₀)
    (hc : w.cell? ⟨Bs, 0, none⟩ = some (.slice a len cap)) (hI : Cells2 n₀ w a len vs) :
    SeqStopsK F n Tryz.prog 137 #[.pointer (some ⟨Bs, 0, none⟩)] (enc vs) (Below n₀) (fun ys => ys = seq len len) (fun pre => ∃ k, k ≤ len ∧ pre = seq len k) len w := fun l J Jx W hW _ _ hY h0 => by
  have hc' := (hW.cell (p := ⟨Bs, 0, none⟩) hBs).trans hc
  rcases hI.below (hW.mono hn₀) with rfl | ⟨b, off, rfl, hb, hcs⟩
  · exact (back1_nil_in F n h7 hro l Bs a cap J W hc' h0).mono fun e W' ⟨he, hj⟩ => ⟨he, .inl ⟨_, rfl, hj⟩⟩
  · refine (back1_in F n h7 hro hn l Bs n₀ b off len cap vs h1 hreach hb J Jx hY W hc' hBn hcs h0).mono ?_
    rintro e W' ⟨he, hj | ⟨k, hk, hj⟩⟩
    · exact ⟨he, .inl ⟨_, rfl, hj⟩⟩
    · exact ⟨he, .inr ⟨_, ⟨k, hk, rfl⟩, hj⟩⟩
end Back
end Go.Proofs.YtfbfknmnkcddpaaGreat
namespace Go.Proofs.YtfbfknmnkcddpaaGreat
open Go.RowKit Go.Shelf
set_option linter.unusedVariables false
set_option maxRecDepth 100000
attribute [local go_sem] Oper.semAt_some
namespace RE
open PL
namespace PL
/-- The last version that had arrived. -/
def inS (l : List api_Version) (d : Int) : Option api_Version := l.reverse.find? fun v => decide (v.Day ≤ d)
def inR (l : List api_Version) (d : Int) (q : api_Version) (b : Bool) : Prop := (∃ v, inS l d = some v ∧ q = v ∧ b = true) ∨ (inS l d = none ∧ q = ⟨0, []⟩ ∧ b = false)
end PL
namespace InF
/-- Data in cells that were there, or that are new. -/
def CopR (S : Cells) (n0 B : Nat) (W : World) (d : D) (u : Value) : Prop := ∃ S' : Cells, (∀ b o, S' b o → ((S b o ∧ b < n0) ∨ B ≤ b) ∧ b < W.heap.size ∧ (W.cell? ⟨b, o, none⟩).isSome = true) ∧ Rd S' W d u
theorem rd_some {S : Cells} {W : World} {d : D} {u : Value} (h : Rd S W d u) : Rd (fun b o => S b o ∧ (W.cell? ⟨b, o, none⟩).isSome = true) W d u := by
  induction h with
  | v x => exact .v x
  | fn f cs us hl h ih => exact .fn f cs us hl ih
  | agg cs us hl h1 h ih => exact .agg cs us hl h1 ih
  | tup cs us hl h ih => exact .tup cs us hl ih
  | sl t l ad cap b off f hc hm ha hx h ih =>
    refine .sl t l ad cap b off f hc hm ha (fun i hi j hj => ?_) ih
    obtain ⟨h1, h2, h3⟩ := hx i hi j hj
    exact ⟨⟨h1, by rw [h2]; rfl⟩, h2, h3⟩
  | p cs b off f hx h ih =>
    refine .p cs b off f (fun j hj => ?_) ih
    obtain ⟨h1, h2, h3⟩ := hx j hj
    exact ⟨⟨h1, by rw [h2]; rfl⟩, h2, h3⟩
theorem CopR.keep {S : Cells} {n0 B : Nat} {W W' : World} {d : D} {u : Value} (h : CopR S n0 B W d u) (hs : W.heap.size ≤ W'.heap.size) (hk : ∀ b, b < W.heap.size → (b < n0 ∨ B ≤ b) → (∃ o, (W.cell? ⟨b, o, none⟩).isSome = true) → W'.heap[b]? = W.heap[b]?) : CopR S n0 B W' d u := by
  obtain ⟨S', h1, h2⟩ := h
  have e : ∀ b o, S' b o → W'.cell? ⟨b, o, none⟩ = W.cell? ⟨b, o, none⟩ := fun b o hb => World.cell?_of_block (hk b (h1 b o hb).2.1 ((h1 b o hb).1.imp_left And.right) ⟨o, (h1 b o hb).2.2⟩)
  exact ⟨S', fun b o hb => ⟨(h1 b o hb).1, Nat.lt_of_lt_of_le (h1 b o hb).2.1 hs, by rw [e b o hb]; exact (h1 b o hb).2.2⟩, h2.mono (fun _ _ h => h) e⟩
theorem CopR.le {S : Cells} {n0 B B' : Nat} {W : World} {d : D} {u : Value} (h : CopR S n0 B W d u) (hb : B' ≤ B) : CopR S n0 B' W d u := by
  obtain ⟨S', h1, h2⟩ := h
  exact ⟨S', fun b o hb' => ⟨(h1 b o hb').1.imp_right (Nat.le_trans hb), (h1 b o hb').2⟩, h2⟩
theorem grownBy_setCell1 (W : World) (b o : Nat) (v : Value) : W.grownBy (W.setCell ⟨b, o, none⟩ v) (some b) :=
  ⟨rfl, rfl, rfl, by simp, fun k _ hk => Below.heap_setCell _ _ _ k (fun e => hk (by rw [e]))⟩
theorem some_cells {W : World} {b : Nat} (h : ∃ o, (W.cell? ⟨b, o, none⟩).isSome = true) {o : Obj} (ho : W.heap[b]? = some o) : o.isCells = true := by
  obtain ⟨k, hk⟩ := h
  cases hc : o.isCells with
  | true => rfl
  | false =>
    exfalso
    cases o <;> simp [World.cell?, ho, Obj.isCells] at hk hc
/-- Two cells of a box. -/
def Box2 (W : World) (B : Nat) (t : TypeId) (a b : Value) : Prop := W.heap[B]? = some (.cells #[a, b] t (0, 0))
theorem Box2.lt {W : World} {B : Nat} {t : TypeId} {a b : Value} (h : Box2 W B t a b) : B < W.heap.size := (Array.getElem?_eq_some_iff.1 h).1
theorem Box2.cell0 {W : World} {B : Nat} {t : TypeId} {a b : Value} (h : Box2 W B t a b) : W.cell? ⟨B, 0, none⟩ = some a := by simp [World.cell?, show W.heap[B]? = _ from h]
theorem Box2.cell1 {W : World} {B : Nat} {t : TypeId} {a b : Value} (h : Box2 W B t a b) : W.cell? ⟨B, 1, none⟩ = some b := by simp [World.cell?, show W.heap[B]? = _ from h]
theorem Box2.frozen {W : World} {B o : Nat} {t : TypeId} {a b : Value} (h : Box2 W B t a b) : W.frozen? ⟨B, o, none⟩ = false := by simp [World.frozen?, show W.heap[B]? = _ from h]
theorem Box2.kept {W W' : World} {row : Option Nat} {B : Nat} {t : TypeId} {a b : Value} (h : Box2 W B t a b) (hg : W.grownBy W' row) (hne : some B ≠ row) : Box2 W' B t a b := (hg.block B h.lt hne).trans h
theorem Box2.new (W : World) (t : TypeId) (a b : Value) : Box2 (W.alloc (.cells #[a, b] t)) W.heap.size t a b := World.alloc_heap_new W _
theorem Box2.keep {W W' : World} {B : Nat} {t : TypeId} {a b : Value} (h : Box2 W B t a b) (hk : W'.heap[B]? = W.heap[B]?) : Box2 W' B t a b := hk.trans h
theorem Box2.set0 {W : World} {B : Nat} {t : TypeId} {a b : Value} (x : Value) (h : Box2 W B t a b) : Box2 (W.setCell ⟨B, 0, none⟩ x) B t x b := by
  obtain ⟨hlt, hk⟩ := Array.getElem?_eq_some_iff.1 h
  show (W.heap.modify B _)[B]? = _
  rw [Array.getElem?_eq_getElem (by rw [Array.size_modify]; exact hlt), Array.getElem_modify_self, hk]
  rfl
theorem Box2.set1 {W : World} {B : Nat} {t : TypeId} {a b : Value} (x : Value) (h : Box2 W B t a b) : Box2 (W.setCell ⟨B, 1, none⟩ x) B t a x := by
  obtain ⟨hlt, hk⟩ := Array.getElem?_eq_some_iff.1 h
  show (W.heap.modify B _)[B]? = _
  rw [Array.getElem?_eq_getElem (by rw [Array.size_modify]; exact hlt), Array.getElem_modify_self, hk]
  rfl
theorem inS_some {l : List api_Version} {d : Int} {k : Nat} (hk : k < l.length) (h1 : ∀ j, j < k → ¬ (ix l ((l.length - 1 - j : Nat) : Int)).Day ≤ d) (h2 : (ix l ((l.length - 1 - k : Nat) : Int)).Day ≤ d) : inS l d = some (ix l ((l.length - 1 - k : Nat) : Int)) := by
  unfold inS
  rw [List.find?_eq_some_iff_getElem]
  refine ⟨by simpa using h2, k, by simpa using hk, ?_, fun j hj => ?_⟩
  · rw [List.getElem_reverse, ix_lt (by omega)]
  · rw [List.getElem_reverse]
    have := h1 j hj
    rw [ix_lt (by omega)] at this
    simpa using this
theorem inS_none {l : List api_Version} {d : Int} (h1 : ∀ j, j < l.length → ¬ (ix l ((l.length - 1 - j : Nat) : Int)).Day ≤ d) : inS l d = none := by
  unfold inS
  rw [List.find?_eq_none]
  intro v hv
  obtain ⟨j, hj, rfl⟩ := List.getElem_of_mem hv
  rw [List.getElem_reverse]
  have hj : j < l.length := by simpa using hj
  have := h1 j hj
  rw [ix_lt (by omega)] at this
  simpa using this
theorem Boxed.keep0 {n₀ : Nat} {W W' : World} {B : Nat} {t : TypeId} {v : Value} (h : Boxed W B t v) (hb : Below n₀ W W') (hk : B < n₀) : Boxed W' B t v := (hb.block B hk).trans h
theorem seq_mem {len k j : Nat} (h : j < k) : len - 1 - j ∈ Back.seq len k := by
  unfold Back.seq
  exact List.mem_map.2 ⟨j, List.mem_range.2 h, rfl⟩
theorem seq_snoc {len k i : Nat} {pre : List Nat} (h : pre ++ [i] = Back.seq len k) : ∃ m, k = m + 1 ∧ pre = Back.seq len m ∧ i = len - 1 - m := by
  match k, h with
  | 0, h => simp [Back.seq] at h
  | m + 1, h =>
    rw [Back.seq_succ] at h
    obtain ⟨e1, e2⟩ := List.append_inj' h rfl
    injection e2 with e2
    exact ⟨m, rfl, e1, e2⟩
def IxP (S : Cells) (n0 B : Nat) (l : List api_Version) (d : Int) (c : Code) (pre : List Nat) (W : World) : Prop :=
  c = .ret ∧ ∃ i pre0, pre = pre0 ++ [i] ∧ (∀ j ∈ pre0, ¬ (ix l ((j : Nat) : Int)).Day ≤ d) ∧ (ix l ((i : Nat) : Int)).Day ≤ d ∧ ∃ a2 n2 c2, Box2 W (n0 + 1 + 1) 31 (.int .i64 (ix l ((i : Nat) : Int)).Day) (.slice a2 n2 c2) ∧ Boxed W (n0 + 1 + 1 + 1) 4 (.bool true) ∧ CopR S n0 B W (.sl (.st .api_Line) (ix l ((i : Nat) : Int)).Lines) (.slice a2 n2 c2)
theorem grown_ne {W W' : World} {row : Option Nat} (hr : ∀ r, row = some r → ∃ o : Obj, W.heap[r]? = some o ∧ o.isCells = false) {b : Nat} {o : Obj} (ho : W.heap[b]? = some o) (hc : o.isCells = true) : some b ≠ row := fun e => by
  obtain ⟨o', h1, h2⟩ := hr b e.symm
  rw [ho] at h1; injection h1 with h1; subst h1; rw [hc] at h2; cases h2
theorem ixP_own (S : Cells) (n0 B : Nat) (l : List api_Version) (d : Int) (c : Code) : Own (IxP S n0 B l d c) := fun s W W' row h hg hr => by
  obtain ⟨h1, i, pre0, h2, h3, h4, a2, n2, c2, h5, h6, h7⟩ := h
  refine ⟨h1, i, pre0, h2, h3, h4, a2, n2, c2, h5.kept hg (grown_ne (W' := W') hr h5 rfl), h6.kept hg (grown_ne (W' := W') hr h6 rfl), h7.keep hg.size fun b hb _ ho => hg.block b hb fun e => ?_⟩
  obtain ⟨o, k1, k2⟩ := hr b e.symm
  rw [some_cells ho k1] at k2; cases k2
set_option maxHeartbeats 4000000 in
theorem inf_any (S : Cells) (l : List api_Version) (f y d : Int) (ad : Option Addr) (cap : Nat) (w : World) (vs : Nat → Value) (h1 : ∀ j, (vs j).oneCell' = true) (hday : ∀ i : Nat, vs (i * 2) = .int .i64 (ix l (i : Int)).Day) (hsl : ∀ i : Nat, ∃ a n c, vs (i * 2 + 1) = .slice a n c) (hreach : l.length ≤ 4398046510976)
    (hcells : Back.Cells2 w.heap.size w ad l.length vs)
    (hcop : ∀ (i : Nat) (W : World), Below w.heap.size w W → Calls Tryz.prog 77 #[Back.elt vs i] W fun e W' => ∃ a2 n2 c2, e = .returned (.agg #[.int .i64 (ix l (i : Int)).Day, .slice a2 n2 c2]) ∧ CopR S w.heap.size W.heap.size W' (.sl (.st .api_Line) (ix l (i : Int)).Lines) (.slice a2 n2 c2) ∧ Below W.heap.size W W') :
    Calls Tryz.prog 15 #[.agg #[.int .i64 f, .int .i64 y, .slice ad l.length cap], .int .i64 d] w fun e w' => ∃ (q : api_Version) (u : Value) (b : Bool), e = .returned (.tuple #[.agg #[.int .i64 q.Day, u], .bool b]) ∧ inR l d q b ∧ CopR S w.heap.size w.heap.size w' (.sl (.st .api_Line) q.Lines) u ∧ Below w.heap.size w w' := by
  obtain ⟨len, hlen⟩ : ∃ len, l.length = len := ⟨_, rfl⟩
  rw [hlen] at hreach hcells ⊢
  have hlen' := Lib.hid hlen
  clear hlen
  refine (callsIn_wide (n := 6)).1 ?_
  refine callsIn_of_wp_marks Tryz.func15 rfl trivial ?_ rfl
  simp only [Tryz.ntmps15, List.size_toArray, List.length_cons, List.length_nil, Nat.reduceAdd, Nat.reduceSub, Array.replicate_succ, Array.replicate_zero, List.push_toArray, List.append_toArray, List.nil_append, List.cons_append]
  gi_wp2_with fail
  refine ⟨trivial, (Back.back_in Fence.wide 5 trivial rfl _ _ _ _).mono ?_⟩
  rintro e w' ⟨rfl, rfl⟩
  gi_wp2
  have hB0 : Below w.heap.size w (((((w.alloc (.cells #[.int .i64 f, .int .i64 y, .slice ad len cap] 27)).alloc (.cells #[.int .i64 d] 3)).alloc (.cells #[.int .i64 0, .slice none 0 0] 31)).alloc (.cells #[.bool false] 4)).alloc (.cells #[.slice ad len cap] 25)) :=
    (((((Below.refl _ w).alloc (Nat.le_refl _) _).alloc (by simp) _).alloc (by simp; omega) _).alloc (by simp; omega) _).alloc (by simp; omega) _
  have bD := (((Boxed.new (w.alloc (.cells #[.int .i64 f, .int .i64 y, .slice ad len cap] 27)) 3 (.int .i64 d)).alloc (.cells #[.int .i64 0, .slice none 0 0] 31)).alloc (.cells #[.bool false] 4)).alloc (.cells #[.slice ad len cap] 25)
  have bV := ((Box2.new ((w.alloc (.cells #[.int .i64 f, .int .i64 y, .slice ad len cap] 27)).alloc (.cells #[.int .i64 d] 3)) 31 (.int .i64 0) (.slice none 0 0)).kept (World.grownBy_alloc _ (.cells #[.bool false] 4) none) (by simp)).kept (World.grownBy_alloc _ (.cells #[.slice ad len cap] 25) none) (by simp)
  have bR := (Boxed.new (((w.alloc (.cells #[.int .i64 f, .int .i64 y, .slice ad len cap] 27)).alloc (.cells #[.int .i64 d] 3)).alloc (.cells #[.int .i64 0, .slice none 0 0] 31)) 4 (.bool false)).alloc (.cells #[.slice ad len cap] 25)
  have bS := Boxed.new ((((w.alloc (.cells #[.int .i64 f, .int .i64 y, .slice ad len cap] 27)).alloc (.cells #[.int .i64 d] 3)).alloc (.cells #[.int .i64 0, .slice none 0 0] 31)).alloc (.cells #[.bool false] 4)) 25 (.slice ad len cap)
  have hsz : (((((w.alloc (.cells #[.int .i64 f, .int .i64 y, .slice ad len cap] 27)).alloc (.cells #[.int .i64 d] 3)).alloc (.cells #[.int .i64 0, .slice none 0 0] 31)).alloc (.cells #[.bool false] 4)).alloc (.cells #[.slice ad len cap] 25)).heap.size = w.heap.size + 5 := by simp
  simp only [World.size_alloc] at bD bV bR bS
  obtain ⟨W0, hW0⟩ : ∃ W0, (((((w.alloc (.cells #[.int .i64 f, .int .i64 y, .slice ad len cap] 27)).alloc (.cells #[.int .i64 d] 3)).alloc (.cells #[.int .i64 0, .slice none 0 0] 31)).alloc (.cells #[.bool false] 4)).alloc (.cells #[.slice ad len cap] 25)) = W0 := ⟨_, rfl⟩
  rw [hW0] at hB0 bD bV bR bS hsz ⊢
  clear hW0
  refine wpIn_rangeFunc_ownH rfl (by omega) (gf := 137) (lb := #[.pointer (some ⟨w.heap.size + 1 + 1 + 1 + 1, 0, none⟩)]) rfl trivial (enters_of Tryz.func137 (by kernel_rfl) rfl)
    (Back.back_stops Fence.wide 5 trivial rfl (by omega) (w.heap.size + 1 + 1 + 1 + 1) (w.heap.size + 5) ad len cap vs (fun j _ => h1 j) hreach W0 (by omega) (by omega) (by omega) bS.cell (by
      rcases hcells with h | ⟨b, off, h2, h3, h4⟩
      · exact .inl h
      · exact .inr ⟨b, off, h2, by omega, fun j hj => (hB0.cell (p := ⟨b, off + j, none⟩) h3).trans (h4 j hj)⟩)) belowK_t (belowK_b (by omega)) (Below.refl _ _) (fun _ => rfl)
    (fun pre W => (∀ i ∈ pre, ¬ (ix l ((i : Nat) : Int)).Day ≤ d) ∧ Below (w.heap.size + 5) W0 W)
    (fun c pre W => IxP S w.heap.size (w.heap.size + 5) l d c pre W ∧ Below w.heap.size w W)
    (OwnFrom.and (ownFrom_pure _ _) (ownFrom_below (by omega) (by omega)))
    (fun c => OwnFrom.and (Own.from (ixP_own _ _ _ _ _ c) _) (ownFrom_below (Nat.le_refl _) (by omega)))
    ⟨by simp, Below.refl _ _⟩
    (fun x a' W => ∃ Bx, w.heap.size + 5 ≤ Bx ∧ Box2 W Bx 31 (vs (x * 2)) (vs (x * 2 + 1)) ∧ a' = { tmps := #[.agg #[.int .i64 f, .int .i64 y, .slice ad len cap], .int .i64 d, .pointer (some ⟨w.heap.size, 0, none⟩), .pointer (some ⟨w.heap.size + 1, 0, none⟩), .pointer (some ⟨w.heap.size + 1 + 1, 0, none⟩), .pointer (some ⟨w.heap.size + 1 + 1 + 1, 0, none⟩), undef, .pointer (some ⟨Bx, 0, none⟩), .pointer (some ⟨w.heap.size, 2, none⟩), .slice ad len cap, .func (.func 137) #[] #[.pointer (some ⟨w.heap.size + 1 + 1 + 1 + 1, 0, none⟩)], .int .i64 (x : Int), .agg #[vs (x * 2), vs (x * 2 + 1)], undef, undef, undef, undef, undef, undef, undef], defers := [] })
    (fun x a' _ X Y row hs hg hr => by obtain ⟨Bx, q1, q2, q3⟩ := hs; exact ⟨Bx, q1, q2.kept hg (grown_ne (W' := Y) (fun r e => (hr r e).2) q2 rfl), q3⟩)
    ?assign ?body ?done ?stop
  case assign =>
    rintro lp pre x W K ⟨hp, hB⟩ hK
    obtain ⟨a3, n3, c3, hs3⟩ := hsl x
    have hd3 := hday x
    have hWs := hB.size
    clear hday hsl h1 hcop hcells bD bV bR bS hB0
    unfold Back.enc Back.elt
    gi_wp2
    exact hK _ _ ((KeepsOthers.alloc _ _).from _) ((Below.refl _ W).alloc (by omega) _) ⟨hp, hB.alloc (by omega) _⟩ ⟨W.heap.size, by omega, by rw [hd3, hs3]; exact Box2.new W _ _ _, by rw [hd3, hs3]⟩
  case body =>
    rintro lp pre x a' W hl ⟨r, hr⟩ ⟨hp, hB⟩ ⟨Bx, hBx, bX, rfl⟩ hlt
    obtain ⟨a3, n3, c3, hs3⟩ := hsl x
    have hd3 := hday x
    have hwW : Below w.heap.size w W := hB0.trans (hB.mono (by omega))
    have hc3 := hcop x W hwW
    unfold Back.elt at hc3
    rw [hd3, hs3] at bX hc3
    have hWs := hB.size
    have bDW := Boxed.keep0 bD hB (by omega)
    have bVW := bV.keep (hB.block _ (by omega))
    have bRW := Boxed.keep0 bR hB (by omega)
    have c0 := bX.cell0
    have c1 := bX.cell1
    have cD := bDW.cell
    clear hday hsl h1 hcop hcells bS hB0 bD bV bR
    have hp' := Lib.hid hp
    clear hp
    obtain ⟨dx, hdx⟩ : ∃ dx, (ix l (x : Int)).Day = dx := ⟨_, rfl⟩
    have hdx' := Lib.hid hdx
    rw [hdx] at hc3 c0 bX
    clear hdx hd3 hs3
    have hc3' := Lib.hid hc3
    clear hc3
    gi_wp2
    · refine ⟨trivial, (CallsIn.inRound lp ((callsIn_wide (n := 3)).2 hc3'.out)).mono ?_⟩
      rintro e W2 ⟨a2, n2, c2, rfl, hcr, hb2⟩
      have v2 := bVW.keep (hb2.block _ (by omega))
      have r2 := Boxed.keep0 bRW hb2 (by omega)
      have v20 := v2.cell0
      have v21 := v2.cell1
      have v2f := fun o => v2.frozen (o := o)
      have r20 := r2.cell
      have r2f := r2.frozen
      clear c0 c1 cD
      gi_wp2
      have hblk : ∀ k, k ≠ w.heap.size + 1 + 1 → k ≠ w.heap.size + 1 + 1 + 1 → (((W2.setCell ⟨w.heap.size + 1 + 1, 0, none⟩ (.int .i64 dx)).setCell ⟨w.heap.size + 1 + 1, 1, none⟩ (.slice a2 n2 c2)).setCell ⟨w.heap.size + 1 + 1 + 1, 0, none⟩ (.bool true)).heap[k]? = W2.heap[k]? := fun k h1 h2 => by
        rw [Below.heap_setCell _ _ _ k (by simpa using h2), Below.heap_setCell _ _ _ k (by simpa using h1), Below.heap_setCell _ _ _ k (by simpa using h1)]
      have hsE : (((W2.setCell ⟨w.heap.size + 1 + 1, 0, none⟩ (.int .i64 dx)).setCell ⟨w.heap.size + 1 + 1, 1, none⟩ (.slice a2 n2 c2)).setCell ⟨w.heap.size + 1 + 1 + 1, 0, none⟩ (.bool true)).heap.size = W2.heap.size := by simp
      refine ⟨⟨by rw [hsE]; exact hb2.size, fun k o hk ho _ => ?_⟩, ⟨rfl, x, pre, rfl, fun j hj => by have := hp'.out j hj; omega, by rw [hdx'.out]; omega, a2, n2, c2, ?_, ?_, ?_⟩, ?_⟩
      · have hkl := (Array.getElem?_eq_some_iff.1 ho).1
        rw [hblk k (by omega) (by omega), hb2.block k hkl, ho]
      · rw [hdx'.out]
        exact ((v2.set0 (.int .i64 dx)).set1 (.slice a2 n2 c2)).keep (Below.heap_setCell _ _ _ _ (by simp))
      · refine Boxed.set (v := .bool false) _ ?_
        exact Boxed.kept (Boxed.kept r2 (grownBy_setCell' _ _ _) (by simp)) (grownBy_setCell1 _ _ _ _) (by simp)
      · refine (hcr.le (by omega)).keep (by rw [hsE]; exact Nat.le_refl _) fun b _ hb _ => hblk b (by omega) (by omega)
      · exact hwW.trans ((hb2.mono (by omega)).trans ((((Below.refl _ W2).setCell (p := ⟨w.heap.size + 1 + 1, 0, none⟩) (by simp; omega) _).setCell (p := ⟨w.heap.size + 1 + 1, 1, none⟩) (by simp; omega) _).setCell (p := ⟨w.heap.size + 1 + 1 + 1, 0, none⟩) (by simp; omega) _))
    · refine ⟨KeepsFrom.refl _ _, Below.refl _ _, fun i hi => ?_, hB⟩
      rcases List.mem_append.1 hi with hi | hi
      · have := hp'.out i hi; omega
      · rw [List.mem_singleton] at hi; subst hi; rw [hdx'.out]; omega
  case done =>
    rintro D xs W hD rfl ⟨hp, hB⟩ hK
    have hWs := hB.size
    have v2 := bV.keep (hB.block _ (by omega))
    have r2 := Boxed.keep0 bR hB (by omega)
    have v20 := v2.cell0
    have v21 := v2.cell1
    have v2f := fun o => v2.frozen (o := o)
    have r20 := r2.cell
    have r2f := r2.frozen
    have hp' := Lib.hid hp
    clear hday hsl h1 hcop hcells bS bD bV bR hp
    gi_wp2
    have hsE : (((W.setCell ⟨w.heap.size + 1 + 1, 0, none⟩ (.int .i64 0)).setCell ⟨w.heap.size + 1 + 1, 1, none⟩ (.slice none 0 0)).setCell ⟨w.heap.size + 1 + 1 + 1, 0, none⟩ (.bool false)).heap.size = W.heap.size := by simp
    have hBE : Below w.heap.size w (((W.setCell ⟨w.heap.size + 1 + 1, 0, none⟩ (.int .i64 0)).setCell ⟨w.heap.size + 1 + 1, 1, none⟩ (.slice none 0 0)).setCell ⟨w.heap.size + 1 + 1 + 1, 0, none⟩ (.bool false)) :=
      hB0.trans ((hB.mono (by omega)).trans ((((Below.refl _ W).setCell (p := ⟨w.heap.size + 1 + 1, 0, none⟩) (by simp; omega) _).setCell (p := ⟨w.heap.size + 1 + 1, 1, none⟩) (by simp; omega) _).setCell (p := ⟨w.heap.size + 1 + 1 + 1, 0, none⟩) (by simp; omega) _))
    have vE : Box2 (((W.setCell ⟨w.heap.size + 1 + 1, 0, none⟩ (.int .i64 0)).setCell ⟨w.heap.size + 1 + 1, 1, none⟩ (.slice none 0 0)).setCell ⟨w.heap.size + 1 + 1 + 1, 0, none⟩ (.bool false)) (w.heap.size + 1 + 1) 31 (.int .i64 0) (.slice none 0 0) := ((v2.set0 (.int .i64 0)).set1 (.slice none 0 0)).keep (Below.heap_setCell _ _ _ _ (by simp))
    have rE : Boxed (((W.setCell ⟨w.heap.size + 1 + 1, 0, none⟩ (.int .i64 0)).setCell ⟨w.heap.size + 1 + 1, 1, none⟩ (.slice none 0 0)).setCell ⟨w.heap.size + 1 + 1 + 1, 0, none⟩ (.bool false)) (w.heap.size + 1 + 1 + 1) 4 (.bool false) := Boxed.set (v := .bool false) _ (Boxed.kept (Boxed.kept r2 (grownBy_setCell' _ _ _) (by simp)) (grownBy_setCell1 _ _ _ _) (by simp))
    have hKE : (((W.setCell ⟨w.heap.size + 1 + 1, 0, none⟩ (.int .i64 0)).setCell ⟨w.heap.size + 1 + 1, 1, none⟩ (.slice none 0 0)).setCell ⟨w.heap.size + 1 + 1 + 1, 0, none⟩ (.bool false)).heap[D]? = some (.deferred (some [])) := by
      rw [Below.heap_setCell _ _ _ D (by simp; omega), Below.heap_setCell _ _ _ D (by simp; omega), Below.heap_setCell _ _ _ D (by simp; omega)]; exact hK
    generalize (((W.setCell ⟨w.heap.size + 1 + 1, 0, none⟩ (.int .i64 0)).setCell ⟨w.heap.size + 1 + 1, 1, none⟩ (.slice none 0 0)).setCell ⟨w.heap.size + 1 + 1 + 1, 0, none⟩ (.bool false)) = WE at hsE hBE vE rE hKE ⊢
    refine ⟨by simp, .inl ⟨_, _, rfl, run_takeDeferred hKE, ?_⟩⟩
    have v0 := (vE.kept (grownBy_putObj' WE D (.deferred none)) (by simp; omega))
    have r0 := (rE.kept (grownBy_putObj' WE D (.deferred none)) (by simp; omega))
    have v00 := v0.cell0
    have v01 := v0.cell1
    have r00 := r0.cell
    refine ⟨.tuple #[.agg #[.int .i64 0, .slice none 0 0], .bool false], ?_, ⟨0, []⟩, .slice none 0 0, .inl ⟨rfl, .inr ⟨?_, rfl, rfl⟩, ⟨fun _ _ => False, fun _ _ h => h.elim, Rd.nil _ _ _ (Nat.zero_le _)⟩, hBE.trans (belowK_b (w := w) (Nat.le_refl _) _ D _ _ (by omega) hKE rfl rfl)⟩⟩
    · simp [results, Tryz.f15, go_sem, v00, v01, r00]
    · refine inS_none fun j hj => ?_
      rw [hlen'.out] at hj ⊢
      have := hp'.out _ (seq_mem hj)
      omega
  case stop =>
    rintro D c pre W hD ⟨k, hk, hpre⟩ ⟨⟨rfl, i, pre0, hpre2, hp0, hdi, a2, n2, c2, v2, r2, hcr⟩, hB⟩ hK
    have v20 := v2.cell0
    have v21 := v2.cell1
    have r20 := r2.cell
    have hp0' := Lib.hid hp0
    clear hday hsl h1 hcop hcells bS hB0 bD bV bR hp0
    gi_wp2
    refine ⟨by simp, .inl ⟨_, _, rfl, run_takeDeferred hK, ?_⟩⟩
    have v0 := (v2.kept (grownBy_putObj' W D (.deferred none)) (by simp; omega))
    have r0 := (r2.kept (grownBy_putObj' W D (.deferred none)) (by simp; omega))
    have v00 := v0.cell0
    have v01 := v0.cell1
    have r00 := r0.cell
    rw [hpre2] at hpre
    obtain ⟨m, e1, e2, e3⟩ := seq_snoc hpre
    have hin : inS l d = some (ix l (i : Int)) := by
      rw [e3, ← hlen'.out]
      refine inS_some (k := m) (by rw [hlen'.out]; omega) (fun j hj => ?_) (by rw [hlen'.out, ← e3]; exact hdi)
      have := hp0'.out (len - 1 - j) (by rw [e2]; exact seq_mem hj)
      rw [hlen'.out]; omega
    refine ⟨.tuple #[.agg #[.int .i64 (ix l (i : Int)).Day, .slice a2 n2 c2], .bool true], ?_, ix l (i : Int), .slice a2 n2 c2, .inr ⟨rfl, .inl ⟨_, hin, rfl, rfl⟩, ?_, hB.trans (belowK_b (w := w) (Nat.le_refl _) _ D _ _ (by omega) hK rfl rfl)⟩⟩
    · simp [results, Tryz.f15, go_sem, v00, v01, r00]
    · refine (hcr.le (by omega)).keep (by simp [World.putObj]) fun b hb _ ho => ?_
      refine World.putObj_heap_other fun e => ?_
      subst e
      have := some_cells ho hK
      cases this
end InF
end RE
end Go.Proofs.YtfbfknmnkcddpaaGreat
namespace Go.Proofs.YtfbfknmnkcddpaaGreat
open Go.RowKit Go.Shelf
set_option linter.unusedVariables false
set_option maxRecDepth 100000
namespace RE
open PL InF
namespace PL
def bigC (a : api_Version) : Prop := a.2.length ≤ 2000000 ∧ ∀ x ∈ a.2, x.2.1.length ≤ 2000000
end PL
/-- A contract of a function that looks at its arguments and hands back a version and a bool. -/
theorem SpecOK.vb {P : Program} {f : FuncId} {ts : List Ty} {pt : dens ts → (api_Version → Bool → Prop) → Prop}
    (h : ∀ x post, pt x post → ∀ w (S : Cells) (us : List Value), (∀ b o, S b o → b < w.heap.size) → us.length = ts.length → (∀ (i : Nat) (d : D) (u : Value), (tvs ts x)[i]? = some d → us[i]? = some u → Rd S w d u) →
      Calls P f us.toArray w fun e w' => ∃ (q : api_Version) (u : Value) (b : Bool), e = .returned (.tuple #[.agg #[.int .i64 q.Day, u], .bool b]) ∧ post q b ∧ CopR S w.heap.size w.heap.size w' (.sl (.st .api_Line) q.Lines) u ∧ Below w.heap.size w w') :
    SpecOK P ⟨f, false, true, ts, .tup [.dat (.st .api_Version), .dat (.bool)], fun x post => pt x fun a b => post (a, b, ())⟩ := by
  intro x post hp w S T us hS hT hl hr
  have hT : T = none := hT
  subst hT
  refine (h x _ hp w S us hS hl hr).mono ?_
  rintro e w' ⟨q, u, b, rfl, hq, ⟨S', k1, k2⟩, hb⟩
  refine ⟨_, (q, b, ()), cx0 (fun b o => S b o ∨ S' b o) none, rfl, hq, ?_, ?_, ?_⟩
  · exact ⟨fun b o h => h.elim (fun h => Nat.lt_of_lt_of_le (hS b o h) hb.size) (fun h => (k1 b o h).2.1), fun id x hx => (by cases hx), fun id x hx => (by cases hx), fun i j x y hx => (by cases hx), fun T hT' => (by cases hT'), fun h => (by cases h), fun _ => rfl⟩
  · exact ⟨hb.os, hb.tape, hb.output, hb.size, fun _ h => h, fun _ h => .inl h, fun _ h => h, fun _ _ => ⟨rfl, rfl⟩, fun _ _ h => .inl h, fun b o h => h.elim .inl (fun h => (k1 b o h).1.elim (fun h => .inl h.1) (fun h => .inr (.inr h))), fun k hk _ _ => hb.block k hk, fun _ h => .inl h⟩
  · refine .tup [.d (tv (.st .api_Version) q), .d (.v (.bool b))] [.agg #[.int .i64 q.Day, u], .bool b] rfl fun i s v hs hv => ?_
    match i, hs, hv with
    | 0, hs, hv =>
      cases hs; cases hv
      refine .d _ _ ?_
      refine Rd.agg _ [.int .i64 q.Day, u] rfl (fun v hv => ?_) fun i c v hc hv => ?_
      · rcases List.mem_cons.1 hv with rfl | hv
        · rfl
        · rw [List.mem_singleton] at hv; subst hv
          cases k2; rfl
      · match i, hc, hv with
        | 0, hc, hv => cases hc; cases hv; exact .v _
        | 1, hc, hv => cases hc; cases hv; exact k2.mono (fun _ _ h => .inr h) fun _ _ _ => rfl
        | i + 2, hc, hv => cases hc
    | 1, hs, hv => cases hs; cases hv; exact v_srel _
    | i + 2, hs, hv => cases hs
theorem sl_inv {S : Cells} {w : World} {t : Ty} {l : List (den t)} {u : Value} (h : Rd S w (.sl t l) u) : ∃ (ad : Option Addr) (cap b off : Nat) (f : Nat → Nat → Value), u = .slice ad l.length cap ∧ (l = [] ∨ ad = some ⟨b, off, none⟩) ∧
    (∀ (i : Nat), i < l.length → ∀ j, j < size t → S b (off + i * size t + j) ∧ w.cell? ⟨b, off + i * size t + j, none⟩ = some (f i j) ∧ (f i j).oneCell' = true) ∧
    ∀ (i : Nat) (x : den t) (j : Nat) (c : D), l[i]? = some x → (enc t x)[j]? = some c → Rd S w c (f i j) := by
  cases h with
  | sl _ _ ad cap b off f hc hm ha hx h => exact ⟨ad, cap, b, off, f, rfl, ha, hx, h⟩
/-- application.copied, at machine level. -/
theorem copied_any (a : api_Version) (ha : bigC a) (u : Value) (W : World) (S : Cells) (hS : ∀ b o, S b o → b < W.heap.size) (n0 : Nat) (hn : ∀ b o, S b o → b < n0) (hu : Rd S W (tv (.st .api_Version) a) u) :
    Calls Tryz.prog 77 #[u] W fun e W' => ∃ a2 n2 c2, e = .returned (.agg #[.int .i64 a.Day, .slice a2 n2 c2]) ∧ CopR S n0 W.heap.size W' (.sl (.st .api_Line) a.Lines) (.slice a2 n2 c2) ∧ Below W.heap.size W W' := by
  refine (pcopied_ok (a, ()) (fun y => y = (a, ())) ⟨ha, rfl⟩ W S none [u] hS rfl rfl fun i d v hd hv => ?_).mono ?_
  · match i, hd, hv with
    | 0, hd, hv => cases hd; cases hv; exact hu
    | i + 1, hd, hv => cases hd
  · rintro e W' ⟨v, y, c', rfl, rfl, hox, htr, hsr⟩
    have hrd := srel_d (x := tv (.st .api_Version) a) hsr
    cases hrd with
    | agg _ us hl2 ho hh =>
      match us, hl2 with
      | [x, z], _ =>
        have h0 := hh 0 _ _ rfl rfl
        have h1 := hh 1 _ _ rfl rfl
        have h0 : Rd c'.S W' (.v (.int .i64 a.Day)) x := h0
        have h1 : Rd c'.S W' (.sl (.st .api_Line) a.Lines) z := h1
        rw [rd_v h0]
        have hz : ∃ a2 n2 c2, z = .slice a2 n2 c2 := by cases h1; exact ⟨_, _, _, rfl⟩
        obtain ⟨a2, n2, c2, rfl⟩ := hz
        refine ⟨a2, n2, c2, rfl, ⟨_, fun b o hb => ⟨?_, hox.sb b o hb.1, hb.2⟩, rd_some h1⟩, ⟨htr.os, htr.tape, htr.output, htr.sz, fun k hk => htr.blk k hk (fun ⟨_, _, hx, _⟩ => (by cases hx)) (fun h => by cases h)⟩⟩
        rcases htr.sN b o hb.1 with h | ⟨_, _, hx, _⟩ | h
        · exact .inl ⟨h, hn b o h⟩
        · cases hx
        · exact .inr h
def pinf_P (a : api_Application) (d : Int) (post : api_Version → Bool → Prop) : Prop := (a.3.length ≤ 2000000 ∧ ∀ v ∈ a.3, bigC v) ∧ ∀ (q : api_Version) (b : Bool), inR a.3 d q b → post q b
def pinf_sp : Spec := ⟨15, false, true, [.st .api_Application, .int .i64], .tup [.dat (.st .api_Version), .dat (.bool)], fun x post => pinf_P (x.1 : api_Application) (x.2.1 : Int) (fun y0 y1 => post (y0, y1, ()))⟩
theorem two_args {S : Cells} {w : World} {a : api_Application} {d : Int} {us : List Value} (hl : us.length = 2) (hr : ∀ (i : Nat) (d' : D) (u : Value), (tvs [.st .api_Application, .int .i64] (a, d, ()))[i]? = some d' → us[i]? = some u → Rd S w d' u) : ∃ ad cap, us = [.agg #[.int .i64 a.1, .int .i64 a.2, .slice ad a.3.length cap], .int .i64 d] ∧ Rd S w (.sl (.st .api_Version) a.3) (.slice ad a.3.length cap) := by
  match us, hl with
  | [x, y], _ =>
    have h0 : Rd S w (tv (.st .api_Application) a) x := hr 0 _ _ rfl rfl
    have h1 : Rd S w (.v (.int .i64 d)) y := hr 1 _ _ rfl rfl
    rw [rd_v h1]
    cases h0 with
    | agg _ us hl2 ho hh =>
      match us, hl2 with
      | [p, q, r], _ =>
        have g0 : Rd S w (.v (.int .i64 a.1)) p := hh 0 _ _ rfl rfl
        have g1 : Rd S w (.v (.int .i64 a.2)) q := hh 1 _ _ rfl rfl
        have g2 : Rd S w (.sl (.st .api_Version) a.3) r := hh 2 _ _ rfl rfl
        rw [rd_v g0, rd_v g1]
        have hz : ∃ ad cap, r = .slice ad a.3.length cap := by cases g2; exact ⟨_, _, rfl⟩
        obtain ⟨ad, cap, rfl⟩ := hz
        exact ⟨ad, cap, rfl, g2⟩
theorem pinf_ok : SpecOK Tryz.prog pinf_sp := SpecOK.vb (ts := [.st .api_Application, .int .i64]) (pt := fun x post => pinf_P x.1 x.2.1 post) fun x post hp w S us hS hl hr => by
  obtain ⟨a, d, ⟨⟩⟩ := x
  obtain ⟨⟨hp1, hp2⟩, hp⟩ := hp
  obtain ⟨ad, cap, rfl, hrd⟩ := two_args hl hr
  dsimp only at hp1 hp2 hp
  generalize a.3 = l at *
  have key : ∃ vs : Nat → Value, (∀ j, (vs j).oneCell' = true) ∧ (∀ i : Nat, vs (i * 2) = .int .i64 (ix l (i : Int)).Day) ∧ (∀ i : Nat, ∃ a n c, vs (i * 2 + 1) = .slice a n c) ∧ Back.Cells2 w.heap.size w ad l.length vs ∧ ∀ i : Nat, Rd S w (tv (.st .api_Version) (ix l (i : Int))) (Back.elt vs i) := by
    obtain ⟨ad', cap', b, off, f, e, ha, hx, h⟩ := sl_inv (t := .st .api_Version) (l := l) hrd
    have e : Value.slice ad l.length cap = .slice ad' l.length cap' := e
    injection e with e1 _ e2
    subst e1
    have hx : ∀ (i : Nat), i < l.length → ∀ j, j < 2 → S b (off + i * 2 + j) ∧ w.cell? ⟨b, off + i * 2 + j, none⟩ = some (f i j) ∧ (f i j).oneCell' = true := hx
    have hd : ∀ i : Nat, i < l.length → f i 0 = .int .i64 (ix l (i : Int)).Day := fun i hi => by
      have := h i l[i] 0 _ (List.getElem?_eq_getElem hi) rfl
      have this : Rd S w (.v (.int .i64 l[i].Day)) (f i 0) := this
      rw [rd_v this, ix_lt hi]
    have hs : ∀ i : Nat, i < l.length → Rd S w (.sl (.st .api_Line) (ix l (i : Int)).Lines) (f i 1) := fun i hi => by
      have := h i l[i] 1 _ (List.getElem?_eq_getElem hi) rfl
      rw [ix_lt hi]; exact this
    have hout : ∀ i : Nat, ¬ i < l.length → ix l (i : Int) = default := fun i hi => by
      unfold ix
      rw [List.getD_eq_getElem?_getD, List.getElem?_eq_none (by show l.length ≤ Int.toNat (i : Int); omega)]; rfl
    obtain ⟨vs, hvs⟩ : ∃ vs : Nat → Value, vs = fun j => if j / 2 < l.length then f (j / 2) (j % 2) else if j % 2 = 0 then .int .i64 0 else .slice none 0 0 := ⟨_, rfl⟩
    have v0 : ∀ i : Nat, vs (i * 2) = if i < l.length then f i 0 else .int .i64 0 := fun i => by
      rw [hvs]; dsimp only
      rw [show i * 2 / 2 = i by omega, show i * 2 % 2 = 0 by omega, if_pos rfl]
    have v1 : ∀ i : Nat, vs (i * 2 + 1) = if i < l.length then f i 1 else .slice none 0 0 := fun i => by
      rw [hvs]; dsimp only
      rw [show (i * 2 + 1) / 2 = i by omega, show (i * 2 + 1) % 2 = 1 by omega, if_neg (show ¬ (1 : Nat) = 0 by decide)]
    have d0 : ∀ i : Nat, vs (i * 2) = .int .i64 (ix l (i : Int)).Day := fun i => by
      rw [v0]
      by_cases hi : i < l.length
      · rw [if_pos hi]; exact hd i hi
      · rw [if_neg hi, hout i hi]; rfl
    have d1 : ∀ i : Nat, Rd S w (.sl (.st .api_Line) (ix l (i : Int)).Lines) (vs (i * 2 + 1)) := fun i => by
      rw [v1]
      by_cases hi : i < l.length
      · rw [if_pos hi]; exact hs i hi
      · rw [if_neg hi, hout i hi]; exact Rd.nil _ _ _ (Nat.zero_le _)
    have d2 : ∀ i : Nat, ∃ a n c, vs (i * 2 + 1) = .slice a n c := fun i => by
      have := d1 i
      generalize vs (i * 2 + 1) = z at this
      cases this; exact ⟨_, _, _, rfl⟩
    have one : ∀ j, (vs j).oneCell' = true := fun j => by
      rcases Nat.mod_two_eq_zero_or_one j with hj | hj
      · have := d0 (j / 2)
        rw [show j / 2 * 2 = j by omega] at this
        rw [this]; rfl
      · obtain ⟨a, n, c, this⟩ := d2 (j / 2)
        rw [show j / 2 * 2 + 1 = j by omega] at this
        rw [this]; rfl
    refine ⟨vs, one, d0, d2, ?_, fun i => ?_⟩
    · by_cases hl0 : l = []
      · exact .inl (by rw [hl0]; rfl)
      · refine .inr ⟨b, off, ha.resolve_left hl0, ?_, fun j hj => ?_⟩
        · obtain ⟨k1, _, _⟩ := hx 0 (List.length_pos_iff.2 hl0) 0 (by decide)
          exact hS _ _ k1
        · obtain ⟨_, k2, _⟩ := hx (j / 2) (by omega) (j % 2) (by show _ < 2; omega)
          have e : off + j / 2 * 2 + j % 2 = off + j := by omega
          rw [e] at k2
          rw [k2, hvs]; dsimp only
          rw [if_pos (by omega)]
    · refine Rd.agg _ [vs (i * 2), vs (i * 2 + 1)] rfl (fun v hv => ?_) fun k c v hc hv => ?_
      · rcases List.mem_cons.1 hv with rfl | hv
        · exact one _
        · rw [List.mem_singleton] at hv; subst hv; exact one _
      · match k, hc, hv with
        | 0, hc, hv => cases hc; cases hv; rw [d0]; exact .v _
        | 1, hc, hv => cases hc; cases hv; exact d1 i
        | k + 2, hc, hv => cases hc
  obtain ⟨vs, h1, h2, h3, h4, h5⟩ := key
  refine (inf_any S l a.1 a.2 d ad cap w vs h1 h2 h3 (by omega) h4 fun i W hB => ?_).mono ?_
  · refine copied_any (ix l (i : Int)) ?_ _ W S (fun b o hb => Nat.lt_of_lt_of_le (hS b o hb) hB.size) w.heap.size hS ((h5 i).mono (fun _ _ h => h) fun b o hb => hB.cell (p := ⟨b, o, none⟩) (hS b o hb))
    by_cases hi : i < l.length
    · exact hp2 _ (ix_mem (by omega) (by omega))
    · have : ix l (i : Int) = default := by
        unfold ix
        rw [List.getD_eq_getElem?_getD, List.getElem?_eq_none (by show l.length ≤ Int.toNat (i : Int); omega)]; rfl
      rw [this]; exact ⟨Nat.zero_le _, fun x hx => by cases hx⟩
  · rintro e w' ⟨q, u, b, rfl, hin, hc, hb⟩
    exact ⟨q, u, b, rfl, hp q b hin, hc, hb⟩
end RE
end Go.Proofs.YtfbfknmnkcddpaaGreat
set_option maxRecDepth 100000
set_option linter.unusedVariables false
namespace Go.Proofs.YtfbfknmnkcddpaaGreat
open Go.RowKit
namespace RE
open PL

namespace PL
/-- What Reduces says of two versions, of any kind. -/
def redR (a b : api_Version) (q : Bool) (e : Int) : Prop := (20 < a.2.length ∨ 20 < b.2.length) ∧ q = false ∧ e = 1 ∨ ¬ (20 < a.2.length ∨ 20 < b.2.length) ∧ ¬ (linesV a.2 ∧ linesV b.2) ∧ q = false ∧ e = 7 ∨ ¬ (20 < a.2.length ∨ 20 < b.2.length) ∧ (linesV a.2 ∧ linesV b.2) ∧ (q = true ↔ reducesP a b) ∧ e = 0
end PL

def rred_P (a : api_Version) (b : api_Version) (post : Bool → Int → Prop) : Prop := ∀ (q : Bool) (e : Int), redR a b q e → post q e
def rred_sp : Spec := ⟨30, false, false, [.st .api_Version, .st .api_Version], .tup [.dat (.bool), .dat (.int .i64)], fun x post => rred_P (x.1 : api_Version) (x.2.1 : api_Version) (fun y0 y1 => post (y0, y1, ()))⟩
def rred_C : CtxR := ⟨tau, [rule1 rval_sp, rule1 rwit_sp], lookJ [(0, 29, ⟨[(49, .dat (.int .i64))], [], [50, 51, 52, 11, 53, 54, 55, 90, 88, 87, 86, 85, 84, 83, 82, 81, 80, 79, 78, 77, 76, 75, 74, 73, 72, 71, 70, 69, 68, 67, 66, 65, 64, 63, 62, 89, 61, 60, 14, 59, 58, 12, 56, 57, 91, 92, 93], [], []⟩), (0, 37, ⟨[(56, .dat (.int .i64)), (12, .dat .bool)], [], [57, 58, 59, 14, 60, 61, 89, 62, 63, 64, 65, 66, 67, 68, 69, 70, 71, 72, 73, 74, 75, 76, 77, 78, 79, 80, 81, 82, 83, 84, 85, 86, 87, 88, 90], [], []⟩), (0, 9, ⟨[(29, .dat (.int .i64))], [], [30, 31, 32, 7, 33, 34, 35, 44, 43, 42, 41, 40, 9, 39, 38, 36, 37, 45], [], []⟩), (0, 15, ⟨[(36, .dat (.int .i64))], [], [37, 38, 39, 9, 40, 41, 42, 43, 44], [], []⟩)]⟩
def rred_W (a : api_Version) (b : api_Version) (post : Bool → Int → Prop) : Prop := (↑a.2.length : Int) ≤ (9223372036854775807 : Int) → (gx false (decide ((20 : Int) < (↑a.2.length : Int))) = true → (↑b.2.length : Int) ≤ (9223372036854775807 : Int)) → IFB (decide ((20 : Int) < (↑a.2.length : Int)) || decide ((20 : Int) < (↑b.2.length : Int))) (post false (1 : Int)) ((↑[{ Day := a.1, Lines := a.2 : api_Version }, { Day := b.1, Lines := b.2 : api_Version }].length : Int) ≤ (9223372036854775807 : Int) → LOOP [Ty.int IntKind.i64] (fun (rec1 : Int → Prop) (z2 : Int) ↦ IFB (decide (z2 < (↑[{ Day := a.1, Lines := a.2 : api_Version }, { Day := b.1, Lines := b.2 : api_Version }].length : Int))) (((0 : Int) ≤ z2 ∧ z2 < (↑[{ Day := a.1, Lines := a.2 : api_Version }, { Day := b.1, Lines := b.2 : api_Version }].length : Int)) ∧ ((↑(ix [{ Day := a.1, Lines := a.2 : api_Version }, { Day := b.1, Lines := b.2 : api_Version }] z2).2.length : Int) ≤ (9223372036854775807 : Int) → LOOP [Ty.int IntKind.i64] (fun (rec3 : Int → Prop) (z4 : Int) ↦ IFB (decide (z4 < (↑(ix [{ Day := a.1, Lines := a.2 : api_Version }, { Day := b.1, Lines := b.2 : api_Version }] z2).2.length : Int))) (((0 : Int) ≤ z4 ∧ z4 < (↑(ix [{ Day := a.1, Lines := a.2 : api_Version }, { Day := b.1, Lines := b.2 : api_Version }] z2).2.length : Int)) ∧ ∀ (v5 : Bool), (v5 = true ↔ validP (ix (ix [{ Day := a.1, Lines := a.2 : api_Version }, { Day := b.1, Lines := b.2 : api_Version }] z2).2 z4).2.1) → IFB (!v5) (post false (7 : Int)) (rec3 (IntKind.i64.wrap (z4 + (1 : Int))))) (rec1 (IntKind.i64.wrap (z2 + (1 : Int))))) ((0 : Int), PUnit.unit))) ((↑b.2.length : Int) ≤ (9223372036854775807 : Int) → LOOP [Ty.int IntKind.i64] (fun (rec6 : Int → Prop) (z7 : Int) ↦ IFB (decide (z7 < (↑b.2.length : Int))) (((0 : Int) ≤ z7 ∧ z7 < (↑b.2.length : Int)) ∧ ((↑a.2.length : Int) ≤ (9223372036854775807 : Int) → LOOP [Ty.int IntKind.i64, Ty.bool] (fun (rec8 : Int → Bool → Prop) (z9 : Int) (z10 : Bool) ↦ IFB (decide (z9 < (↑a.2.length : Int))) (((0 : Int) ≤ z9 ∧ z9 < (↑a.2.length : Int)) ∧ JOIN [Ty.bool] (fun (y11 : Bool) ↦ rec8 (IntKind.i64.wrap (z9 + (1 : Int))) (z10 || decide ((ix b.2 z7).1 = (ix a.2 z9).1) && decide ((ix b.2 z7).3 = (ix a.2 z9).3) && decide (IntKind.i64.wrap (↑(Nat.instAndOp.1 ((ix b.2 z7).4 % (18446744073709551616 : Int)).toNat (Nat.instXorOp.1 ((18446744073709551615 : Nat)) ((ix a.2 z9).4 % (18446744073709551616 : Int)).toNat)) : Int) = (0 : Int)) && y11)) fun (J12 : Bool → Prop) ↦ IFB (gx false z10 && gx true (decide ((ix b.2 z7).1 = (ix a.2 z9).1) && decide ((ix b.2 z7).3 = (ix a.2 z9).3) && decide (IntKind.i64.wrap (↑(Nat.instAndOp.1 ((ix b.2 z7).4 % (18446744073709551616 : Int)).toNat (Nat.instXorOp.1 ((18446744073709551615 : Nat)) ((ix a.2 z9).4 % (18446744073709551616 : Int)).toNat)) : Int) = (0 : Int)))) (∀ (v13 : Bool), (v13 = true ↔ withinP (ix b.2 z7).2.1 (ix a.2 z9).2.1) → J12 v13) (J12 false)) (IFB (!z10) (post false (0 : Int)) (rec6 (IntKind.i64.wrap (z7 + (1 : Int)))))) ((0 : Int), false, PUnit.unit))) (post true (0 : Int))) ((0 : Int), PUnit.unit))) ((0 : Int), PUnit.unit))
theorem rred_w (a : api_Version) (b : api_Version) (post : dens (shT rred_sp.rs []) → Prop) : rred_W a b (fun y0 y1 => post (y0, y1, ())) = walkG (callR Tryz.prog rred_C (drawR Tryz.prog tau) 10 0) 30 false [tv (.st .api_Version) a, tv (.st .api_Version) b] rred_sp.rs post := by kernel_rfl
theorem rred_of (h : ∀ (a : api_Version) (b : api_Version) (post : Bool → Int → Prop), rred_P a b post → rred_W a b post) : SpecOK Tryz.prog rred_sp := SpecOK.of_rules (C := rred_C) (dr := drawR Tryz.prog tau) (n := 10) (fk := 0) (.cons (rule1_ok rval_ok) (.cons (rule1_ok rwit_ok) .nil)) (drawR_ok tau) fun x post hp => HoldW.of (rred_w x.1 x.2.1 post) (h x.1 x.2.1 (fun y0 y1 => post (y0, y1, ())) hp)

open Classical in
noncomputable def anyL (x : api_Line) (la : List api_Line) (k : Nat) : Bool := decide (∃ j : Nat, j < k ∧ lessL x (ix la (j : Int)))
open Classical in
theorem anyL_iff {x : api_Line} {la : List api_Line} {k : Nat} : anyL x la k = true ↔ ∃ j : Nat, j < k ∧ lessL x (ix la (j : Int)) := by
  unfold anyL
  exact decide_eq_true_iff
theorem anyL_succ {x : api_Line} {la : List api_Line} {k : Nat} {y : Bool} (h : y = true ↔ withinP x.2.1 (ix la (k : Int)).2.1) : anyL x la (k + 1) = (anyL x la k || (lessB x (ix la (k : Int)) && y)) := by
  apply bool_iff
  rw [anyL_iff, Bool.or_eq_true, anyL_iff, Bool.and_eq_true]
  constructor
  · rintro ⟨j, hj, hl⟩
    by_cases e : j = k
    · subst e; exact .inr ⟨hl.1, h.2 hl.2⟩
    · exact .inl ⟨j, by omega, hl⟩
  · rintro (⟨j, hj, hl⟩ | ⟨h1, h2⟩)
    · exact ⟨j, by omega, hl⟩
    · exact ⟨k, by omega, h1, h.1 h2⟩
theorem anyL_skip {x : api_Line} {la : List api_Line} {k : Nat} {y : Bool} (h : anyL x la k = true ∨ lessB x (ix la (k : Int)) = false) : anyL x la (k + 1) = (anyL x la k || (lessB x (ix la (k : Int)) && y)) := by
  apply bool_iff
  rcases h with h | h
  · rw [h, Bool.true_or]
    rw [anyL_iff] at h ⊢
    obtain ⟨j, hj, hl⟩ := h
    exact ⟨fun _ => rfl, fun _ => ⟨j, by omega, hl⟩⟩
  · rw [h, Bool.false_and, Bool.or_false]
    rw [anyL_iff, anyL_iff]
    constructor
    · rintro ⟨j, hj, hl⟩
      by_cases e : j = k
      · subst e; rw [hl.1] at h; cases h
      · exact ⟨j, by omega, hl⟩
    · rintro ⟨j, hj, hl⟩; exact ⟨j, by omega, hl⟩
theorem rred_ok : SpecOK Tryz.prog rred_sp := rred_of fun a b post hp => by
  obtain ⟨da, la⟩ := a
  obtain ⟨db, lb⟩ := b
  unfold rred_W
  dsimp only
  intro _ _
  refine IFB.mk (fun hb => ?_) (fun hb => ?_)
  · refine hp _ _ (.inl ⟨?_, rfl, rfl⟩)
    simp only [Bool.or_eq_true, decide_eq_true_eq] at hb
    show 20 < la.length ∨ 20 < lb.length
    omega
  have hs : ¬ (20 < la.length ∨ 20 < lb.length) := by
    simp only [Bool.or_eq_false_iff, decide_eq_false_iff_not] at hb
    omega
  intro _
  have hL : ∀ k : Nat, k < 2 → (ix [(⟨da, la⟩ : api_Version), ⟨db, lb⟩] (k : Int)).2.length ≤ 20 := fun k hk => by
    match k, hk with
    | 0, _ => show la.length ≤ 20; omega
    | 1, _ => show lb.length ≤ 20; omega
  refine loopCmp (n := 2) (by omega) (p := fun j => linesV (ix [(⟨da, la⟩ : api_Version), ⟨db, lb⟩] (j : Int)).2) (fun rec k hk hpre hrec => ⟨?_, ?_⟩) fun hall => ?_
  · show (0 : Int) ≤ (k : Int) ∧ (k : Int) < ((2 : Nat) : Int)
    omega
  · intro _
    have hk20 := hL k hk
    have hno : ¬ linesV (ix [(⟨da, la⟩ : api_Version), ⟨db, lb⟩] (k : Int)).2 → post false 7 := fun h => by
      refine hp _ _ (.inr (.inl ⟨hs, fun ⟨h1, h2⟩ => h ?_, rfl, rfl⟩))
      match k, hk with
      | 0, _ => exact h1
      | 1, _ => exact h2
    generalize (ix [(⟨da, la⟩ : api_Version), ⟨db, lb⟩] (k : Int)).2 = lk at *
    refine loopCmp (n := lk.length) (by omega) (p := fun j => validP (ix lk (j : Int)).2.1) (fun rec2 m hm _ hrec2 => ⟨by omega, fun v hv => IFB.mk (fun h => ?_) (fun h => hrec2 (hv.1 (by simpa using h)))⟩) fun hall => ?_
    · refine hno fun hl => ?_
      have := hv.2 (hl _ (ix_mem (l := lk) (i := (m : Int)) (by omega) (by omega)))
      rw [this] at h; cases h
    · refine hrec fun x hx => ?_
      obtain ⟨j, hj, rfl⟩ := List.getElem_of_mem hx
      have := hall j hj
      rwa [ix_lt hj] at this
  have hva : linesV la := hall 0 (by omega)
  have hvb : linesV lb := hall 1 (by omega)
  have hfin : ∀ q : Bool, (q = true ↔ reducesP ⟨da, la⟩ ⟨db, lb⟩) → post q 0 := fun q hq => hp _ _ (.inr (.inr ⟨hs, ⟨hva, hvb⟩, hq, rfl⟩))
  intro _
  refine loopCmp (n := lb.length) (by omega) (p := fun j => ∃ y ∈ la, lessL (ix lb (j : Int)) y) (fun rec k hk hpre hrec => ⟨by omega, ?_⟩) fun hall2 => ?_
  · intro _
    refine loopF (t := .bool) (n := la.length) (by omega) (fun m => anyL (ix lb (k : Int)) la m) (fun (rec2 : Int → Bool → Prop) m hm hrec2 => ?_) ?_
    · refine ⟨by omega, JOIN.opq fun (J12 : Bool → Prop) hJ12 => ?_⟩
      have hJ : ∀ y : Bool, anyL (ix lb (k : Int)) la (m + 1) = (anyL (ix lb (k : Int)) la m || (lessB (ix lb (k : Int)) (ix la (m : Int)) && y)) → J12 y := fun y h => by
        rw [hJ12]
        rw [h] at hrec2
        exact hrec2
      refine IFB.mk (fun h v hv => hJ v (anyL_succ hv)) (fun h => hJ false (anyL_skip ?_))
      cases h1 : anyL (ix lb (k : Int)) la m
      · refine .inr ?_
        cases h2 : lessB (ix lb (k : Int)) (ix la (m : Int))
        · rfl
        · exfalso
          have h : (gx false (anyL (ix lb (k : Int)) la m) && gx true (lessB (ix lb (k : Int)) (ix la (m : Int)))) = false := h
          rw [h1, h2] at h
          cases h
      · exact .inl rfl
    · show IFB (!(anyL (ix lb (k : Int)) la la.length)) _ _
      have hex : anyL (ix lb (k : Int)) la la.length = true ↔ ∃ y ∈ la, lessL (ix lb (k : Int)) y := by
        rw [anyL_iff]
        constructor
        · rintro ⟨j, hj, hl⟩; exact ⟨_, ix_mem (by omega) (by omega), hl⟩
        · rintro ⟨y, hy, hl⟩
          obtain ⟨j, hj, rfl⟩ := List.getElem_of_mem hy
          exact ⟨j, hj, by rw [ix_lt hj]; exact hl⟩
      refine IFB.mk (fun h => ?_) (fun h => hrec (hex.1 (by simpa using h)))
      refine hfin false ⟨fun h => (by cases h), fun hr => ?_⟩
      have := hex.2 (hr _ (ix_mem (l := lb) (i := (k : Int)) (by omega) (by omega)))
      rw [this] at h; cases h
  · refine hfin true ⟨fun _ x hx => ?_, fun _ => rfl⟩
    obtain ⟨j, hj, rfl⟩ := List.getElem_of_mem hx
    have := hall2 j hj
    rwa [ix_lt hj] at this
def rchk_P (a : api_Application) (o : Int) (la : Int) (e : Int) (post : Int → Prop) : Prop := ∀ q : Int, q = chkS a o la e → post q
def rchk_sp : Spec := ⟨19, false, false, [.st .api_Application, .int .i64, .int .i64, .int .i64], .dat (.int .i64), fun x post => rchk_P (x.1 : api_Application) (x.2.1 : Int) (x.2.2.1 : Int) (x.2.2.2.1 : Int) (fun y0 => post (y0, ()))⟩
def rchk_C : CtxR := ⟨tau, [rule1 rval_sp, rule1 rred_sp], lookJ [(0, 33, ⟨[(74, .dat (.int .i64))], [], [75, 135, 134, 16, 15, 133, 132, 123, 131, 130, 129, 128, 127, 126, 125, 124, 121, 120, 119, 118, 122, 117, 116, 115, 107, 106, 108, 109, 14, 110, 111, 112, 113, 114, 105, 104, 103, 102, 101, 100, 99, 97, 96, 95, 94, 93, 92, 91, 90, 89, 88, 87, 86, 85, 84, 98, 83, 82, 81, 80, 79, 11, 12, 78, 77, 76, 136], [], []⟩), (0, 64, ⟨[], [], [76, 77, 78, 12, 11, 79, 80, 81, 82, 83, 98, 84, 85, 86, 87, 88, 89, 90, 91, 92, 93, 94, 95, 96, 97, 99, 100, 101, 102, 103, 104, 105, 114, 113, 112, 111, 110, 14, 109, 108, 106, 107, 115, 116, 117, 122, 118, 119, 120, 121, 124, 125, 126, 127, 128, 129, 130, 131, 123, 132, 133, 15, 16, 134, 135], [], []⟩), (0, 47, ⟨[(106, .dat (.int .i64))], [], [107, 108, 109, 14, 110, 111, 112, 113, 114], [], []⟩), (0, 21, ⟨[(62, .dat (.int .i64))], [], [63, 64, 65, 10, 66, 67, 68, 69, 70], [], []⟩)]⟩
def rchk_W (a : api_Application) (o : Int) (la : Int) (e : Int) (post : Int → Prop) : Prop := IFB (decide (o < (0 : Int)) || decide (la < o) || decide (e < la) || decide ((36864 : Int) < e)) (post (9 : Int)) (IFB (decide (a.1 < (1 : Int)) || decide ((60 : Int) < a.1)) (post (2 : Int)) (IFB (decide (a.2 < (0 : Int)) || decide ((100 : Int) < a.2)) (post (18 : Int)) ((↑a.3.length : Int) ≤ (9223372036854775807 : Int) → (gx false (decide ((↑a.3.length : Int) < (1 : Int))) = true → (↑a.3.length : Int) ≤ (9223372036854775807 : Int)) → IFB (decide ((↑a.3.length : Int) < (1 : Int)) || decide ((40 : Int) < (↑a.3.length : Int))) (post (1 : Int)) ((↑a.3.length : Int) ≤ (9223372036854775807 : Int) → LOOP [Ty.int IntKind.i64] (fun (rec1 : Int → Prop) (z2 : Int) ↦ IFB (decide (z2 < (↑a.3.length : Int))) (((0 : Int) ≤ z2 ∧ z2 < (↑a.3.length : Int)) ∧ ((↑(ix a.3 z2).2.length : Int) ≤ (9223372036854775807 : Int) → IFB (decide ((20 : Int) < (↑(ix a.3 z2).2.length : Int))) (post (1 : Int)) (rec1 (IntKind.i64.wrap (z2 + (1 : Int)))))) ((↑a.3.length : Int) ≤ (9223372036854775807 : Int) → LOOP [Ty.int IntKind.i64] (fun (rec3 : Int → Prop) (z4 : Int) ↦ IFB (decide (z4 < (↑a.3.length : Int))) (JOIN [] (rec3 (IntKind.i64.wrap (z4 + (1 : Int)))) fun (J5 : Prop) ↦ ((0 : Int) ≤ z4 ∧ z4 < (↑a.3.length : Int)) ∧ ((gx false (decide ((ix a.3 z4).1 < o)) && gx true (decide ((0 : Int) < z4))) = true → (0 : Int) ≤ IntKind.i64.wrap (z4 - (1 : Int)) ∧ IntKind.i64.wrap (z4 - (1 : Int)) < (↑a.3.length : Int)) ∧ IFB (decide ((ix a.3 z4).1 < o) || decide ((0 : Int) < z4) && decide ((ix a.3 z4).1 < (ix a.3 (IntKind.i64.wrap (z4 - (1 : Int)))).1)) (post (9 : Int)) (IFB (decide (e < (ix a.3 z4).1)) (post (21 : Int)) ((↑(ix a.3 z4).2.length : Int) ≤ (9223372036854775807 : Int) → LOOP [Ty.int IntKind.i64] (fun (rec6 : Int → Prop) (z7 : Int) ↦ IFB (decide (z7 < (↑(ix a.3 z4).2.length : Int))) (((0 : Int) ≤ z7 ∧ z7 < (↑(ix a.3 z4).2.length : Int)) ∧ ∀ (v8 : Bool), (v8 = true ↔ validP (ix (ix a.3 z4).2 z7).2.1) → IFB (!v8) (post (7 : Int)) (rec6 (IntKind.i64.wrap (z7 + (1 : Int))))) (IFB (decide ((0 : Int) < z4) && decide (la < (ix a.3 z4).1)) (((0 : Int) ≤ IntKind.i64.wrap (z4 - (1 : Int)) ∧ IntKind.i64.wrap (z4 - (1 : Int)) < (↑a.3.length : Int)) ∧ ∀ (v9 : Bool) (v10 : Int), redR { Day := (ix a.3 (IntKind.i64.wrap (z4 - (1 : Int)))).1, Lines := (ix a.3 (IntKind.i64.wrap (z4 - (1 : Int)))).2 : api_Version } { Day := (ix a.3 z4).1, Lines := (ix a.3 z4).2 : api_Version } v9 v10 → IFB (!v9) (post (22 : Int)) J5) J5)) ((0 : Int), PUnit.unit)))) (post (0 : Int))) ((0 : Int), PUnit.unit))) ((0 : Int), PUnit.unit)))))
theorem rchk_w (a : api_Application) (o : Int) (la : Int) (e : Int) (post : dens (shT rchk_sp.rs []) → Prop) : rchk_W a o la e (fun y0 => post (y0, ())) = walkG (callR Tryz.prog rchk_C (drawR Tryz.prog tau) 10 0) 19 false [tv (.st .api_Application) a, tv (.int .i64) o, tv (.int .i64) la, tv (.int .i64) e] rchk_sp.rs post := by kernel_rfl
theorem rchk_of (h : ∀ (a : api_Application) (o : Int) (la : Int) (e : Int) (post : Int → Prop), rchk_P a o la e post → rchk_W a o la e post) : SpecOK Tryz.prog rchk_sp := SpecOK.of_rules (C := rchk_C) (dr := drawR Tryz.prog tau) (n := 10) (fk := 0) (.cons (rule1_ok rval_ok) (.cons (rule1_ok rred_ok) .nil)) (drawR_ok tau) fun x post hp => HoldW.of (rchk_w x.1 x.2.1 x.2.2.1 x.2.2.2.1 post) (h x.1 x.2.1 x.2.2.1 x.2.2.2.1 (fun y0 => post (y0, ())) hp)
theorem rchk_ok : SpecOK Tryz.prog rchk_sp := rchk_of fun a o la e post hp => by
  have hp := hp _ rfl
  obtain ⟨f, y, l⟩ := a
  unfold chkS at hp
  unfold rchk_W
  dsimp only at hp ⊢
  have d4 : (decide (o < 0) || decide (la < o) || decide (e < la) || decide (36864 < e)) = true ↔ ¬ (0 ≤ o ∧ o ≤ la ∧ la ≤ e ∧ e ≤ 36864) := by
    simp only [Bool.or_eq_true, decide_eq_true_eq]; omega
  refine IFB.mk (fun hb => ?_) (fun hb => IFB.mk (fun hb2 => ?_) (fun hb2 => IFB.mk (fun hb3 => ?_) (fun hb3 => ?_)))
  · rw [if_pos (d4.1 hb)] at hp
    exact hp
  all_goals rw [if_neg (fun h => by rw [d4.2 h] at hb; cases hb)] at hp
  · rw [if_pos (by simpa using hb2)] at hp; exact hp
  all_goals rw [if_neg (by simpa using hb2)] at hp
  · rw [if_pos (by simpa using hb3)] at hp; exact hp
  rw [if_neg (by simpa using hb3)] at hp
  intro _ _
  refine IFB.mk (fun hb => ?_) (fun hb => ?_)
  · rw [if_pos] at hp
    · exact hp
    · simp only [Bool.or_eq_true, decide_eq_true_eq] at hb
      rcases hb with hb | hb
      · exact .inl (by omega)
      · exact .inr (.inl (by omega))
  have hn1 : 1 ≤ l.length ∧ l.length ≤ 40 := by
    simp only [Bool.or_eq_false_iff, decide_eq_false_iff_not] at hb; omega
  intro _
  refine loopCmp (n := l.length) (by omega) (p := fun j => (ix l (j : Int)).2.length ≤ 20) (fun rec k hk hpre hrec => ⟨by omega, fun _ => IFB.mk (fun h => ?_) (fun h => hrec (by have := of_decide_eq_false h; omega))⟩) fun hall => ?_
  · rw [if_pos (.inr (.inr ⟨_, ix_mem (l := l) (i := (k : Int)) (by omega) (by omega), by have := of_decide_eq_true h; show 20 < (ix l (k : Int)).2.length; omega⟩))] at hp
    exact hp
  have hn2 : ∀ v ∈ l, v.2.length ≤ 20 := fun v hv => by
    obtain ⟨j, hj, rfl⟩ := List.getElem_of_mem hv
    have := hall j hj
    rwa [ix_lt hj] at this
  rw [if_neg (by
    rintro (h | h | ⟨v, hv, h⟩)
    · omega
    · omega
    · have := hn2 v hv; have h : 20 < v.2.length := h; omega)] at hp
  intro _
  have hpv : ∀ {k : Nat} {P : api_Version → Prop}, (∃ q, prevV l k = some q ∧ P q) ↔ 0 < k ∧ P (ix l ((k - 1 : Nat) : Int)) := fun {k P} => by
    unfold prevV
    split
    · rename_i h; constructor
      · rintro ⟨q, hq, _⟩; cases hq
      · intro h2; omega
    · rename_i h; constructor
      · rintro ⟨q, hq, h2⟩; injection hq with hq; subst hq; exact ⟨by omega, h2⟩
      · intro h2; exact ⟨_, rfl, h2.2⟩
  have hval : ∀ {k : Nat}, chkAt o la e l k = 0 → linesV (ix l (k : Int)).2 := fun {k} h => by
    unfold chkAt chk1 at h
    apply Classical.byContradiction
    intro hn
    split at h
    · cases h
    · split at h
      · cases h
      · first
          | (rw [if_pos hn] at h; cases h)
          | cases h
  refine loopCmp (n := l.length) (by omega) (p := fun j => chkAt o la e l j = 0) (fun rec k hk hpre hrec => JOIN.opq fun (J5 : Prop) hJ5 => ?_) fun hall2 => ?_
  · have hx : ix l (k : Int) ∈ l := ix_mem (by omega) (by omega)
    have hvl := hn2 _ hx
    have hw : 0 < k → IntKind.i64.wrap ((k : Int) - 1) = ((k - 1 : Nat) : Int) := fun h => by rw [wrap_in (by omega) (by omega)]; omega
    have hout : ∀ c : Int, c ≠ 0 → chkAt o la e l k = c → post c := fun c hc h => by
      rw [firstE_at hpre (by rw [h]; exact hc) hk, h] at hp
      exact hp
    have hJ : chkAt o la e l k = 0 → J5 := fun h => by rw [hJ5]; exact hrec h
    unfold chkAt chk1 at hout hJ
    simp only [hpv] at hout hJ
    have hd : (decide ((ix l (k : Int)).1 < o) || decide (0 < (k : Int)) && decide ((ix l (k : Int)).1 < (ix l (IntKind.i64.wrap ((k : Int) - 1))).1)) = true ↔ ((ix l (k : Int)).1 < o ∨ 0 < k ∧ (ix l (k : Int)).1 < (ix l ((k - 1 : Nat) : Int)).1) := by
      simp only [Bool.or_eq_true, Bool.and_eq_true, decide_eq_true_eq]
      constructor
      · rintro (h | ⟨h1, h2⟩)
        · exact .inl h
        · rw [hw (by omega)] at h2; exact .inr ⟨by omega, h2⟩
      · rintro (h | ⟨h1, h2⟩)
        · exact .inl h
        · rw [hw h1]; exact .inr ⟨by omega, h2⟩
    refine ⟨by omega, fun h => ?_, IFB.mk (fun h => ?_) (fun h => IFB.mk (fun h2 => ?_) (fun h2 _ => ?_))⟩
    · have : 0 < (k : Int) := by
        simp only [gx, Bool.and_eq_true, decide_eq_true_eq, cond_true] at h
        exact h.2
      rw [hw (by omega)]
      omega
    · exact hout 9 (by decide) (if_pos (hd.1 h))
    · refine hout 21 (by decide) ?_
      rw [if_neg (fun q => by rw [hd.2 q] at h; cases h), if_pos (by simpa using h2)]
    · refine loopCmp (n := (ix l (k : Int)).2.length) (by omega) (p := fun j => validP (ix (ix l (k : Int)).2 (j : Int)).2.1) (fun rec2 m hm _ hrec2 => ⟨by omega, fun v hv => IFB.mk (fun h3 => ?_) (fun h3 => hrec2 (hv.1 (by simpa using h3)))⟩) fun hall3 => ?_
      · refine hout 7 (by decide) ?_
        rw [if_neg (fun q => by rw [hd.2 q] at h; cases h), if_neg (by simpa using h2), if_pos]
        intro hl
        have := hv.2 (hl _ (ix_mem (l := (ix l (k : Int)).2) (i := (m : Int)) (by omega) (by omega)))
        rw [this] at h3; cases h3
      · have hlv : linesV (ix l (k : Int)).2 := fun x hx => by
          obtain ⟨j, hj, rfl⟩ := List.getElem_of_mem hx
          have := hall3 j hj
          rwa [ix_lt hj] at this
        rw [if_neg (fun q => by rw [hd.2 q] at h; cases h), if_neg (by simpa using h2), if_neg (fun q => q hlv)] at hJ
        refine IFB.mk (fun h4 => ?_) (fun h4 => hJ (if_neg ?_))
        · simp only [Bool.and_eq_true, decide_eq_true_eq] at h4
          have hk0 : 0 < k := by omega
          rw [hw hk0]
          refine ⟨by omega, fun q9 e10 hr => ?_⟩
          have hpl := hn2 _ (ix_mem (l := l) (i := ((k - 1 : Nat) : Int)) (by omega) (by omega))
          have hpval := hval (hpre (k - 1) (by omega))
          rcases hr with ⟨hr, _⟩ | ⟨_, hr, _⟩ | ⟨_, _, hr, _⟩
          · exfalso
            have hr : 20 < (ix l ((k - 1 : Nat) : Int)).2.length ∨ 20 < (ix l (k : Int)).2.length := hr
            omega
          · exact absurd ⟨hpval, hlv⟩ hr
          · refine IFB.mk (fun h5 => ?_) (fun h5 => hJ (if_neg ?_))
            · refine hout 22 (by decide) ?_
              have hne : ¬ reducesP (ix l ((k - 1 : Nat) : Int)) (ix l (k : Int)) := fun q => by
                have : q9 = true := hr.2 q
                rw [this] at h5; cases h5
              rw [if_neg (fun q => by rw [hd.2 q] at h; cases h), if_neg (by simpa using h2), if_neg (fun q => q hlv), if_pos ⟨_, by unfold prevV; rw [if_neg (by omega)], h4.2, hne⟩]
            · rintro ⟨w, hw2, _, q⟩
              unfold prevV at hw2
              rw [if_neg (by omega)] at hw2
              injection hw2 with hw2
              subst hw2
              exact q (hr.1 (by simpa using h5))
        · rintro ⟨w, hw2, q2, _⟩
          have q1 : 0 < k := by
            unfold prevV at hw2
            split at hw2
            · cases hw2
            · omega
          have : (decide (0 < (k : Int)) && decide (la < (ix l (k : Int)).1)) = true := by
            rw [decide_eq_true (by omega), decide_eq_true q2]; rfl
          rw [this] at h4; cases h4
  · rw [firstE_zero.2 hall2] at hp
    exact hp

end RE
end Go.Proofs.YtfbfknmnkcddpaaGreat
