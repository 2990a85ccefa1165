/-
  Plain mathematics for chapter 3: days, windows, working days. No program in sight.
-/
import Derived.RangeFuncNested
import Derived.RangeFuncBound
import Derived.RangeFuncCalls
import Derived.RangeFuncLeaves
import Derived.RangeFuncBox
import Derived.Shelf.Abstract
import Derived.Shelf.RegionOpen
import Derived.WalkKit
import Derived.OwnWalkIn
import Derived.TacticsInMore
import Derived.LoopNIn
import Derived.LoopIn
import Derived.Maps.AppendAt
import Derived.Test.YtfbfknmnkcddpaaRows
import Derived.RangeFuncWrites
import Derived.Test.YtfbfknmnkcddpaaWReg
import Derived.Shelf.SlIterI.Sorted
import Derived.Lib.Hide
import Derived.Test.YtfbfknmnkcddpaaWEngC
import Derived.Test.YtfbfknmnkcddpaaWPlain
namespace Go.Proofs.Ytfbfknmnkcddpaa
namespace Cal

def isD (d : Int) : Bool := decide (0 ≤ d) && decide (d ≤ 36864)
def vld (f u : Int) : Bool := decide (0 ≤ f) && decide (f < 365) && decide (0 ≤ u) && decide (u < 365)
/-- Whether a place of a year is in a window. -/
def pin (f u p : Int) : Bool := if u < f then decide (f ≤ p) || decide (p ≤ u) else decide (f ≤ p) && decide (p ≤ u)
def inn (f u d : Int) : Bool := isD d && vld f u && pin f u (d % 365)
/-- The first day of n from d on that is in a window. -/
def nx (f u : Int) : Nat → Int → Int × Bool
  | 0, _ => (0, false)
  | n + 1, d => if isD d then (if inn f u d then (d, true) else nx f u n (d + 1)) else (0, false)
theorem nx_succ (f u : Int) (n : Nat) (d : Int) : nx f u (n + 1) d = if isD d then (if inn f u d then (d, true) else nx f u n (d + 1)) else (0, false) := rfl
def nxt (f u d : Int) : Int × Bool := if vld f u then nx f u 365 d else (0, false)
def dys (f u : Int) : Int := if vld f u then (if u < f then 365 - f + u + 1 else u - f + 1) else 0
/-- How many of the first k places are in a window. -/
def cnt (f u : Int) : Nat → Int
  | 0 => 0
  | k + 1 => cnt f u k + if inn f u k then 1 else 0

theorem isD_iff (d : Int) : isD d = true ↔ 0 ≤ d ∧ d ≤ 36864 := by simp [isD]
theorem isD_not (d : Int) : isD d = false ↔ ¬ (0 ≤ d ∧ d ≤ 36864) := by rw [← isD_iff]; simp
theorem vld_iff (f u : Int) : vld f u = true ↔ 0 ≤ f ∧ f < 365 ∧ 0 ≤ u ∧ u < 365 := by simp [vld]; omega
theorem vld_not (f u : Int) : vld f u = false ↔ ¬ (0 ≤ f ∧ f < 365 ∧ 0 ≤ u ∧ u < 365) := by rw [← vld_iff]; simp
theorem inn_day (f u d : Int) (h : isD d = false) : inn f u d = false := by unfold inn; rw [h]; rfl
theorem inn_win (f u d : Int) (h : vld f u = false) : inn f u d = false := by unfold inn; rw [h]; simp
theorem inn_yes (f u d : Int) (h : isD d = true) (h2 : vld f u = true) : inn f u d = pin f u (d % 365) := by unfold inn; rw [h, h2]; rfl
theorem nx_off (f u : Int) (n : Nat) (d : Int) (h : isD d = false) : nx f u n d = (0, false) := by
  cases n with
  | zero => rfl
  | succ n => rw [nx, h]; rfl
theorem nx_win (f u : Int) (h : vld f u = false) : ∀ n d, nx f u n d = (0, false)
  | 0, _ => rfl
  | n + 1, d => by rw [nx, inn_win f u d h, nx_win f u h n (d + 1)]; simp
/-- Not found in n days: none of them is in the window. -/
theorem nx_none (f u : Int) : ∀ n d, 0 ≤ d → (nx f u n d).2 = false → ∀ j : Int, 0 ≤ j → j < n → inn f u (d + j) = false
  | 0, d, _, _, j, h0, h1 => by omega
  | n + 1, d, hd0, h, j, h0, h1 => by
    cases hd : isD d
    · rw [isD_not] at hd
      exact inn_day _ _ _ ((isD_not _).2 (by omega))
    · rw [nx, hd, if_pos rfl] at h
      cases hi : inn f u d
      · rw [hi] at h
        by_cases hj : j = 0
        · rw [hj, Int.add_zero]; exact hi
        · have := nx_none f u n (d + 1) (by omega) (by simpa using h) (j - 1) (by omega) (by omega)
          rwa [show d + 1 + (j - 1) = d + j by omega] at this
      · rw [hi] at h; simp at h
/-- Found: it is in the window, and a day from d on, within n. -/
theorem nx_found (f u : Int) : ∀ n d, (nx f u n d).2 = true → d ≤ (nx f u n d).1 ∧ (nx f u n d).1 < d + n ∧ inn f u (nx f u n d).1 = true ∧ ((nx f u n d).1 = d ∨ inn f u d = false)
  | 0, d, h => by simp [nx] at h
  | n + 1, d, h => by
    cases hd : isD d
    · rw [nx, hd] at h; simp at h
    · cases hi : inn f u d
      · have e : nx f u (n + 1) d = nx f u n (d + 1) := by rw [nx, hd, hi]; simp
        rw [e] at h ⊢
        have := nx_found f u n (d + 1) h
        exact ⟨by omega, by omega, this.2.2.1, .inr rfl⟩
      · have e : nx f u (n + 1) d = (d, true) := by rw [nx, hd, hi]; simp
        rw [e]
        exact ⟨Int.le_refl _, by simp; omega, hi, .inl rfl⟩
theorem nx_zero (f u : Int) : ∀ n d, (nx f u n d).2 = false → (nx f u n d).1 = 0
  | 0, _, _ => rfl
  | n + 1, d, h => by
    rw [nx] at h ⊢
    split
    · rename_i hd
      rw [if_pos hd] at h
      split
      · rename_i hi; rw [if_pos hi] at h; cases h
      · rename_i hi; rw [if_neg hi] at h; exact nx_zero f u n (d + 1) h
    · rfl
theorem nx_more (f u : Int) : ∀ n d, (nx f u n d).2 = true → nx f u (n + 1) d = nx f u n d
  | 0, d, h => by simp [nx] at h
  | n + 1, d, h => by
    rw [nx_succ] at h
    rw [nx_succ f u (n + 1) d, nx_succ f u n d]
    split
    · rename_i hd
      rw [if_pos hd] at h
      split
      · rfl
      · rename_i hi; rw [if_neg hi] at h; exact nx_more f u n (d + 1) h
    · rfl
theorem nx_end (f u : Int) : ∀ (n : Nat) d, (nx f u n d).2 = false → inn f u (d + n) = false → nx f u (n + 1) d = (0, false)
  | 0, d, _, h => by
    rw [show d + ((0 : Nat) : Int) = d by omega] at h
    rw [nx]
    split
    · rw [h]; rfl
    · rfl
  | n + 1, d, h1, h2 => by
    rw [nx] at h1
    rw [nx]
    split
    · rename_i hd
      rw [if_pos hd] at h1
      split
      · rename_i hi; rw [if_pos hi] at h1; cases h1
      · rename_i hi
        rw [if_neg hi] at h1
        exact nx_end f u n (d + 1) h1 (by rw [show d + 1 + (n : Int) = d + ((n + 1 : Nat) : Int) by omega]; exact h2)
    · rfl
/-- A year of days is enough. -/
theorem nx_year (f u d : Int) (h0 : 0 ≤ d) : nx f u 366 d = nx f u 365 d := by
  cases h : (nx f u 365 d).2
  · have h1 := nx_none f u 365 d h0 h 0 (by omega) (by omega)
    rw [Int.add_zero] at h1
    have h2 : inn f u (d + (365 : Nat)) = false := by
      cases hd : isD (d + (365 : Nat))
      · exact inn_day _ _ _ hd
      · cases hv : vld f u
        · exact inn_win _ _ _ hv
        · rw [inn_yes _ _ _ hd hv]
          rw [isD_iff] at hd
          rw [inn_yes _ _ _ ((isD_iff d).2 (by omega)) hv] at h1
          rw [show (d + (365 : Nat)) % 365 = d % 365 by omega]
          exact h1
    rw [nx_end f u 365 d h h2]
    have := nx_zero f u 365 d h
    generalize nx f u 365 d = q at *
    obtain ⟨a, b⟩ := q
    simp at this h
    rw [this, h]
  · exact nx_more f u 365 d h

theorem cnt_lin (f u : Int) (h : vld f u = true) (hle : ¬ u < f) : ∀ k : Nat, k ≤ 365 → cnt f u k = max 0 (min (k : Int) (u + 1) - f)
  | 0, _ => by have := (vld_iff f u).1 h; simp [cnt]; omega
  | k + 1, hk => by
    have hv := (vld_iff f u).1 h
    rw [cnt, cnt_lin f u h hle k (by omega), inn_yes f u k ((isD_iff _).2 (by omega)) h]
    unfold pin
    rw [if_neg hle, show ((k : Int)) % 365 = k by omega]
    split
    · rename_i hp; simp at hp; omega
    · rename_i hp; simp at hp; omega
theorem cnt_wrap (f u : Int) (h : vld f u = true) (hlt : u < f) : ∀ k : Nat, k ≤ 365 → cnt f u k = min (k : Int) (u + 1) + max 0 ((k : Int) - f)
  | 0, _ => by have := (vld_iff f u).1 h; simp [cnt]; omega
  | k + 1, hk => by
    have hv := (vld_iff f u).1 h
    rw [cnt, cnt_wrap f u h hlt k (by omega), inn_yes f u k ((isD_iff _).2 (by omega)) h]
    unfold pin
    rw [if_pos hlt, show ((k : Int)) % 365 = k by omega]
    split
    · rename_i hp; simp at hp; omega
    · rename_i hp; simp at hp; omega
theorem cnt_off (f u : Int) (h : vld f u = false) : ∀ k : Nat, cnt f u k = 0
  | 0 => rfl
  | k + 1 => by rw [cnt, cnt_off f u h k, inn_win _ _ _ h]; rfl
theorem cnt_year (f u : Int) : cnt f u 365 = dys f u := by
  unfold dys
  cases h : vld f u
  · rw [cnt_off f u h]; rfl
  · have hv := (vld_iff f u).1 h
    by_cases hlt : u < f
    · rw [cnt_wrap f u h hlt 365 (by omega), if_pos rfl, if_pos hlt]; omega
    · rw [cnt_lin f u h hlt 365 (by omega), if_pos rfl, if_neg hlt]; omega
theorem cnt_bd (f u : Int) : ∀ k : Nat, 0 ≤ cnt f u k ∧ cnt f u k ≤ k
  | 0 => by simp [cnt]
  | k + 1 => by
    have := cnt_bd f u k
    rw [cnt]; split <;> omega

/-! Working days. -/
def wk (l : List Int) (d : Int) : Bool := decide (d % 7 < 5) && !l.contains d
/-- How many of the k days from a on are working days. -/
def wks (l : List Int) (a : Int) : Nat → Int
  | 0 => 0
  | k + 1 => wks l a k + if wk l (a + k) then 1 else 0
def wkE (a b : Int) (n : Nat) : Int := if a < 0 ∨ b < a ∨ 36865 < b then 9 else if 400 < n then 1 else 0
def wkV (l : List Int) (a b : Int) : Int := if wkE a b l.length = 0 then wks l a (b - a).toNat else 0
theorem wks_bd (l : List Int) (a : Int) : ∀ k : Nat, 0 ≤ wks l a k ∧ wks l a k ≤ k
  | 0 => by simp [wks]
  | k + 1 => by
    have := wks_bd l a k
    rw [wks]; split <;> omega
theorem wks_add (l : List Int) (a : Int) : ∀ j k : Nat, wks l a (j + k) = wks l a j + wks l (a + j) k
  | j, 0 => by simp [wks]
  | j, k + 1 => by
    rw [← Nat.add_assoc, wks, wks_add l a j k, wks, show a + ((j + k : Nat) : Int) = a + j + k by omega]; omega
end Cal
end Go.Proofs.Ytfbfknmnkcddpaa
namespace Go.Proofs.Ytfbfknmnkcddpaa
open Go.RowKit Go.Shelf
set_option linter.unusedVariables false
attribute [local go_sem] Oper.semAt_some
namespace Seq
def upto {α : Type} (f : Nat → α) (k : Nat) : List α := (List.range k).map f
theorem upto_succ {α : Type} (f : Nat → α) (k : Nat) : upto f (k + 1) = upto f k ++ [f k] := by simp [upto, List.range_succ]
theorem upto_length {α : Type} (f : Nat → α) (k : Nat) : (upto f k).length = k := by simp [upto]
theorem upto_all (zs : List Int) : upto (fun j => zs[j]?.getD 0) zs.length = zs := by
  apply List.ext_getElem
  · simp [upto]
  · intro i h1 h2
    simp [upto, h2]
theorem upto_take (zs : List Int) {k : Nat} (hk : k ≤ zs.length) : upto (fun j => zs[j]?.getD 0) k = zs.take k := by
  apply List.ext_getElem
  · simp [upto, hk]
  · intro i h1 h2
    have : i < zs.length := by simp [upto] at h1; omega
    simp [upto, this]

set_option maxRecDepth 100000 in
set_option maxHeartbeats 2000000 in
theorem values1_in (F : Fence) (n : Nat) (h7 : F.fn 22) (hro : F.round = none) (hn : 1 ≤ n) (l Bs n₀ b off len cap : Nat) (zs : List Int) (hreach : len * 8 ≤ 140737488351232) (hb : b < n₀) (J Jx : List Int → World → Prop)
    (hY : ∀ pre x W, J pre W → pre.length < len → YieldAt F (n - 1) Try.prog l #[.int .i64 x] W fun e W' =>
      (e = .returned (.bool true) ∧ J (pre ++ [x]) W' ∧ Below n₀ W W') ∨ (e = .returned (.bool false) ∧ Jx (pre ++ [x]) W'))
    (W : World) (hBs : W.cell? ⟨Bs, 0, none⟩ = some (.slice (some ⟨b, off, none⟩) len cap)) (hc : ∀ j, j < len → W.cell? ⟨b, off + j, none⟩ = some (.int .i64 (zs[j]?.getD 0))) (h0 : J [] W) :
    CallsIn F n Try.prog 22 #[.func (.yield l) #[] #[], .pointer (some ⟨Bs, 0, none⟩)] W fun e W' => (∃ v, e = .returned v) ∧
      ((∃ ys, ys = upto (fun j => zs[j]?.getD 0) len ∧ J ys W') ∨ (∃ pre, (∃ k, k ≤ len ∧ pre = upto (fun j => zs[j]?.getD 0) k) ∧ Jx pre W')) := by
  refine callsIn_of_wp Try.func22 rfl h7 ?_ hro
  simp only [Try.ntmps22, List.size_toArray, List.length_cons, List.length_nil, Nat.reduceAdd, Nat.reduceSub, Array.replicate_succ, Array.replicate_zero, List.push_toArray, List.append_toArray, List.nil_append, List.cons_append]
  gi_wp2
  gi_loopw [7] (fun i wr => ∃ k : Nat, k ≤ len ∧ i = .int .i64 k ∧ J (upto (fun j => zs[j]?.getD 0) k) wr ∧ Below n₀ W wr)
    (fun i _ => len - (intOf i).toNat)
  case atStart => exact ⟨0, Nat.zero_le _, rfl, h0, Below.refl _ _⟩
  case round =>
    obtain ⟨k, hk, rfl, hJs, hnx⟩ := hrel
    have hcx : k < len → wr.cell? ⟨b, off + k, none⟩ = some (.int .i64 (zs[k]?.getD 0)) := fun h => (hnx.cell (p := ⟨b, off + k, none⟩) hb).trans (hc k h)
    by_cases hlt : k < len
    · obtain ⟨fn, tmps, assign, body, hy, hR⟩ := hY _ (zs[k]?.getD 0) wr hJs (by rw [upto_length]; exact hlt)
      have hcx' := hcx hlt
      gi_wp2
      refine hR.mono ?_
      rintro e W3 (⟨rfl, hJ3, hk3⟩ | ⟨rfl, hJx3⟩)
      · gi_wp2
        go_roundw
        case rel => exact ⟨k + 1, by omega, by simp, by rw [upto_succ]; exact hJ3, hnx.trans hk3⟩
        case measure => simp [intOf]; omega
      · gi_wp2
        refine bodyPost_ret (results_none rfl _ _ _) rfl ?_
        exact ⟨⟨_, rfl⟩, .inr ⟨_, ⟨k + 1, by omega, (upto_succ _ _).symm⟩, hJx3⟩⟩
    · obtain rfl : k = len := by omega
      gi_wp2
      go_end0
      exact ⟨⟨_, rfl⟩, .inl ⟨_, rfl, hJs⟩⟩

/-- The slice value sv holds the ints zs, in a block below n₀; or it is empty. -/
def Ints (n₀ : Nat) (W : World) (a : Option Addr) (zs : List Int) : Prop :=
  zs = [] ∨ ∃ b off, a = some ⟨b, off, none⟩ ∧ b < n₀ ∧ ∀ j, j < zs.length → W.cell? ⟨b, off + j, none⟩ = some (.int .i64 (zs[j]?.getD 0))
theorem Ints.below {n₀ : Nat} {A B : World} (h : Below n₀ A B) {a : Option Addr} {zs : List Int} : Ints n₀ A a zs → Ints n₀ B a zs
  | .inl e => .inl e
  | .inr ⟨b, off, e, hb, hc⟩ => .inr ⟨b, off, e, hb, fun j hj => (h.cell (p := ⟨b, off + j, none⟩) hb).trans (hc j hj)⟩

set_option maxRecDepth 100000 in
set_option maxHeartbeats 1000000 in
theorem values1_nil_in (F : Fence) (n : Nat) (h7 : F.fn 22) (hro : F.round = none) (l Bs : Nat) (a : Option Addr) (cap : Nat) (J : List Int → World → Prop) (W : World) (hBs : W.cell? ⟨Bs, 0, none⟩ = some (.slice a 0 cap)) (h0 : J [] W) :
    CallsIn F n Try.prog 22 #[.func (.yield l) #[] #[], .pointer (some ⟨Bs, 0, none⟩)] W fun e W' => (∃ v, e = .returned v) ∧ J [] W' := by
  refine callsIn_of_wp Try.func22 rfl h7 ?_ hro
  simp only [Try.ntmps22, List.size_toArray, List.length_cons, List.length_nil, Nat.reduceAdd, Nat.reduceSub, Array.replicate_succ, Array.replicate_zero, List.push_toArray, List.append_toArray, List.nil_append, List.cons_append]
  gi_wp2
  gi_loopw [7] (fun i wr => i = .int .i64 0 ∧ J [] wr) (fun _ _ => 0)
  case atStart => exact ⟨rfl, h0⟩
  case round =>
    obtain ⟨rfl, hJs⟩ := hrel
    gi_wp2
    go_end0
    exact ⟨⟨_, rfl⟩, hJs⟩
set_option maxHeartbeats 1000000 in
theorem values_in (F : Fence) (n : Nat) (h5 : F.fn 12) (hro : F.round = none) (a : Option Addr) (len cap : Nat) (w : World) :
    CallsIn F n Try.prog 12 #[.slice a len cap] w fun e w' => e = .returned (.func (.func 22) #[] #[.pointer (some ⟨w.heap.size, 0, none⟩)]) ∧ w' = w.alloc (.cells #[.slice a len cap] 23) := by
  refine callsIn_of_wp Try.func12 rfl h5 ?_ hro
  simp only [Try.ntmps12, List.size_toArray, List.length_cons, List.length_nil, Nat.reduceAdd, Nat.reduceSub, Array.replicate_succ, Array.replicate_zero, List.push_toArray, List.append_toArray, List.nil_append, List.cons_append]
  gi_wp2
  go_ret
  exact ⟨rfl, rfl⟩

theorem values_stops (F : Fence) (n : Nat) (h7 : F.fn 22) (hro : F.round = none) (hn : 1 ≤ n) (Bs n₀ : Nat) (a : Option Addr) (cap : Nat) (zs : List Int) (hreach : zs.length * 8 ≤ 140737488351232) (w : World) (hBs : Bs < w.heap.size) (hn₀ : n₀ ≤ w.heap.size)
    (hc : w.cell? ⟨Bs, 0, none⟩ = some (.slice a zs.length cap)) (hI : Ints n₀ w a zs) :
    SeqStopsK F n Try.prog 22 #[.pointer (some ⟨Bs, 0, none⟩)] (fun x : Int => #[Value.int .i64 x]) (Below n₀) (fun ys => ys = zs) (fun pre => pre <+: zs) zs.length w := fun l J Jx W hW _ _ hY h0 => by
  have hc' := (hW.cell (p := ⟨Bs, 0, none⟩) hBs).trans hc
  rcases hI.below (hW.mono hn₀) with rfl | ⟨b, off, rfl, hb, hcs⟩
  · exact (values1_nil_in F n h7 hro l Bs a cap J W hc' h0).mono fun e W' ⟨he, hj⟩ => ⟨he, .inl ⟨_, rfl, hj⟩⟩
  · refine (values1_in F n h7 hro hn l Bs n₀ b off zs.length cap zs hreach hb J Jx hY W hc' hcs h0).mono ?_
    rintro e W' ⟨he, ⟨ys, rfl, hj⟩ | ⟨pre, ⟨k, hk, rfl⟩, hj⟩⟩
    · exact ⟨he, .inl ⟨_, upto_all zs, hj⟩⟩
    · exact ⟨he, .inr ⟨_, by rw [upto_take zs hk]; exact List.take_prefix _ _, hj⟩⟩
end Seq
end Go.Proofs.Ytfbfknmnkcddpaa
namespace Go.Proofs.Ytfbfknmnkcddpaa
open Go.RowKit Go.Shelf
set_option linter.unusedVariables false
attribute [local go_sem] Oper.semAt_some
namespace Seq
theorem infoI : (Try.prog.info? 3).map (fun i => (i.zero, i.size, i.bytes)) = some (some (.int .i64 0), 1, 8) := by kernel_rfl

set_option maxRecDepth 100000 in
set_option maxHeartbeats 2000000 in
theorem appendSeq_in (F : Fence) (n : Nat) (h3 : F.fn 31) (h5 : F.fn 22) (hro : F.round = none) (hn : 3 ≤ n) (a : Option Addr) (cap Bv : Nat) (zs : List Int) (hlen : zs.length * 8 ≤ 140737488351232) (w : World) (hBv : Bv < w.heap.size) (hc0 : w.cell? ⟨Bv, 0, none⟩ = some (.slice a zs.length cap)) (hL : Ints w.heap.size w a zs) :
    CallsIn F n Try.prog 31 #[.slice none 0 0, .func (.func 22) #[] #[.pointer (some ⟨Bv, 0, none⟩)]] w fun e W' => ∃ v, e = .returned v ∧ W'.ownsRow w.heap.size 3 1 v zs.length (zs.map (Value.int .i64)) ∧ (v = .slice none 0 0 ↔ zs = []) ∧ Below w.heap.size w W' := by
  have h1 : 1 ≤ n := by omega
  obtain ⟨i0, hi, hz0, hz1, hz2⟩ := info_parts infoI
  refine callsIn_of_wp_marks Try.func31 rfl h3 ?_ hro
  simp only [Try.ntmps31, List.size_toArray, List.length_cons, List.length_nil, Nat.reduceAdd, Nat.reduceSub, Array.replicate_succ, Array.replicate_zero, List.push_toArray, List.append_toArray, List.nil_append, List.cons_append]
  gi_wp2
  have bO := Boxed.new w 23 (.slice none 0 0)
  have hB0 : Below w.heap.size w (w.alloc (.cells #[.slice none 0 0] 23)) := (Below.refl _ w).alloc (Nat.le_refl _) _
  refine wpIn_rangeFunc_ownG hro h1 (gf := 22) (lb := #[.pointer (some ⟨Bv, 0, none⟩)]) rfl h5 (enters_of Try.func22 (by kernel_rfl) rfl)
    (values_stops F (n - 1) h5 hro (by omega) Bv w.heap.size a cap zs hlen _ (by simp; omega) (by simp) ((hB0.cell (p := ⟨Bv, 0, none⟩) hBv).trans hc0) (hL.below hB0)) belowK_t (belowK_b (by simp)) (Below.refl _ _) (fun _ => rfl)
    (fun pre W => (∃ v, Boxed W w.heap.size 23 v ∧ W.ownsRow w.heap.size 3 1 v pre.length (pre.map (Value.int .i64)) ∧ (v = .slice none 0 0 ↔ pre = [])) ∧ Below w.heap.size w W)
    (fun _ _ _ => False)
    (OwnFrom.and (Own.from (holdsRow_own w.heap.size w.heap.size 23 3 1 (fun pre => pre.length) (fun pre => pre.map (Value.int .i64)) (fun pre v => v = .slice none 0 0 ↔ pre = [])) _) (ownFrom_below (Nat.le_refl _) (by simp)))
    (fun _ _ _ _ _ hs _ _ => hs)
    ⟨⟨_, bO, World.ownsRow_nil _ _ _ _, by simp⟩, hB0⟩
    (fun x => { tmps := #[.slice none 0 0, .func (.func 22) #[] #[.pointer (some ⟨Bv, 0, none⟩)], .pointer (some ⟨w.heap.size, 0, none⟩), undef, .slice none 0 0, .int .i64 x, .func (.func 22) #[] #[.pointer (some ⟨Bv, 0, none⟩)], .int .i64 x, undef, undef, undef, undef, undef], defers := [] }) ?assign ?body ?done ?stop
  case assign =>
    intro l x W K hK
    gi_wp2
    exact hK
  case body =>
    rintro l pre x W ⟨⟨v, hv, hrow, hnil⟩, hB⟩ hlt
    have hc := hv.cell
    gi_wp2_with (gi_at_builtin; refine wpListIn_append_own _ rfl _ _ 23 rfl w.heap.size 3 i0 (.int .i64 0) 1 8 Try.underlying23 hi hz0 hz1 hz2 rfl (by decide) _ _ _ rfl (hrow.alloc _) ⟨W.heap.size, 0, none⟩ 1 1 [.int .i64 x] rfl rfl (cell_one_new _ _ _) (by simp [Value.oneCell']) (by unfold maxLen; omega) (by omega) (by have := hB.size; simp; omega) ?_; intro v' w1 hown' hgrow _; obtain ⟨g', cap', rfl⟩ := ownsRow_succ hown'; obtain ⟨hv1, hv2, hr2, hk2, hb2⟩ := hv.appended (by decide) hrow hB.size (Nat.le_refl _) hown' hgrow; have hc1 := hv1.cell; have hf1 := hv1.frozen)
    exact ⟨hk2.from _, hb2, ⟨_, hv2, by simpa using hr2, by simp⟩, hB.trans hb2⟩
  case done =>
    rintro D ys W hD rfl ⟨⟨v, hv, hrow, hnil⟩, hB⟩ hK
    have hc := hv.cell
    gi_wp2
    refine ⟨by simp, .inl ⟨_, _, rfl, run_takeDeferred hK, ?_⟩⟩
    exact ⟨_, results_tmp rfl _ _ _, v, rfl, ownsRow_putObj hrow _ hK rfl, hnil, hB.trans (belowK_b (w := w) (Nat.le_refl _) W D _ _ (by simp at hD; omega) hK rfl rfl)⟩
  case stop =>
    rintro D c pre W _ _ h _
    exact h.elim
end Seq
end Go.Proofs.Ytfbfknmnkcddpaa
namespace Go.Proofs.Ytfbfknmnkcddpaa
open Go.RowKit Go.Shelf Go.Sort
set_option linter.unusedVariables false
namespace Seq
theorem appendSeq_any (a : Option Addr) (cap Bv : Nat) (zs : List Int) (hlen : zs.length * 8 ≤ 140737488351232) (w : World) (hBv : Bv < w.heap.size) (hc0 : w.cell? ⟨Bv, 0, none⟩ = some (.slice a zs.length cap)) (hL : Ints w.heap.size w a zs) :
    Calls Try.prog 31 #[.slice none 0 0, .func (.func 22) #[] #[.pointer (some ⟨Bv, 0, none⟩)]] w fun e W' => ∃ v, e = .returned v ∧ W'.ownsRow w.heap.size 3 1 v zs.length (zs.map (Value.int .i64)) ∧ (v = .slice none 0 0 ↔ zs = []) ∧ Below w.heap.size w W' :=
  callsIn_wide.1 (appendSeq_in Fence.wide 5 trivial trivial rfl (by omega) a cap Bv zs hlen w hBv hc0 hL)
theorem values_any (a : Option Addr) (len cap : Nat) (w : World) :
    Calls Try.prog 12 #[.slice a len cap] w fun e w' => e = .returned (.func (.func 22) #[] #[.pointer (some ⟨w.heap.size, 0, none⟩)]) ∧ w' = w.alloc (.cells #[.slice a len cap] 23) :=
  callsIn_wide.1 (values_in Fence.wide 5 trivial rfl a len cap w)

set_option maxHeartbeats 400000 in
theorem collect_any (a : Option Addr) (cap Bv : Nat) (zs : List Int) (hlen : zs.length * 8 ≤ 140737488351232) (w : World) (hBv : Bv < w.heap.size) (hc0 : w.cell? ⟨Bv, 0, none⟩ = some (.slice a zs.length cap)) (hL : Ints w.heap.size w a zs) :
    Calls Try.prog 20 #[.func (.func 22) #[] #[.pointer (some ⟨Bv, 0, none⟩)]] w fun e W' => ∃ v, e = .returned v ∧ W'.ownsRow w.heap.size 3 1 v zs.length (zs.map (Value.int .i64)) ∧ (v = .slice none 0 0 ↔ zs = []) ∧ Below w.heap.size w W' := by
  have hap := Lib.hid (appendSeq_any a cap Bv zs hlen w hBv hc0 hL)
  clear hc0
  go_enter Try.func20, Try.ntmps20
  go_wp2_with fail
  refine hap.out.mono ?_
  rintro e w1 ⟨v, rfl, h1, h2, h3⟩
  have hfin := Lib.hid (And.intro h1 (And.intro h2 h3))
  clear h1 h2 h3
  go_wp2
  go_ret
  exact ⟨v, rfl, hfin.out⟩

def srt (zs : List Int) : List Int := zs.mergeSort fun x y => decide (x ≤ y)
set_option maxHeartbeats 800000 in
theorem sorted_any (a : Option Addr) (cap Bv : Nat) (zs : List Int) (hlen : zs.length * 8 ≤ 140737488351232) (w : World) (hBv : Bv < w.heap.size) (hc0 : w.cell? ⟨Bv, 0, none⟩ = some (.slice a zs.length cap)) (hL : Ints w.heap.size w a zs) :
    Calls Try.prog 11 #[.func (.func 22) #[] #[.pointer (some ⟨Bv, 0, none⟩)]] w fun e W' => ∃ v, e = .returned v ∧ W'.ownsRow w.heap.size 3 1 v zs.length ((srt zs).map (Value.int .i64)) ∧ Below w.heap.size w W' := by
  have hco := Lib.hid (collect_any a cap Bv zs hlen w hBv hc0 hL)
  clear hc0
  go_enter Try.func11, Try.ntmps11
  go_wp2_with fail
  refine hco.out.mono ?_
  rintro e W ⟨v, rfl, hrow, hnil, hb⟩
  rcases hrow.2 with ⟨rfl, hz⟩ | ⟨gb, cap2, cur, rfl, hbase, hgb, r1, r2, r3, r4⟩
  · have hzs : zs = [] := List.eq_nil_of_length_eq_zero hz
    subst hzs
    have hfin := Lib.hid (And.intro hrow hb)
    clear hrow hb hnil hz
    go_wp2_with fail
    refine (Try.slices_Sort_int_none none 0 W).mono ?_
    rintro e w' ⟨rfl, rfl⟩
    go_wp2
    go_ret
    exact ⟨_, rfl, by simpa [srt] using hfin.out.1, hfin.out.2⟩
  · have hH : Holds (Value.int .i64) W gb 0 zs.toArray := holds_of_block_i hgb (by simpa using r4)
    have hgl : gb < W.heap.size := (Array.getElem?_eq_some_iff.1 hgb).1
    have cS := Lib.hid (Try.slices_Sort_int gb 0 cap2 zs W hH hgl (by omega))
    have hfin : ∀ nn os, (grow (putRow (Value.int .i64) (Sort.ahead W nn) gb 0 (zs.mergeSort fun x y => decide (x ≤ y)).toArray) os).ownsRow w.heap.size 3 1 (.slice (some ⟨gb, 0, none⟩) zs.length cap2) zs.length ((srt zs).map (Value.int .i64)) ∧ Below w.heap.size w (grow (putRow (Value.int .i64) (Sort.ahead W nn) gb 0 (zs.mergeSort fun x y => decide (x ≤ y)).toArray) os) :=
      fun nn os => ⟨ownsRow_sorted_i (by simp) hbase hgb r1 r2 r3, hb.grown (grownBy_sorted_i _) hb.size (fun j hj => by cases hj; exact hbase)⟩
    have hfin' := Lib.hid hfin
    clear hfin hgb r4 hrow hnil hH
    go_wp2_with fail
    refine cS.out.mono ?_
    rintro e w' ⟨rfl, nn, os, rfl⟩
    go_wp2
    go_ret
    exact ⟨_, rfl, hfin'.out nn os⟩
end Seq
end Go.Proofs.Ytfbfknmnkcddpaa
namespace Go.Proofs.Ytfbfknmnkcddpaa
open Go.RowKit
set_option linter.unusedVariables false
namespace Cal
theorem int_eq {a b : Int} (h : a = b) : Value.int .i64 a = .int .i64 b := by rw [h]
theorem srt_has (zs : List Int) (d : Int) : (Seq.srt zs).contains d = zs.contains d := by
  rw [Bool.eq_iff_iff]; simp [Seq.srt, List.mem_mergeSort]
theorem srt_len (zs : List Int) : (Seq.srt zs).length = zs.length := by simp [Seq.srt]
theorem srt_sorted (zs : List Int) : (Seq.srt zs).Pairwise (· ≤ ·) := by
  have := List.pairwise_mergeSort (le := fun x y : Int => decide (x ≤ y)) (fun a b c h1 h2 => by simp at *; omega) (fun a b => by simp; omega) zs
  exact this.imp (by simp)
/-- The sorted slice, to search in. -/
def Sorted (W : World) (v : Value) (zs : List Int) : Prop := (v = .slice none 0 0 ∧ zs = []) ∨ ∃ g cap, v = .slice (some ⟨g, 0, none⟩) zs.length cap ∧ g < W.heap.size ∧ ∀ j, j < zs.length → W.cell? ⟨g, j, none⟩ = some (.int .i64 ((Seq.srt zs).getD j 0))
theorem sorted_of_row {W : World} {b : Nat} {t : TypeId} {v : Value} {zs : List Int} (h : W.ownsRow b t 1 v zs.length ((Seq.srt zs).map (Value.int .i64))) : Sorted W v zs := by
  obtain ⟨hl, h⟩ := h
  rcases h with ⟨rfl, hz⟩ | ⟨g, cap, cur, rfl, _, hg, _, _, _, ht⟩
  · exact .inl ⟨rfl, List.eq_nil_of_length_eq_zero hz⟩
  · refine .inr ⟨g, cap, rfl, (Array.getElem?_eq_some_iff.1 hg).1, fun j hj => ?_⟩
    rw [cell_of_row _ _ _ _ _ _ hg]
    have e : (cur.toList.take (zs.length * 1))[j]? = some (.int .i64 ((Seq.srt zs).getD j 0)) := by
      rw [ht, List.getElem?_map]
      rw [List.getD_eq_getElem?_getD, List.getElem?_eq_getElem (by rw [srt_len]; exact hj)]; rfl
    rw [List.getElem?_take, if_pos (by omega)] at e
    simpa using e
theorem search_any (v : Value) (zs : List Int) (d : Int) (hlen : zs.length ≤ 400) (W : World) (h : Sorted W v zs) :
    Calls Try.prog 13 #[v, .int .i64 d] W fun e W' => ∃ p : Int, e = .returned (.tuple #[.int .i64 p, .bool (zs.contains d)]) ∧ ∃ q, W' = W.drewN q := by
  rcases h with ⟨rfl, rfl⟩ | ⟨g, cap, rfl, _, hc⟩
  · exact (Try.slices_BinarySearch_int_empty none 0 d W).mono fun e W' ⟨h1, h2⟩ => ⟨0, h1, 0, h2⟩
  · have hs := Try.slices_BinarySearch_int g 0 zs.length cap (Seq.srt zs) d W (by rw [srt_len]; omega) (by omega) (fun j hj => by rw [Nat.zero_add]; exact hc j (by rw [srt_len] at hj; exact hj)) (by rw [List.take_of_length_le (by rw [srt_len]; omega)]; exact srt_sorted zs)
    rw [List.take_of_length_le (by rw [srt_len]; omega), srt_has] at hs
    exact hs.mono fun e W' ⟨h1, h2⟩ => ⟨_, h1, h2⟩
theorem Sorted.later {W W' : World} {v : Value} {zs : List Int} (h : Sorted W v zs) (hb : Below W.heap.size W W') : Sorted W' v zs := by
  rcases h with h | ⟨g, cap, rfl, hg, hc⟩
  · exact .inl h
  · exact .inr ⟨g, cap, rfl, Nat.lt_of_lt_of_le hg hb.size, fun j hj => (hb.cell (p := ⟨g, j, none⟩) hg).trans (hc j hj)⟩
theorem below_drewN {B : Nat} {a w : World} (h : Below B a w) (n : Nat) : Below B a (w.drewN n) := ⟨h.os, h.tape, h.output, h.size, h.block⟩

set_option maxRecDepth 100000 in
set_option maxHeartbeats 1600000 in
theorem working_in (a b : Int) (zs : List Int) (ad : Option Addr) (cap : Nat) (w : World) (h1 : 0 ≤ a) (h2 : a ≤ b) (h3 : b ≤ 36865) (hn : zs.length ≤ 400) (hz : Seq.Ints w.heap.size w ad zs) :
    Calls Try.prog 7 #[.int .i64 a, .int .i64 b, .slice ad zs.length cap] w fun e w' => e = .returned (.tuple #[.int .i64 (wks zs a (b - a).toNat), .int .i64 0]) ∧ Below w.heap.size w w' := by
  obtain ⟨m, hm⟩ : ∃ m, (b - a).toNat = m := ⟨_, rfl⟩
  rw [hm]
  have hm2 : b = a + m := by omega
  have hm' := Lib.hid hm2
  have hm3 : a + (m : Int) ≤ 36865 := by omega
  have hsort := Lib.hid (Seq.sorted_any ad cap w.heap.size zs (by omega) (w.alloc (.cells #[.slice ad zs.length cap] 23)) (by simp) (by rw [cell_of_row _ _ _ _ _ _ (heap_alloc_new w (.cells #[.slice ad zs.length cap] 23))]; rfl) (by
    have hb := (Below.refl w.heap.size w).alloc (Nat.le_refl _) (.cells #[.slice ad zs.length cap] 23)
    rcases hz.below hb with h | ⟨x, o, hx, hlt, hc⟩
    · exact .inl h
    · exact .inr ⟨x, o, hx, by simp; omega, hc⟩))
  clear hm hm2 hz
  go_enter Try.func7, Try.ntmps7
  go_wp2_with fail
  refine (Seq.values_any _ _ _ _).mono ?_
  rintro e w1 ⟨rfl, rfl⟩
  go_wp2_with fail
  refine hsort.out.mono ?_
  rintro e w2 ⟨v, rfl, hrow, hb⟩
  have hS := Lib.hid (sorted_of_row hrow)
  have hB := Lib.hid (((Below.refl _ w).alloc (Nat.le_refl _) (.cells #[.slice ad zs.length cap] 23)).trans (hb.mono (by simp)))
  clear hrow hb hsort
  go_wp2_with fail
  go_loopw [9, 10] (fun n d wr => ∃ k : Nat, k ≤ m ∧ n = .int .i64 (wks zs a k) ∧ d = .int .i64 (a + k) ∧ Below w2.heap.size w2 wr) (fun _ d _ => m - (intOf d - a).toNat)
  case atStart => exact ⟨0, by omega, rfl, int_eq (by omega), Below.refl _ _⟩
  case round =>
    obtain ⟨k, hk, rfl, rfl, hbr⟩ := hrel
    have hwb := wks_bd zs a k
    have hbb := hm'.out
    by_cases hlt : k < m
    · have hl2 : a + (k : Int) < b := by omega
      have hs := Lib.hid (show wks zs a (k + 1) = wks zs a k + if wk zs (a + k) then 1 else 0 from rfl)
      have hsr := Lib.hid (search_any v zs (a + k) hn wr (hS.out.later hbr))
      have hbr' := Lib.hid hbr
      clear hbb hbr
      go_wp2_with fail
      refine hsr.out.mono ?_
      rintro e w3 ⟨q0, rfl, q, rfl⟩
      have hd : wk zs (a + k) = (decide ((a + (k : Int)) % 7 < 5) && !zs.contains (a + k)) := rfl
      have hd' := Lib.hid hd
      clear hd hsr
      obtain ⟨c, hc⟩ : ∃ c, zs.contains (a + (k : Int)) = c := ⟨_, rfl⟩
      rw [hc]
      have hc' := Lib.hid hc
      clear hc
      cases c
      · by_cases h5 : (a + (k : Int)) % 7 < 5
        · have hnew := Lib.hid (show wks zs a (k + 1) = wks zs a k + 1 by rw [hs.out, hd'.out, hc'.out, decide_eq_true h5]; rfl)
          go_wp2
          go_roundw
          case rel => exact ⟨k + 1, by omega, int_eq hnew.out.symm, int_eq (by omega), below_drewN hbr'.out _⟩
          case measure => simp [intOf]; omega
        · have hnew := Lib.hid (show wks zs a (k + 1) = wks zs a k by rw [hs.out, hd'.out, hc'.out, decide_eq_false h5]; simp)
          go_wp2
          go_roundw
          case rel => exact ⟨k + 1, by omega, int_eq hnew.out.symm, int_eq (by omega), below_drewN hbr'.out _⟩
          case measure => simp [intOf]; omega
      · have hnew := Lib.hid (show wks zs a (k + 1) = wks zs a k by rw [hs.out, hd'.out, hc'.out]; simp)
        go_wp2
        go_roundw
        case rel => exact ⟨k + 1, by omega, int_eq hnew.out.symm, int_eq (by omega), below_drewN hbr'.out _⟩
        case measure => simp [intOf]; omega
    · have hkm : k = m := by omega
      have hl2 : ¬ a + (k : Int) < b := by omega
      have hfin := Lib.hid (hB.out.trans (hbr.mono hB.out.size))
      clear hbb hbr
      subst hkm
      go_wp2
      go_ret2
      exact ⟨rfl, hfin.out⟩
end Cal
end Go.Proofs.Ytfbfknmnkcddpaa
namespace Go.Proofs.Ytfbfknmnkcddpaa
open Go.RowKit
set_option linter.unusedVariables false
namespace Cal
theorem ret_bool {a b : Bool} (h : a = b) : Ending.returned (.bool a) = .returned (.bool b) := by rw [h]

set_option maxHeartbeats 800000 in
theorem working_any (a b : Int) (zs : List Int) (ad : Option Addr) (cap : Nat) (w : World) (hmax : zs.length ≤ 9223372036854775807) (hz : Seq.Ints w.heap.size w ad zs) :
    Calls Try.prog 7 #[.int .i64 a, .int .i64 b, .slice ad zs.length cap] w fun e w' => e = .returned (.tuple #[.int .i64 (wkV zs a b), .int .i64 (wkE a b zs.length)]) ∧ Below w.heap.size w w' := by
  by_cases hE : wkE a b zs.length = 0
  · have hc : 0 ≤ a ∧ a ≤ b ∧ b ≤ 36865 ∧ zs.length ≤ 400 := by
      unfold wkE at hE
      split at hE
      · omega
      · split at hE <;> omega
    have hV : wkV zs a b = wks zs a (b - a).toNat := by unfold wkV; rw [if_pos hE]
    rw [hV, hE]
    exact working_in a b zs ad cap w hc.1 hc.2.1 hc.2.2.1 hc.2.2.2 hz
  · have hV : wkV zs a b = 0 := by unfold wkV; rw [if_neg hE]
    rw [hV]
    obtain ⟨n, hn⟩ : ∃ n, zs.length = n := ⟨_, rfl⟩
    rw [hn] at hE hmax ⊢
    clear hn hz hV
    have hcase : (a < 0 ∧ wkE a b n = 9) ∨ (0 ≤ a ∧ b < a ∧ wkE a b n = 9) ∨ (0 ≤ a ∧ a ≤ b ∧ 36865 < b ∧ wkE a b n = 9) ∨ (0 ≤ a ∧ a ≤ b ∧ b ≤ 36865 ∧ 400 < n ∧ wkE a b n = 1) := by
      unfold wkE at hE ⊢
      split
      · omega
      · rename_i h1
        rw [if_neg h1] at hE
        split
        · omega
        · rename_i h2; rw [if_neg h2] at hE; exact absurd rfl hE
    clear hE
    rcases hcase with ⟨h, e⟩ | ⟨h, h1, e⟩ | ⟨h, h1, h2, e⟩ | ⟨h, h1, h2, h3, e⟩
    all_goals
      rw [e]
      clear e
      go_enter Try.func7, Try.ntmps7
      go_wp2
      go_ret2
      exact ⟨rfl, Below.refl _ _⟩

set_option maxHeartbeats 800000 in
theorem has_any (zs : List Int) (ad : Option Addr) (cap : Nat) (d : Int) (w : World) (hmax : zs.length ≤ 9223372036854775807) (hz : Seq.Ints w.heap.size w ad zs) :
    Calls Try.prog 8 #[.slice ad zs.length cap, .int .i64 d] w fun e w' => e = .returned (.bool (zs.contains d)) ∧ w = w' := by
  rcases hz with rfl | ⟨bl, off, rfl, hbl, hc⟩
  · go_enter Try.func8, Try.ntmps8
    go_wp2
    refine wp_loop_rounds 1 ?_
    rw [rounds_succ]
    go_wp2
    go_ret
    exact ⟨rfl, rfl⟩
  · obtain ⟨n, hn⟩ : ∃ n, n = zs.length := ⟨_, rfl⟩
    have hn' := Lib.hid hn
    have hcl := Lib.hid (show ∀ j, j < n → w.cell? ⟨bl, off + j, none⟩ = some (.int .i64 (zs[j]?.getD 0)) from fun j hj => hc j (hn ▸ hj))
    rw [← hn] at hmax ⊢
    have hfin := Lib.hid (show zs.contains d = (zs.take n).contains d by rw [hn, List.take_length])
    obtain ⟨c, hcc⟩ : ∃ c, zs.contains d = c := ⟨_, rfl⟩
    rw [hcc]
    have hcc' := Lib.hid hcc
    clear hcc hc hn
    go_enter Try.func8, Try.ntmps8
    go_wp2
    go_loop [9] (fun i => ∃ k : Nat, k ≤ n ∧ i = .int .i64 k ∧ (zs.take k).contains d = false) (fun i => n - (intOf i).toNat)
    case atStart => exact ⟨0, by omega, rfl, by simp⟩
    case round =>
      obtain ⟨k, hk, rfl, hno⟩ := hrel
      have hno' := Lib.hid hno
      clear hno
      by_cases hlt : k < n
      · have hcell := hcl.out k hlt
        have hmem := Lib.hid (show zs.take (k + 1) = zs.take k ++ [zs[k]?.getD 0] by
          have := hn'.out
          rw [List.take_succ_eq_append_getElem (by omega), List.getElem?_eq_getElem (by omega)]; rfl)
        obtain ⟨z, hzz⟩ : ∃ z, zs[k]?.getD 0 = z := ⟨_, rfl⟩
        rw [hzz] at hcell hmem
        clear hzz
        by_cases hd : z = d
        · have hyes := Lib.hid (show c = true by
            rw [← hcc'.out, List.contains_iff_mem]
            have : z ∈ zs.take (k + 1) := by rw [hmem.out]; simp
            exact hd ▸ List.mem_of_mem_take this)
          have hb : (z == d) = true := beq_iff_eq.2 hd
          clear hd
          go_wp2
          go_ret
          exact ⟨ret_bool hyes.out.symm, rfl⟩
        · have hb : (z == d) = false := beq_eq_false_iff_ne.2 hd
          have hnext := Lib.hid (show (zs.take (k + 1)).contains d = false by
            rw [hmem.out, Bool.eq_false_iff]
            intro h
            rw [List.contains_iff_mem, List.mem_append] at h
            rcases h with h | h
            · have := hno'.out; rw [Bool.eq_false_iff] at this; exact this (List.contains_iff_mem.2 h)
            · simp at h; exact hd h.symm)
          clear hd
          go_wp2
          go_round
          case rel => exact ⟨k + 1, by omega, by go_num, hnext.out⟩
          case measure => simp [intOf]; omega
      · have hkn : k = n := by omega
        have hno2 := Lib.hid (show c = false by rw [← hcc'.out, hfin.out, ← hkn]; exact hno'.out)
        have hl2 : ¬ k < n := by omega
        clear hkn
        go_wp2
        go_ret
        exact ⟨ret_bool hno2.out.symm, rfl⟩

set_option maxRecDepth 100000 in
set_option maxHeartbeats 1600000 in
theorem rworking_in (a b : Int) (zs : List Int) (ad : Option Addr) (cap : Nat) (w : World) (h1 : 0 ≤ a) (h2 : a ≤ b) (h3 : b ≤ 36865) (hn : zs.length ≤ 400) (hz : Seq.Ints w.heap.size w ad zs) :
    Calls Try.prog 5 #[.int .i64 a, .int .i64 b, .slice ad zs.length cap] w fun e w' => e = .returned (.tuple #[.int .i64 (wks zs a (b - a).toNat), .int .i64 0]) ∧ Below w.heap.size w w' := by
  obtain ⟨m, hm⟩ : ∃ m, (b - a).toNat = m := ⟨_, rfl⟩
  rw [hm]
  have hm2 : b = a + m := by omega
  have hm' := Lib.hid hm2
  have hm3 : a + (m : Int) ≤ 36865 := by omega
  have hhas := Lib.hid (fun d => has_any zs ad cap d w (by omega) hz)
  clear hm hm2 hz
  go_enter Try.func5, Try.ntmps5
  go_wp2_with fail
  go_loop [8, 9] (fun n d => ∃ k : Nat, k ≤ m ∧ n = .int .i64 (wks zs a k) ∧ d = .int .i64 (a + k)) (fun _ d => m - (intOf d - a).toNat)
  case atStart => exact ⟨0, by omega, rfl, int_eq (by omega)⟩
  case round =>
    obtain ⟨k, hk, rfl, rfl⟩ := hrel
    have hwb := wks_bd zs a k
    have hbb := hm'.out
    by_cases hlt : k < m
    · have hl2 : a + (k : Int) < b := by omega
      have hs := Lib.hid (show wks zs a (k + 1) = wks zs a k + if wk zs (a + k) then 1 else 0 from rfl)
      have hd' := Lib.hid (show wk zs (a + k) = (decide ((a + (k : Int)) % 7 < 5) && !zs.contains (a + k)) from rfl)
      clear hbb
      by_cases h5 : (a + (k : Int)) % 7 < 5
      · go_wp2_with fail
        refine (hhas.out _).mono ?_
        rintro e w3 ⟨rfl, rfl⟩
        obtain ⟨c, hc⟩ : ∃ c, zs.contains (a + (k : Int)) = c := ⟨_, rfl⟩
        rw [hc]
        have hc' := Lib.hid hc
        clear hc
        cases c
        · have hnew := Lib.hid (show wks zs a (k + 1) = wks zs a k + 1 by rw [hs.out, hd'.out, hc'.out, decide_eq_true h5]; rfl)
          go_wp2
          go_round
          case rel => exact ⟨k + 1, by omega, int_eq hnew.out.symm, int_eq (by omega)⟩
          case measure => simp [intOf]; omega
        · have hnew := Lib.hid (show wks zs a (k + 1) = wks zs a k by rw [hs.out, hd'.out, hc'.out]; simp)
          go_wp2
          go_round
          case rel => exact ⟨k + 1, by omega, int_eq hnew.out.symm, int_eq (by omega)⟩
          case measure => simp [intOf]; omega
      · have hnew := Lib.hid (show wks zs a (k + 1) = wks zs a k by rw [hs.out, hd'.out, decide_eq_false h5]; simp)
        go_wp2
        go_round
        case rel => exact ⟨k + 1, by omega, int_eq hnew.out.symm, int_eq (by omega)⟩
        case measure => simp [intOf]; omega
    · have hkm : k = m := by omega
      have hl2 : ¬ a + (k : Int) < b := by omega
      clear hbb
      subst hkm
      go_wp2
      go_ret2
      exact ⟨rfl, Below.refl _ _⟩

set_option maxHeartbeats 800000 in
theorem rworking_any (a b : Int) (zs : List Int) (ad : Option Addr) (cap : Nat) (w : World) (hmax : zs.length ≤ 9223372036854775807) (hz : Seq.Ints w.heap.size w ad zs) :
    Calls Try.prog 5 #[.int .i64 a, .int .i64 b, .slice ad zs.length cap] w fun e w' => e = .returned (.tuple #[.int .i64 (wkV zs a b), .int .i64 (wkE a b zs.length)]) ∧ Below w.heap.size w w' := by
  by_cases hE : wkE a b zs.length = 0
  · have hc : 0 ≤ a ∧ a ≤ b ∧ b ≤ 36865 ∧ zs.length ≤ 400 := by
      unfold wkE at hE
      split at hE
      · omega
      · split at hE <;> omega
    have hV : wkV zs a b = wks zs a (b - a).toNat := by unfold wkV; rw [if_pos hE]
    rw [hV, hE]
    exact rworking_in a b zs ad cap w hc.1 hc.2.1 hc.2.2.1 hc.2.2.2 hz
  · have hV : wkV zs a b = 0 := by unfold wkV; rw [if_neg hE]
    rw [hV]
    obtain ⟨n, hn⟩ : ∃ n, zs.length = n := ⟨_, rfl⟩
    rw [hn] at hE hmax ⊢
    clear hn hz hV
    have hcase : (a < 0 ∧ wkE a b n = 9) ∨ (0 ≤ a ∧ b < a ∧ wkE a b n = 9) ∨ (0 ≤ a ∧ a ≤ b ∧ 36865 < b ∧ wkE a b n = 9) ∨ (0 ≤ a ∧ a ≤ b ∧ b ≤ 36865 ∧ 400 < n ∧ wkE a b n = 1) := by
      unfold wkE at hE ⊢
      split
      · omega
      · rename_i h1
        rw [if_neg h1] at hE
        split
        · omega
        · rename_i h2; rw [if_neg h2] at hE; exact absurd rfl hE
    clear hE
    rcases hcase with ⟨h, e⟩ | ⟨h, h1, e⟩ | ⟨h, h1, h2, e⟩ | ⟨h, h1, h2, h3, e⟩
    all_goals
      rw [e]
      clear e
      go_enter Try.func5, Try.ntmps5
      go_wp2
      go_ret2
      exact ⟨rfl, Below.refl _ _⟩

end Cal
end Go.Proofs.Ytfbfknmnkcddpaa
set_option linter.unusedVariables false
set_option maxRecDepth 100000
namespace Go.Proofs.Ytfbfknmnkcddpaa
open Go.RowKit
namespace RE
open PL
namespace PL
def workP (l : List Int) (a b n e : Int) : Prop := n = Cal.wkV l a b ∧ e = Cal.wkE a b l.length
end PL
theorem ints_of_rd {S : Cells} {w : World} {l : List Int} {u : Value} (hS : ∀ b o, S b o → b < w.heap.size) (h : Rd S w (.sl (.int .i64) l) u) : ∃ ad cap, u = .slice ad l.length cap ∧ l.length ≤ 9223372036854775807 ∧ Seq.Ints w.heap.size w ad l := by
  cases h with
  | sl _ _ ad cap b off f hc hm ha hx h =>
    refine ⟨ad, cap, rfl, Nat.le_trans hc (by unfold maxLen at hm; omega), ?_⟩
    by_cases hl : l = []
    · exact .inl hl
    · refine .inr ⟨b, off, ha.resolve_left hl, ?_, fun j hj => ?_⟩
      · obtain ⟨k1, _, _⟩ := hx 0 (List.length_pos_iff.2 hl) 0 (by decide)
        exact hS _ _ k1
      · obtain ⟨k1, k2, k3⟩ := hx j hj 0 (by decide)
        have hsz : off + j * size (.int .i64) + 0 = off + j := by show off + j * 1 + 0 = _; omega
        rw [hsz] at k2
        have := h j l[j] 0 _ (List.getElem?_eq_getElem hj) rfl
        have this : Rd S w (.v (.int .i64 l[j])) (f j 0) := this
        rw [rd_v this] at k2
        rw [k2, List.getElem?_eq_getElem hj]; rfl
/-- A contract of a function that looks at its arguments and hands back two integers. -/
theorem SpecOK.two {P : Program} {f : FuncId} {ts : List Ty} {pt : dens ts → (Int → Int → Prop) → Prop}
    (h : ∀ x post, pt x post → ∀ w (S : Cells) (us : List Value), (∀ b o, S b o → b < w.heap.size) → us.length = ts.length → (∀ (i : Nat) (d : D) (u : Value), (tvs ts x)[i]? = some d → us[i]? = some u → Rd S w d u) →
      Calls P f us.toArray w fun e w' => ∃ a b, e = .returned (.tuple #[.int .i64 a, .int .i64 b]) ∧ post a b ∧ Below w.heap.size w w') :
    SpecOK P ⟨f, false, false, ts, .tup [.dat (.int .i64), .dat (.int .i64)], fun x post => pt x fun a b => post (a, b, ())⟩ := by
  intro x post hp w S T us hS hT hl hr
  have hT : T = none := hT
  subst hT
  refine (h x _ hp w S us hS hl hr).mono ?_
  rintro e w' ⟨a, b, rfl, hq, hb⟩
  refine ⟨_, (a, b, ()), cx0 S none, rfl, hq, ?_, ?_, ?_⟩
  · exact ⟨fun b o h => Nat.lt_of_lt_of_le (hS b o h) hb.size, fun id x hx => (by cases hx), fun id x hx => (by cases hx), fun i j x y hx => (by cases hx), fun T hT' => (by cases hT'), fun h => (by cases h), fun _ => rfl⟩
  · exact ⟨hb.os, hb.tape, hb.output, hb.size, fun _ h => h, fun _ h => .inl h, fun _ h => h, fun _ _ => ⟨rfl, rfl⟩, fun _ _ h => h, fun _ _ h => .inl h, fun k hk _ _ => hb.block k hk, fun _ h => .inl h⟩
  · refine .tup [.d (.v (.int .i64 a)), .d (.v (.int .i64 b))] [.int .i64 a, .int .i64 b] rfl fun i s u hs hu => ?_
    match i, hs, hu with
    | 0, hs, hu => cases hs; cases hu; exact v_srel _
    | 1, hs, hu => cases hs; cases hu; exact v_srel _
    | i + 2, hs, hu => cases hs
theorem three_args {S : Cells} {w : World} {a b : Int} {l : List Int} {us : List Value} (hl : us.length = 3) (hr : ∀ (i : Nat) (d : D) (u : Value), (tvs [.int .i64, .int .i64, .sl (.int .i64)] (a, b, l, ()))[i]? = some d → us[i]? = some u → Rd S w d u) : ∃ u, us = [.int .i64 a, .int .i64 b, u] ∧ Rd S w (.sl (.int .i64) l) u := by
  match us, hl with
  | [x, y, z], _ =>
    have h0 := hr 0 _ _ rfl rfl
    have h1 := hr 1 _ _ rfl rfl
    have h2 := hr 2 _ _ rfl rfl
    have h0 : Rd S w (.v (.int .i64 a)) x := h0
    have h1 : Rd S w (.v (.int .i64 b)) y := h1
    rw [rd_v h0, rd_v h1]
    exact ⟨z, rfl, h2⟩
def pwork_P (a : Int) (b : Int) (l : List (Int)) (post : Int → Int → Prop) : Prop := ∀ n e : Int, workP l a b n e → post n e
def pwork_sp : Spec := ⟨7, false, false, [.int .i64, .int .i64, .sl (.int .i64)], .tup [.dat (.int .i64), .dat (.int .i64)], fun x post => pwork_P (x.1 : Int) (x.2.1 : Int) (x.2.2.1 : List (Int)) (fun y0 y1 => post (y0, y1, ()))⟩
theorem pwork_ok : SpecOK Try.prog pwork_sp := SpecOK.two (ts := [.int .i64, .int .i64, .sl (.int .i64)]) (pt := fun x post => pwork_P x.1 x.2.1 x.2.2.1 post) fun x post hp w S us hS hl hr => by
  obtain ⟨a, b, l, ⟨⟩⟩ := x
  obtain ⟨u, rfl, hu⟩ := three_args hl hr
  obtain ⟨ad, cap, rfl, hm, hz⟩ := ints_of_rd hS hu
  exact (Cal.working_any a b l ad cap w hm hz).mono fun e w' ⟨he, hb⟩ => ⟨_, _, he, hp _ _ ⟨rfl, rfl⟩, hb⟩
def rwork_P (a : Int) (b : Int) (l : List (Int)) (post : Int → Int → Prop) : Prop := ∀ n e : Int, workP l a b n e → post n e
def rwork_sp : Spec := ⟨5, false, false, [.int .i64, .int .i64, .sl (.int .i64)], .tup [.dat (.int .i64), .dat (.int .i64)], fun x post => rwork_P (x.1 : Int) (x.2.1 : Int) (x.2.2.1 : List (Int)) (fun y0 y1 => post (y0, y1, ()))⟩
theorem rwork_ok : SpecOK Try.prog rwork_sp := SpecOK.two (ts := [.int .i64, .int .i64, .sl (.int .i64)]) (pt := fun x post => rwork_P x.1 x.2.1 x.2.2.1 post) fun x post hp w S us hS hl hr => by
  obtain ⟨a, b, l, ⟨⟩⟩ := x
  obtain ⟨u, rfl, hu⟩ := three_args hl hr
  obtain ⟨ad, cap, rfl, hm, hz⟩ := ints_of_rd hS hu
  exact (Cal.rworking_any a b l ad cap w hm hz).mono fun e w' ⟨he, hb⟩ => ⟨_, _, he, hp _ _ ⟨rfl, rfl⟩, hb⟩
end RE
end Go.Proofs.Ytfbfknmnkcddpaa
