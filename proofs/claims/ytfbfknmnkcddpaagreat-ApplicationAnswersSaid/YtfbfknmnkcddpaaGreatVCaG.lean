/-
  Plain mathematics for chapter 3: days, windows, working days. No program in sight.
-/
import Derived.RangeFuncNested
import Derived.RangeFuncBound
import Derived.RangeFuncCalls
import Derived.RangeFuncLeaves
import Derived.RangeFuncBox
import Derived.Shelf.Abstract
import Derived.Shelf.RegionOpen
import Derived.WalkKit
import Derived.OwnWalkIn
import Derived.TacticsInMore
import Derived.LoopNIn
import Derived.LoopIn
import Derived.Maps.AppendAt
import Derived.Test.YtfbfknmnkcddpaaGreatRows
import Derived.RangeFuncWrites
import Derived.Test.YtfbfknmnkcddpaaGreatVReg
import Derived.Shelf.SlIterI.Sorted
import Derived.Lib.Hide
import Derived.Test.YtfbfknmnkcddpaaGreatVEngC
import Derived.Test.YtfbfknmnkcddpaaGreatVPlain
import Derived.Test.YtfbfknmnkcddpaaGreatVInG
import Derived.Test.YtfbfknmnkcddpaaGreatVTape
namespace Go.Proofs.YtfbfknmnkcddpaaGreat
namespace Cal

def isD (d : Int) : Bool := decide (0 ≤ d) && decide (d ≤ 36864)
def vld (f u : Int) : Bool := decide (0 ≤ f) && decide (f < 365) && decide (0 ≤ u) && decide (u < 365)
/-- Whether a place of a year is in a window. -/
def pin (f u p : Int) : Bool := if u < f then decide (f ≤ p) || decide (p ≤ u) else decide (f ≤ p) && decide (p ≤ u)
def inn (f u d : Int) : Bool := isD d && vld f u && pin f u (d % 365)
/-- The first day of n from d on that is in a window. -/
def nx (f u : Int) : Nat → Int → Int × Bool
  | 0, _ => (0, false)
  | n + 1, d => if isD d then (if inn f u d then (d, true) else nx f u n (d + 1)) else (0, false)
theorem nx_succ (f u : Int) (n : Nat) (d : Int) : nx f u (n + 1) d = if isD d then (if inn f u d then (d, true) else nx f u n (d + 1)) else (0, false) := rfl
def nxt (f u d : Int) : Int × Bool := if vld f u then nx f u 365 d else (0, false)
def dys (f u : Int) : Int := if vld f u then (if u < f then 365 - f + u + 1 else u - f + 1) else 0
/-- How many of the first k places are in a window. -/
def cnt (f u : Int) : Nat → Int
  | 0 => 0
  | k + 1 => cnt f u k + if inn f u k then 1 else 0

theorem isD_iff (d : Int) : isD d = true ↔ 0 ≤ d ∧ d ≤ 36864 := by simp [isD]
theorem isD_not (d : Int) : isD d = false ↔ ¬ (0 ≤ d ∧ d ≤ 36864) := by rw [← isD_iff]; simp
theorem vld_iff (f u : Int) : vld f u = true ↔ 0 ≤ f ∧ f < 365 ∧ 0 ≤ u ∧ u < 365 := by simp [vld]; omega
theorem vld_not (f u : Int) : vld f u = false ↔ ¬ (0 ≤ f ∧ f < 365 ∧ 0 ≤ u ∧ u < 365) := by rw [← vld_iff]; simp
theorem inn_day (f u d : Int) (h : isD d = false) : inn f u d = false := by unfold inn; rw [h]; rfl
theorem inn_win (f u d : Int) (h : vld f u = false) : inn f u d = false := by unfold inn; rw [h]; simp
theorem inn_yes (f u d : Int) (h : isD d = true) (h2 : vld f u = true) : inn f u d = pin f u (d % 365) := by unfold inn; rw [h, h2]; rfl
theorem nx_off (f u : Int) (n : Nat) (d : Int) (h : isD d = false) : nx f u n d = (0, false) := by
  cases n with
  | zero => rfl
  | succ n => rw [nx, h]; rfl
theorem nx_win (f u : Int) (h : vld f u = false) : ∀ n d, nx f u n d = (0, false)
  | 0, _ => rfl
  | n + 1, d => by rw [nx, inn_win f u d h, nx_win f u h n (d + 1)]; simp
/-- Not found in n days: none of them is in the window. -/
theorem nx_none (f u : Int) : ∀ n d, 0 ≤ d → (nx f u n d).2 = false → ∀ j : Int, 0 ≤ j → j < n → inn f u (d + j) = false
  | 0, d, _, _, j, h0, h1 => by omega
  | n + 1, d, hd0, h, j, h0, h1 => by
    cases hd : isD d
    · rw [isD_not] at hd
      exact inn_day _ _ _ ((isD_not _).2 (by omega))
    · rw [nx, hd, if_pos rfl] at h
      cases hi : inn f u d
      · rw [hi] at h
        by_cases hj : j = 0
        · rw [hj, Int.add_zero]; exact hi
        · have := nx_none f u n (d + 1) (by omega) (by simpa using h) (j - 1) (by omega) (by omega)
          rwa [show d + 1 + (j - 1) = d + j by omega] at this
      · rw [hi] at h; simp at h
/-- Found: it is in the window, and a day from d on, within n. -/
theorem nx_found (f u : Int) : ∀ n d, (nx f u n d).2 = true → d ≤ (nx f u n d).1 ∧ (nx f u n d).1 < d + n ∧ inn f u (nx f u n d).1 = true ∧ ((nx f u n d).1 = d ∨ inn f u d = false)
  | 0, d, h => by simp [nx] at h
  | n + 1, d, h => by
    cases hd : isD d
    · rw [nx, hd] at h; simp at h
    · cases hi : inn f u d
      · have e : nx f u (n + 1) d = nx f u n (d + 1) := by rw [nx, hd, hi]; simp
        rw [e] at h ⊢
        have := nx_found f u n (d + 1) h
        exact ⟨by omega, by omega, this.2.2.1, .inr rfl⟩
      · have e : nx f u (n + 1) d = (d, true) := by rw [nx, hd, hi]; simp
        rw [e]
        exact ⟨Int.le_refl _, by simp; omega, hi, .inl rfl⟩
theorem nx_zero (f u : Int) : ∀ n d, (nx f u n d).2 = false → (nx f u n d).1 = 0
  | 0, _, _ => rfl
  | n + 1, d, h => by
    rw [nx] at h ⊢
    split
    · rename_i hd
      rw [if_pos hd] at h
      split
      · rename_i hi; rw [if_pos hi] at h; cases h
      · rename_i hi; rw [if_neg hi] at h; exact nx_zero f u n (d + 1) h
    · rfl
theorem nx_more (f u : Int) : ∀ n d, (nx f u n d).2 = true → nx f u (n + 1) d = nx f u n d
  | 0, d, h => by simp [nx] at h
  | n + 1, d, h => by
    rw [nx_succ] at h
    rw [nx_succ f u (n + 1) d, nx_succ f u n d]
    split
    · rename_i hd
      rw [if_pos hd] at h
      split
      · rfl
      · rename_i hi; rw [if_neg hi] at h; exact nx_more f u n (d + 1) h
    · rfl
theorem nx_end (f u : Int) : ∀ (n : Nat) d, (nx f u n d).2 = false → inn f u (d + n) = false → nx f u (n + 1) d = (0, false)
  | 0, d, _, h => by
    rw [show d + ((0 : Nat) : Int) = d by omega] at h
    rw [nx]
    split
    · rw [h]; rfl
    · rfl
  | n + 1, d, h1, h2 => by
    rw [nx] at h1
    rw [nx]
    split
    · rename_i hd
      rw [if_pos hd] at h1
      split
      · rename_i hi; rw [if_pos hi] at h1; cases h1
      · rename_i hi
        rw [if_neg hi] at h1
        exact nx_end f u n (d + 1) h1 (by rw [show d + 1 + (n : Int) = d + ((n + 1 : Nat) : Int) by omega]; exact h2)
    · rfl
/-- A year of days is enough. -/
theorem nx_year (f u d : Int) (h0 : 0 ≤ d) : nx f u 366 d = nx f u 365 d := by
  cases h : (nx f u 365 d).2
  · have h1 := nx_none f u 365 d h0 h 0 (by omega) (by omega)
    rw [Int.add_zero] at h1
    have h2 : inn f u (d + (365 : Nat)) = false := by
      cases hd : isD (d + (365 : Nat))
      · exact inn_day _ _ _ hd
      · cases hv : vld f u
        · exact inn_win _ _ _ hv
        · rw [inn_yes _ _ _ hd hv]
          rw [isD_iff] at hd
          rw [inn_yes _ _ _ ((isD_iff d).2 (by omega)) hv] at h1
          rw [show (d + (365 : Nat)) % 365 = d % 365 by omega]
          exact h1
    rw [nx_end f u 365 d h h2]
    have := nx_zero f u 365 d h
    generalize nx f u 365 d = q at *
    obtain ⟨a, b⟩ := q
    simp at this h
    rw [this, h]
  · exact nx_more f u 365 d h

theorem cnt_lin (f u : Int) (h : vld f u = true) (hle : ¬ u < f) : ∀ k : Nat, k ≤ 365 → cnt f u k = max 0 (min (k : Int) (u + 1) - f)
  | 0, _ => by have := (vld_iff f u).1 h; simp [cnt]; omega
  | k + 1, hk => by
    have hv := (vld_iff f u).1 h
    rw [cnt, cnt_lin f u h hle k (by omega), inn_yes f u k ((isD_iff _).2 (by omega)) h]
    unfold pin
    rw [if_neg hle, show ((k : Int)) % 365 = k by omega]
    split
    · rename_i hp; simp at hp; omega
    · rename_i hp; simp at hp; omega
theorem cnt_wrap (f u : Int) (h : vld f u = true) (hlt : u < f) : ∀ k : Nat, k ≤ 365 → cnt f u k = min (k : Int) (u + 1) + max 0 ((k : Int) - f)
  | 0, _ => by have := (vld_iff f u).1 h; simp [cnt]; omega
  | k + 1, hk => by
    have hv := (vld_iff f u).1 h
    rw [cnt, cnt_wrap f u h hlt k (by omega), inn_yes f u k ((isD_iff _).2 (by omega)) h]
    unfold pin
    rw [if_pos hlt, show ((k : Int)) % 365 = k by omega]
    split
    · rename_i hp; simp at hp; omega
    · rename_i hp; simp at hp; omega
theorem cnt_off (f u : Int) (h : vld f u = false) : ∀ k : Nat, cnt f u k = 0
  | 0 => rfl
  | k + 1 => by rw [cnt, cnt_off f u h k, inn_win _ _ _ h]; rfl
theorem cnt_year (f u : Int) : cnt f u 365 = dys f u := by
  unfold dys
  cases h : vld f u
  · rw [cnt_off f u h]; rfl
  · have hv := (vld_iff f u).1 h
    by_cases hlt : u < f
    · rw [cnt_wrap f u h hlt 365 (by omega), if_pos rfl, if_pos hlt]; omega
    · rw [cnt_lin f u h hlt 365 (by omega), if_pos rfl, if_neg hlt]; omega
theorem cnt_bd (f u : Int) : ∀ k : Nat, 0 ≤ cnt f u k ∧ cnt f u k ≤ k
  | 0 => by simp [cnt]
  | k + 1 => by
    have := cnt_bd f u k
    rw [cnt]; split <;> omega

/-! Working days. -/
def wk (l : List Int) (d : Int) : Bool := decide (d % 7 < 5) && !l.contains d
/-- How many of the k days from a on are working days. -/
def wks (l : List Int) (a : Int) : Nat → Int
  | 0 => 0
  | k + 1 => wks l a k + if wk l (a + k) then 1 else 0
def wkE (a b : Int) (n : Nat) : Int := if a < 0 ∨ b < a ∨ 36865 < b then 9 else if 400 < n then 1 else 0
def wkV (l : List Int) (a b : Int) : Int := if wkE a b l.length = 0 then wks l a (b - a).toNat else 0
theorem wks_bd (l : List Int) (a : Int) : ∀ k : Nat, 0 ≤ wks l a k ∧ wks l a k ≤ k
  | 0 => by simp [wks]
  | k + 1 => by
    have := wks_bd l a k
    rw [wks]; split <;> omega
theorem wks_add (l : List Int) (a : Int) : ∀ j k : Nat, wks l a (j + k) = wks l a j + wks l (a + j) k
  | j, 0 => by simp [wks]
  | j, k + 1 => by
    rw [← Nat.add_assoc, wks, wks_add l a j k, wks, show a + ((j + k : Nat) : Int) = a + j + k by omega]; omega
end Cal
end Go.Proofs.YtfbfknmnkcddpaaGreat
namespace Go.Proofs.YtfbfknmnkcddpaaGreat
open Go.RowKit Go.Shelf
set_option linter.unusedVariables false
attribute [local go_sem] Oper.semAt_some
namespace Seq
def upto {α : Type} (f : Nat → α) (k : Nat) : List α := (List.range k).map f
theorem upto_succ {α : Type} (f : Nat → α) (k : Nat) : upto f (k + 1) = upto f k ++ [f k] := by simp [upto, List.range_succ]
theorem upto_length {α : Type} (f : Nat → α) (k : Nat) : (upto f k).length = k := by simp [upto]
theorem upto_all (zs : List Int) : upto (fun j => zs[j]?.getD 0) zs.length = zs := by
  apply List.ext_getElem
  · simp [upto]
  · intro i h1 h2
    simp [upto, h2]
theorem upto_take (zs : List Int) {k : Nat} (hk : k ≤ zs.length) : upto (fun j => zs[j]?.getD 0) k = zs.take k := by
  apply List.ext_getElem
  · simp [upto, hk]
  · intro i h1 h2
    have : i < zs.length := by simp [upto] at h1; omega
    simp [upto, this]

set_option maxRecDepth 100000 in
set_option maxHeartbeats 2000000 in
theorem values1_in (F : Fence) (n : Nat) (h7 : F.fn 179) (hro : F.round = none) (hn : 1 ≤ n) (l Bs n₀ b off len cap : Nat) (zs : List Int) (hreach : len * 8 ≤ 140737488351232) (hb : b < n₀) (J Jx : List Int → World → Prop)
    (hY : ∀ pre x W, J pre W → pre.length < len → YieldAt F (n - 1) Tryz.prog l #[.int .i64 x] W fun e W' =>
      (e = .returned (.bool true) ∧ J (pre ++ [x]) W' ∧ Below n₀ W W') ∨ (e = .returned (.bool false) ∧ Jx (pre ++ [x]) W'))
    (W : World) (hBs : W.cell? ⟨Bs, 0, none⟩ = some (.slice (some ⟨b, off, none⟩) len cap)) (hc : ∀ j, j < len → W.cell? ⟨b, off + j, none⟩ = some (.int .i64 (zs[j]?.getD 0))) (h0 : J [] W) :
    CallsIn F n Tryz.prog 179 #[.func (.yield l) #[] #[], .pointer (some ⟨Bs, 0, none⟩)] W fun e W' => (∃ v, e = .returned v) ∧
      ((∃ ys, ys = upto (fun j => zs[j]?.getD 0) len ∧ J ys W') ∨ (∃ pre, (∃ k, k ≤ len ∧ pre = upto (fun j => zs[j]?.getD 0) k) ∧ Jx pre W')) := by
  refine callsIn_of_wp Tryz.func179 rfl h7 ?_ hro
  simp only [Tryz.ntmps179, List.size_toArray, List.length_cons, List.length_nil, Nat.reduceAdd, Nat.reduceSub, Array.replicate_succ, Array.replicate_zero, List.push_toArray, List.append_toArray, List.nil_append, List.cons_append]
  gi_wp2
  gi_loopw [7] (fun i wr => ∃ k : Nat, k ≤ len ∧ i = .int .i64 k ∧ J (upto (fun j => zs[j]?.getD 0) k) wr ∧ Below n₀ W wr)
    (fun i _ => len - (intOf i).toNat)
  case atStart => exact ⟨0, Nat.zero_le _, rfl, h0, Below.refl _ _⟩
  case round =>
    obtain ⟨k, hk, rfl, hJs, hnx⟩ := hrel
    have hcx : k < len → wr.cell? ⟨b, off + k, none⟩ = some (.int .i64 (zs[k]?.getD 0)) := fun h => (hnx.cell (p := ⟨b, off + k, none⟩) hb).trans (hc k h)
    by_cases hlt : k < len
    · obtain ⟨fn, tmps, assign, body, hy, hR⟩ := hY _ (zs[k]?.getD 0) wr hJs (by rw [upto_length]; exact hlt)
      have hcx' := hcx hlt
      gi_wp2
      refine hR.mono ?_
      rintro e W3 (⟨rfl, hJ3, hk3⟩ | ⟨rfl, hJx3⟩)
      · gi_wp2
        go_roundw
        case rel => exact ⟨k + 1, by omega, by simp, by rw [upto_succ]; exact hJ3, hnx.trans hk3⟩
        case measure => simp [intOf]; omega
      · gi_wp2
        refine bodyPost_ret (results_none rfl _ _ _) rfl ?_
        exact ⟨⟨_, rfl⟩, .inr ⟨_, ⟨k + 1, by omega, (upto_succ _ _).symm⟩, hJx3⟩⟩
    · obtain rfl : k = len := by omega
      gi_wp2
      go_end0
      exact ⟨⟨_, rfl⟩, .inl ⟨_, rfl, hJs⟩⟩

/-- The slice value sv holds the ints zs, in a block below n₀; or it is empty. -/
def Ints (n₀ : Nat) (W : World) (a : Option Addr) (zs : List Int) : Prop :=
  zs = [] ∨ ∃ b off, a = some ⟨b, off, none⟩ ∧ b < n₀ ∧ ∀ j, j < zs.length → W.cell? ⟨b, off + j, none⟩ = some (.int .i64 (zs[j]?.getD 0))
theorem Ints.below {n₀ : Nat} {A B : World} (h : Below n₀ A B) {a : Option Addr} {zs : List Int} : Ints n₀ A a zs → Ints n₀ B a zs
  | .inl e => .inl e
  | .inr ⟨b, off, e, hb, hc⟩ => .inr ⟨b, off, e, hb, fun j hj => (h.cell (p := ⟨b, off + j, none⟩) hb).trans (hc j hj)⟩

set_option maxRecDepth 100000 in
set_option maxHeartbeats 1000000 in
theorem values1_nil_in (F : Fence) (n : Nat) (h7 : F.fn 179) (hro : F.round = none) (l Bs : Nat) (a : Option Addr) (cap : Nat) (J : List Int → World → Prop) (W : World) (hBs : W.cell? ⟨Bs, 0, none⟩ = some (.slice a 0 cap)) (h0 : J [] W) :
    CallsIn F n Tryz.prog 179 #[.func (.yield l) #[] #[], .pointer (some ⟨Bs, 0, none⟩)] W fun e W' => (∃ v, e = .returned v) ∧ J [] W' := by
  refine callsIn_of_wp Tryz.func179 rfl h7 ?_ hro
  simp only [Tryz.ntmps179, List.size_toArray, List.length_cons, List.length_nil, Nat.reduceAdd, Nat.reduceSub, Array.replicate_succ, Array.replicate_zero, List.push_toArray, List.append_toArray, List.nil_append, List.cons_append]
  gi_wp2
  gi_loopw [7] (fun i wr => i = .int .i64 0 ∧ J [] wr) (fun _ _ => 0)
  case atStart => exact ⟨rfl, h0⟩
  case round =>
    obtain ⟨rfl, hJs⟩ := hrel
    gi_wp2
    go_end0
    exact ⟨⟨_, rfl⟩, hJs⟩
set_option maxHeartbeats 1000000 in
theorem values_in (F : Fence) (n : Nat) (h5 : F.fn 144) (hro : F.round = none) (a : Option Addr) (len cap : Nat) (w : World) :
    CallsIn F n Tryz.prog 144 #[.slice a len cap] w fun e w' => e = .returned (.func (.func 179) #[] #[.pointer (some ⟨w.heap.size, 0, none⟩)]) ∧ w' = w.alloc (.cells #[.slice a len cap] 22) := by
  refine callsIn_of_wp Tryz.func144 rfl h5 ?_ hro
  simp only [Tryz.ntmps144, List.size_toArray, List.length_cons, List.length_nil, Nat.reduceAdd, Nat.reduceSub, Array.replicate_succ, Array.replicate_zero, List.push_toArray, List.append_toArray, List.nil_append, List.cons_append]
  gi_wp2
  go_ret
  exact ⟨rfl, rfl⟩

theorem values_stops (F : Fence) (n : Nat) (h7 : F.fn 179) (hro : F.round = none) (hn : 1 ≤ n) (Bs n₀ : Nat) (a : Option Addr) (cap : Nat) (zs : List Int) (hreach : zs.length * 8 ≤ 140737488351232) (w : World) (hBs : Bs < w.heap.size) (hn₀ : n₀ ≤ w.heap.size)
    (hc : w.cell? ⟨Bs, 0, none⟩ = some (.slice a zs.length cap)) (hI : Ints n₀ w a zs) :
    SeqStopsK F n Tryz.prog 179 #[.pointer (some ⟨Bs, 0, none⟩)] (fun x : Int => #[Value.int .i64 x]) (Below n₀) (fun ys => ys = zs) (fun pre => pre <+: zs) zs.length w := fun l J Jx W hW _ _ hY h0 => by
  have hc' := (hW.cell (p := ⟨Bs, 0, none⟩) hBs).trans hc
  rcases hI.below (hW.mono hn₀) with rfl | ⟨b, off, rfl, hb, hcs⟩
  · exact (values1_nil_in F n h7 hro l Bs a cap J W hc' h0).mono fun e W' ⟨he, hj⟩ => ⟨he, .inl ⟨_, rfl, hj⟩⟩
  · refine (values1_in F n h7 hro hn l Bs n₀ b off zs.length cap zs hreach hb J Jx hY W hc' hcs h0).mono ?_
    rintro e W' ⟨he, ⟨ys, rfl, hj⟩ | ⟨pre, ⟨k, hk, rfl⟩, hj⟩⟩
    · exact ⟨he, .inl ⟨_, upto_all zs, hj⟩⟩
    · exact ⟨he, .inr ⟨_, by rw [upto_take zs hk]; exact List.take_prefix _ _, hj⟩⟩
end Seq
end Go.Proofs.YtfbfknmnkcddpaaGreat
namespace Go.Proofs.YtfbfknmnkcddpaaGreat
open Go.RowKit Go.Shelf
set_option linter.unusedVariables false
attribute [local go_sem] Oper.semAt_some
namespace Seq
theorem infoI : (Tryz.prog.info? 3).map (fun i => (i.zero, i.size, i.bytes)) = some (some (.int .i64 0), 1, 8) := by kernel_rfl

set_option maxRecDepth 100000 in
set_option maxHeartbeats 2000000 in
theorem appendSeq_in (F : Fence) (n : Nat) (h3 : F.fn 218) (h5 : F.fn 179) (hro : F.round = none) (hn : 3 ≤ n) (a : Option Addr) (cap Bv : Nat) (zs : List Int) (hlen : zs.length * 8 ≤ 140737488351232) (w : World) (hBv : Bv < w.heap.size) (hc0 : w.cell? ⟨Bv, 0, none⟩ = some (.slice a zs.length cap)) (hL : Ints w.heap.size w a zs) :
    CallsIn F n Tryz.prog 218 #[.slice none 0 0, .func (.func 179) #[] #[.pointer (some ⟨Bv, 0, none⟩)]] w fun e W' => ∃ v, e = .returned v ∧ W'.ownsRow w.heap.size 3 1 v zs.length (zs.map (Value.int .i64)) ∧ (v = .slice none 0 0 ↔ zs = []) ∧ Below w.heap.size w W' := by
  have h1 : 1 ≤ n := by omega
  obtain ⟨i0, hi, hz0, hz1, hz2⟩ := info_parts infoI
  refine callsIn_of_wp_marks Tryz.func218 rfl h3 ?_ hro
  simp only [Tryz.ntmps218, List.size_toArray, List.length_cons, List.length_nil, Nat.reduceAdd, Nat.reduceSub, Array.replicate_succ, Array.replicate_zero, List.push_toArray, List.append_toArray, List.nil_append, List.cons_append]
  gi_wp2
  have bO := Boxed.new w 22 (.slice none 0 0)
  have hB0 : Below w.heap.size w (w.alloc (.cells #[.slice none 0 0] 22)) := (Below.refl _ w).alloc (Nat.le_refl _) _
  refine wpIn_rangeFunc_ownG hro h1 (gf := 179) (lb := #[.pointer (some ⟨Bv, 0, none⟩)]) rfl h5 (enters_of Tryz.func179 (by kernel_rfl) rfl)
    (values_stops F (n - 1) h5 hro (by omega) Bv w.heap.size a cap zs hlen _ (by simp; omega) (by simp) ((hB0.cell (p := ⟨Bv, 0, none⟩) hBv).trans hc0) (hL.below hB0)) belowK_t (belowK_b (by simp)) (Below.refl _ _) (fun _ => rfl)
    (fun pre W => (∃ v, Boxed W w.heap.size 22 v ∧ W.ownsRow w.heap.size 3 1 v pre.length (pre.map (Value.int .i64)) ∧ (v = .slice none 0 0 ↔ pre = [])) ∧ Below w.heap.size w W)
    (fun _ _ _ => False)
    (OwnFrom.and (Own.from (holdsRow_own w.heap.size w.heap.size 22 3 1 (fun pre => pre.length) (fun pre => pre.map (Value.int .i64)) (fun pre v => v = .slice none 0 0 ↔ pre = [])) _) (ownFrom_below (Nat.le_refl _) (by simp)))
    (fun _ _ _ _ _ hs _ _ => hs)
    ⟨⟨_, bO, World.ownsRow_nil _ _ _ _, by simp⟩, hB0⟩
    (fun x => { tmps := #[.slice none 0 0, .func (.func 179) #[] #[.pointer (some ⟨Bv, 0, none⟩)], .pointer (some ⟨w.heap.size, 0, none⟩), undef, .slice none 0 0, .int .i64 x, .func (.func 179) #[] #[.pointer (some ⟨Bv, 0, none⟩)], .int .i64 x, undef, undef, undef, undef, undef], defers := [] }) ?assign ?body ?done ?stop
  case assign =>
    intro l x W K hK
    gi_wp2
    exact hK
  case body =>
    rintro l pre x W ⟨⟨v, hv, hrow, hnil⟩, hB⟩ hlt
    have hc := hv.cell
    gi_wp2_with (gi_at_builtin; refine wpListIn_append_own _ rfl _ _ 22 rfl w.heap.size 3 i0 (.int .i64 0) 1 8 Tryz.underlying22 hi hz0 hz1 hz2 rfl (by decide) _ _ _ rfl (hrow.alloc _) ⟨W.heap.size, 0, none⟩ 1 1 [.int .i64 x] rfl rfl (cell_one_new _ _ _) (by simp [Value.oneCell']) (by unfold maxLen; omega) (by omega) (by have := hB.size; simp; omega) ?_; intro v' w1 hown' hgrow _; obtain ⟨g', cap', rfl⟩ := ownsRow_succ hown'; obtain ⟨hv1, hv2, hr2, hk2, hb2⟩ := hv.appended (by decide) hrow hB.size (Nat.le_refl _) hown' hgrow; have hc1 := hv1.cell; have hf1 := hv1.frozen)
    exact ⟨hk2.from _, hb2, ⟨_, hv2, by simpa using hr2, by simp⟩, hB.trans hb2⟩
  case done =>
    rintro D ys W hD rfl ⟨⟨v, hv, hrow, hnil⟩, hB⟩ hK
    have hc := hv.cell
    gi_wp2
    refine ⟨by simp, .inl ⟨_, _, rfl, run_takeDeferred hK, ?_⟩⟩
    exact ⟨_, results_tmp rfl _ _ _, v, rfl, ownsRow_putObj hrow _ hK rfl, hnil, hB.trans (belowK_b (w := w) (Nat.le_refl _) W D _ _ (by simp at hD; omega) hK rfl rfl)⟩
  case stop =>
    rintro D c pre W _ _ h _
    exact h.elim
end Seq
end Go.Proofs.YtfbfknmnkcddpaaGreat
namespace Go.Proofs.YtfbfknmnkcddpaaGreat
open Go.RowKit Go.Shelf Go.Sort
set_option linter.unusedVariables false
namespace Seq
theorem appendSeq_any (a : Option Addr) (cap Bv : Nat) (zs : List Int) (hlen : zs.length * 8 ≤ 140737488351232) (w : World) (hBv : Bv < w.heap.size) (hc0 : w.cell? ⟨Bv, 0, none⟩ = some (.slice a zs.length cap)) (hL : Ints w.heap.size w a zs) :
    Calls Tryz.prog 218 #[.slice none 0 0, .func (.func 179) #[] #[.pointer (some ⟨Bv, 0, none⟩)]] w fun e W' => ∃ v, e = .returned v ∧ W'.ownsRow w.heap.size 3 1 v zs.length (zs.map (Value.int .i64)) ∧ (v = .slice none 0 0 ↔ zs = []) ∧ Below w.heap.size w W' :=
  callsIn_wide.1 (appendSeq_in Fence.wide 5 trivial trivial rfl (by omega) a cap Bv zs hlen w hBv hc0 hL)
theorem values_any (a : Option Addr) (len cap : Nat) (w : World) :
    Calls Tryz.prog 144 #[.slice a len cap] w fun e w' => e = .returned (.func (.func 179) #[] #[.pointer (some ⟨w.heap.size, 0, none⟩)]) ∧ w' = w.alloc (.cells #[.slice a len cap] 22) :=
  callsIn_wide.1 (values_in Fence.wide 5 trivial rfl a len cap w)

set_option maxHeartbeats 400000 in
theorem collect_any (a : Option Addr) (cap Bv : Nat) (zs : List Int) (hlen : zs.length * 8 ≤ 140737488351232) (w : World) (hBv : Bv < w.heap.size) (hc0 : w.cell? ⟨Bv, 0, none⟩ = some (.slice a zs.length cap)) (hL : Ints w.heap.size w a zs) :
    Calls Tryz.prog 178 #[.func (.func 179) #[] #[.pointer (some ⟨Bv, 0, none⟩)]] w fun e W' => ∃ v, e = .returned v ∧ W'.ownsRow w.heap.size 3 1 v zs.length (zs.map (Value.int .i64)) ∧ (v = .slice none 0 0 ↔ zs = []) ∧ Below w.heap.size w W' := by
  have hap := Lib.hid (appendSeq_any a cap Bv zs hlen w hBv hc0 hL)
  clear hc0
  go_enter Tryz.func178, Tryz.ntmps178
  go_wp2_with fail
  refine hap.out.mono ?_
  rintro e w1 ⟨v, rfl, h1, h2, h3⟩
  have hfin := Lib.hid (And.intro h1 (And.intro h2 h3))
  clear h1 h2 h3
  go_wp2
  go_ret
  exact ⟨v, rfl, hfin.out⟩

def srt (zs : List Int) : List Int := zs.mergeSort fun x y => decide (x ≤ y)
set_option maxHeartbeats 800000 in
theorem sorted_any (a : Option Addr) (cap Bv : Nat) (zs : List Int) (hlen : zs.length * 8 ≤ 140737488351232) (w : World) (hBv : Bv < w.heap.size) (hc0 : w.cell? ⟨Bv, 0, none⟩ = some (.slice a zs.length cap)) (hL : Ints w.heap.size w a zs) :
    Calls Tryz.prog 143 #[.func (.func 179) #[] #[.pointer (some ⟨Bv, 0, none⟩)]] w fun e W' => ∃ v, e = .returned v ∧ W'.ownsRow w.heap.size 3 1 v zs.length ((srt zs).map (Value.int .i64)) ∧ Below w.heap.size w W' := by
  have hco := Lib.hid (collect_any a cap Bv zs hlen w hBv hc0 hL)
  clear hc0
  go_enter Tryz.func143, Tryz.ntmps143
  go_wp2_with fail
  refine hco.out.mono ?_
  rintro e W ⟨v, rfl, hrow, hnil, hb⟩
  rcases hrow.2 with ⟨rfl, hz⟩ | ⟨gb, cap2, cur, rfl, hbase, hgb, r1, r2, r3, r4⟩
  · have hzs : zs = [] := List.eq_nil_of_length_eq_zero hz
    subst hzs
    have hfin := Lib.hid (And.intro hrow hb)
    clear hrow hb hnil hz
    go_wp2_with fail
    refine (Tryz.slices_Sort_int_none none 0 W).mono ?_
    rintro e w' ⟨rfl, rfl⟩
    go_wp2
    go_ret
    exact ⟨_, rfl, by simpa [srt] using hfin.out.1, hfin.out.2⟩
  · have hH : Holds (Value.int .i64) W gb 0 zs.toArray := holds_of_block_i hgb (by simpa using r4)
    have hgl : gb < W.heap.size := (Array.getElem?_eq_some_iff.1 hgb).1
    have cS := Lib.hid (Tryz.slices_Sort_int gb 0 cap2 zs W hH hgl (by omega))
    have hfin : ∀ nn os, (grow (putRow (Value.int .i64) (Sort.ahead W nn) gb 0 (zs.mergeSort fun x y => decide (x ≤ y)).toArray) os).ownsRow w.heap.size 3 1 (.slice (some ⟨gb, 0, none⟩) zs.length cap2) zs.length ((srt zs).map (Value.int .i64)) ∧ Below w.heap.size w (grow (putRow (Value.int .i64) (Sort.ahead W nn) gb 0 (zs.mergeSort fun x y => decide (x ≤ y)).toArray) os) :=
      fun nn os => ⟨ownsRow_sorted_i (by simp) hbase hgb r1 r2 r3, hb.grown (grownBy_sorted_i _) hb.size (fun j hj => by cases hj; exact hbase)⟩
    have hfin' := Lib.hid hfin
    clear hfin hgb r4 hrow hnil hH
    go_wp2_with fail
    refine cS.out.mono ?_
    rintro e w' ⟨rfl, nn, os, rfl⟩
    go_wp2
    go_ret
    exact ⟨_, rfl, hfin'.out nn os⟩
end Seq
end Go.Proofs.YtfbfknmnkcddpaaGreat
namespace Go.Proofs.YtfbfknmnkcddpaaGreat
open Go.RowKit
set_option linter.unusedVariables false
namespace Cal
theorem int_eq {a b : Int} (h : a = b) : Value.int .i64 a = .int .i64 b := by rw [h]
theorem srt_has (zs : List Int) (d : Int) : (Seq.srt zs).contains d = zs.contains d := by
  rw [Bool.eq_iff_iff]; simp [Seq.srt, List.mem_mergeSort]
theorem srt_len (zs : List Int) : (Seq.srt zs).length = zs.length := by simp [Seq.srt]
theorem srt_sorted (zs : List Int) : (Seq.srt zs).Pairwise (· ≤ ·) := by
  have := List.pairwise_mergeSort (le := fun x y : Int => decide (x ≤ y)) (fun a b c h1 h2 => by simp at *; omega) (fun a b => by simp; omega) zs
  exact this.imp (by simp)
/-- The sorted slice, to search in. -/
def Sorted (W : World) (v : Value) (zs : List Int) : Prop := (v = .slice none 0 0 ∧ zs = []) ∨ ∃ g cap, v = .slice (some ⟨g, 0, none⟩) zs.length cap ∧ g < W.heap.size ∧ ∀ j, j < zs.length → W.cell? ⟨g, j, none⟩ = some (.int .i64 ((Seq.srt zs).getD j 0))
theorem sorted_of_row {W : World} {b : Nat} {t : TypeId} {v : Value} {zs : List Int} (h : W.ownsRow b t 1 v zs.length ((Seq.srt zs).map (Value.int .i64))) : Sorted W v zs := by
  obtain ⟨hl, h⟩ := h
  rcases h with ⟨rfl, hz⟩ | ⟨g, cap, cur, rfl, _, hg, _, _, _, ht⟩
  · exact .inl ⟨rfl, List.eq_nil_of_length_eq_zero hz⟩
  · refine .inr ⟨g, cap, rfl, (Array.getElem?_eq_some_iff.1 hg).1, fun j hj => ?_⟩
    rw [cell_of_row _ _ _ _ _ _ hg]
    have e : (cur.toList.take (zs.length * 1))[j]? = some (.int .i64 ((Seq.srt zs).getD j 0)) := by
      rw [ht, List.getElem?_map]
      rw [List.getD_eq_getElem?_getD, List.getElem?_eq_getElem (by rw [srt_len]; exact hj)]; rfl
    rw [List.getElem?_take, if_pos (by omega)] at e
    simpa using e
theorem search_any (v : Value) (zs : List Int) (d : Int) (hlen : zs.length ≤ 400) (W : World) (h : Sorted W v zs) :
    Calls Tryz.prog 145 #[v, .int .i64 d] W fun e W' => ∃ p : Int, e = .returned (.tuple #[.int .i64 p, .bool (zs.contains d)]) ∧ ∃ q, W' = W.drewN q := by
  rcases h with ⟨rfl, rfl⟩ | ⟨g, cap, rfl, _, hc⟩
  · exact (Tryz.slices_BinarySearch_int_empty none 0 d W).mono fun e W' ⟨h1, h2⟩ => ⟨0, h1, 0, h2⟩
  · have hs := Tryz.slices_BinarySearch_int g 0 zs.length cap (Seq.srt zs) d W (by rw [srt_len]; omega) (by omega) (fun j hj => by rw [Nat.zero_add]; exact hc j (by rw [srt_len] at hj; exact hj)) (by rw [List.take_of_length_le (by rw [srt_len]; omega)]; exact srt_sorted zs)
    rw [List.take_of_length_le (by rw [srt_len]; omega), srt_has] at hs
    exact hs.mono fun e W' ⟨h1, h2⟩ => ⟨_, h1, h2⟩
theorem Sorted.later {W W' : World} {v : Value} {zs : List Int} (h : Sorted W v zs) (hb : Below W.heap.size W W') : Sorted W' v zs := by
  rcases h with h | ⟨g, cap, rfl, hg, hc⟩
  · exact .inl h
  · exact .inr ⟨g, cap, rfl, Nat.lt_of_lt_of_le hg hb.size, fun j hj => (hb.cell (p := ⟨g, j, none⟩) hg).trans (hc j hj)⟩
theorem below_drewN {B : Nat} {a w : World} (h : Below B a w) (n : Nat) : Below B a (w.drewN n) := ⟨h.os, h.tape, h.output, h.size, h.block⟩

set_option maxRecDepth 100000 in
set_option maxHeartbeats 1600000 in
theorem working_in (a b : Int) (zs : List Int) (ad : Option Addr) (cap : Nat) (w : World) (h1 : 0 ≤ a) (h2 : a ≤ b) (h3 : b ≤ 36865) (hn : zs.length ≤ 400) (hz : Seq.Ints w.heap.size w ad zs) :
    Calls Tryz.prog 85 #[.int .i64 a, .int .i64 b, .slice ad zs.length cap] w fun e w' => e = .returned (.tuple #[.int .i64 (wks zs a (b - a).toNat), .int .i64 0]) ∧ Below w.heap.size w w' := by
  obtain ⟨m, hm⟩ : ∃ m, (b - a).toNat = m := ⟨_, rfl⟩
  rw [hm]
  have hm2 : b = a + m := by omega
  have hm' := Lib.hid hm2
  have hm3 : a + (m : Int) ≤ 36865 := by omega
  have hsort := Lib.hid (Seq.sorted_any ad cap w.heap.size zs (by omega) (w.alloc (.cells #[.slice ad zs.length cap] 22)) (by simp) (by rw [cell_of_row _ _ _ _ _ _ (heap_alloc_new w (.cells #[.slice ad zs.length cap] 22))]; rfl) (by
    have hb := (Below.refl w.heap.size w).alloc (Nat.le_refl _) (.cells #[.slice ad zs.length cap] 22)
    rcases hz.below hb with h | ⟨x, o, hx, hlt, hc⟩
    · exact .inl h
    · exact .inr ⟨x, o, hx, by simp; omega, hc⟩))
  clear hm hm2 hz
  go_enter Tryz.func85, Tryz.ntmps85
  go_wp2_with fail
  refine (Seq.values_any _ _ _ _).mono ?_
  rintro e w1 ⟨rfl, rfl⟩
  go_wp2_with fail
  refine hsort.out.mono ?_
  rintro e w2 ⟨v, rfl, hrow, hb⟩
  have hS := Lib.hid (sorted_of_row hrow)
  have hB := Lib.hid (((Below.refl _ w).alloc (Nat.le_refl _) (.cells #[.slice ad zs.length cap] 22)).trans (hb.mono (by simp)))
  clear hrow hb hsort
  go_wp2_with fail
  go_loopw [9, 10] (fun n d wr => ∃ k : Nat, k ≤ m ∧ n = .int .i64 (wks zs a k) ∧ d = .int .i64 (a + k) ∧ Below w2.heap.size w2 wr) (fun _ d _ => m - (intOf d - a).toNat)
  case atStart => exact ⟨0, by omega, rfl, int_eq (by omega), Below.refl _ _⟩
  case round =>
    obtain ⟨k, hk, rfl, rfl, hbr⟩ := hrel
    have hwb := wks_bd zs a k
    have hbb := hm'.out
    by_cases hlt : k < m
    · have hl2 : a + (k : Int) < b := by omega
      have hs := Lib.hid (show wks zs a (k + 1) = wks zs a k + if wk zs (a + k) then 1 else 0 from rfl)
      have hsr := Lib.hid (search_any v zs (a + k) hn wr (hS.out.later hbr))
      have hbr' := Lib.hid hbr
      clear hbb hbr
      go_wp2_with fail
      refine hsr.out.mono ?_
      rintro e w3 ⟨q0, rfl, q, rfl⟩
      have hd : wk zs (a + k) = (decide ((a + (k : Int)) % 7 < 5) && !zs.contains (a + k)) := rfl
      have hd' := Lib.hid hd
      clear hd hsr
      obtain ⟨c, hc⟩ : ∃ c, zs.contains (a + (k : Int)) = c := ⟨_, rfl⟩
      rw [hc]
      have hc' := Lib.hid hc
      clear hc
      cases c
      · by_cases h5 : (a + (k : Int)) % 7 < 5
        · have hnew := Lib.hid (show wks zs a (k + 1) = wks zs a k + 1 by rw [hs.out, hd'.out, hc'.out, decide_eq_true h5]; rfl)
          go_wp2
          go_roundw
          case rel => exact ⟨k + 1, by omega, int_eq hnew.out.symm, int_eq (by omega), below_drewN hbr'.out _⟩
          case measure => simp [intOf]; omega
        · have hnew := Lib.hid (show wks zs a (k + 1) = wks zs a k by rw [hs.out, hd'.out, hc'.out, decide_eq_false h5]; simp)
          go_wp2
          go_roundw
          case rel => exact ⟨k + 1, by omega, int_eq hnew.out.symm, int_eq (by omega), below_drewN hbr'.out _⟩
          case measure => simp [intOf]; omega
      · have hnew := Lib.hid (show wks zs a (k + 1) = wks zs a k by rw [hs.out, hd'.out, hc'.out]; simp)
        go_wp2
        go_roundw
        case rel => exact ⟨k + 1, by omega, int_eq hnew.out.symm, int_eq (by omega), below_drewN hbr'.out _⟩
        case measure => simp [intOf]; omega
    · have hkm : k = m := by omega
      have hl2 : ¬ a + (k : Int) < b := by omega
      have hfin := Lib.hid (hB.out.trans (hbr.mono hB.out.size))
      clear hbb hbr
      subst hkm
      go_wp2
      go_ret2
      exact ⟨rfl, hfin.out⟩
end Cal
end Go.Proofs.YtfbfknmnkcddpaaGreat
namespace Go.Proofs.YtfbfknmnkcddpaaGreat
open Go.RowKit
set_option linter.unusedVariables false
namespace Cal
theorem ret_bool {a b : Bool} (h : a = b) : Ending.returned (.bool a) = .returned (.bool b) := by rw [h]

set_option maxHeartbeats 800000 in
theorem working_any (a b : Int) (zs : List Int) (ad : Option Addr) (cap : Nat) (w : World) (hmax : zs.length ≤ 9223372036854775807) (hz : Seq.Ints w.heap.size w ad zs) :
    Calls Tryz.prog 85 #[.int .i64 a, .int .i64 b, .slice ad zs.length cap] w fun e w' => e = .returned (.tuple #[.int .i64 (wkV zs a b), .int .i64 (wkE a b zs.length)]) ∧ Below w.heap.size w w' := by
  by_cases hE : wkE a b zs.length = 0
  · have hc : 0 ≤ a ∧ a ≤ b ∧ b ≤ 36865 ∧ zs.length ≤ 400 := by
      unfold wkE at hE
      split at hE
      · omega
      · split at hE <;> omega
    have hV : wkV zs a b = wks zs a (b - a).toNat := by unfold wkV; rw [if_pos hE]
    rw [hV, hE]
    exact working_in a b zs ad cap w hc.1 hc.2.1 hc.2.2.1 hc.2.2.2 hz
  · have hV : wkV zs a b = 0 := by unfold wkV; rw [if_neg hE]
    rw [hV]
    obtain ⟨n, hn⟩ : ∃ n, zs.length = n := ⟨_, rfl⟩
    rw [hn] at hE hmax ⊢
    clear hn hz hV
    have hcase : (a < 0 ∧ wkE a b n = 9) ∨ (0 ≤ a ∧ b < a ∧ wkE a b n = 9) ∨ (0 ≤ a ∧ a ≤ b ∧ 36865 < b ∧ wkE a b n = 9) ∨ (0 ≤ a ∧ a ≤ b ∧ b ≤ 36865 ∧ 400 < n ∧ wkE a b n = 1) := by
      unfold wkE at hE ⊢
      split
      · omega
      · rename_i h1
        rw [if_neg h1] at hE
        split
        · omega
        · rename_i h2; rw [if_neg h2] at hE; exact absurd rfl hE
    clear hE
    rcases hcase with ⟨h, e⟩ | ⟨h, h1, e⟩ | ⟨h, h1, h2, e⟩ | ⟨h, h1, h2, h3, e⟩
    all_goals
      rw [e]
      clear e
      go_enter Tryz.func85, Tryz.ntmps85
      go_wp2
      go_ret2
      exact ⟨rfl, Below.refl _ _⟩

set_option maxHeartbeats 800000 in
theorem has_any (zs : List Int) (ad : Option Addr) (cap : Nat) (d : Int) (w : World) (hmax : zs.length ≤ 9223372036854775807) (hz : Seq.Ints w.heap.size w ad zs) :
    Calls Tryz.prog 70 #[.slice ad zs.length cap, .int .i64 d] w fun e w' => e = .returned (.bool (zs.contains d)) ∧ w = w' := by
  rcases hz with rfl | ⟨bl, off, rfl, hbl, hc⟩
  · go_enter Tryz.func70, Tryz.ntmps70
    go_wp2
    refine wp_loop_rounds 1 ?_
    rw [rounds_succ]
    go_wp2
    go_ret
    exact ⟨rfl, rfl⟩
  · obtain ⟨n, hn⟩ : ∃ n, n = zs.length := ⟨_, rfl⟩
    have hn' := Lib.hid hn
    have hcl := Lib.hid (show ∀ j, j < n → w.cell? ⟨bl, off + j, none⟩ = some (.int .i64 (zs[j]?.getD 0)) from fun j hj => hc j (hn ▸ hj))
    rw [← hn] at hmax ⊢
    have hfin := Lib.hid (show zs.contains d = (zs.take n).contains d by rw [hn, List.take_length])
    obtain ⟨c, hcc⟩ : ∃ c, zs.contains d = c := ⟨_, rfl⟩
    rw [hcc]
    have hcc' := Lib.hid hcc
    clear hcc hc hn
    go_enter Tryz.func70, Tryz.ntmps70
    go_wp2
    go_loop [9] (fun i => ∃ k : Nat, k ≤ n ∧ i = .int .i64 k ∧ (zs.take k).contains d = false) (fun i => n - (intOf i).toNat)
    case atStart => exact ⟨0, by omega, rfl, by simp⟩
    case round =>
      obtain ⟨k, hk, rfl, hno⟩ := hrel
      have hno' := Lib.hid hno
      clear hno
      by_cases hlt : k < n
      · have hcell := hcl.out k hlt
        have hmem := Lib.hid (show zs.take (k + 1) = zs.take k ++ [zs[k]?.getD 0] by
          have := hn'.out
          rw [List.take_succ_eq_append_getElem (by omega), List.getElem?_eq_getElem (by omega)]; rfl)
        obtain ⟨z, hzz⟩ : ∃ z, zs[k]?.getD 0 = z := ⟨_, rfl⟩
        rw [hzz] at hcell hmem
        clear hzz
        by_cases hd : z = d
        · have hyes := Lib.hid (show c = true by
            rw [← hcc'.out, List.contains_iff_mem]
            have : z ∈ zs.take (k + 1) := by rw [hmem.out]; simp
            exact hd ▸ List.mem_of_mem_take this)
          have hb : (z == d) = true := beq_iff_eq.2 hd
          clear hd
          go_wp2
          go_ret
          exact ⟨ret_bool hyes.out.symm, rfl⟩
        · have hb : (z == d) = false := beq_eq_false_iff_ne.2 hd
          have hnext := Lib.hid (show (zs.take (k + 1)).contains d = false by
            rw [hmem.out, Bool.eq_false_iff]
            intro h
            rw [List.contains_iff_mem, List.mem_append] at h
            rcases h with h | h
            · have := hno'.out; rw [Bool.eq_false_iff] at this; exact this (List.contains_iff_mem.2 h)
            · simp at h; exact hd h.symm)
          clear hd
          go_wp2
          go_round
          case rel => exact ⟨k + 1, by omega, by go_num, hnext.out⟩
          case measure => simp [intOf]; omega
      · have hkn : k = n := by omega
        have hno2 := Lib.hid (show c = false by rw [← hcc'.out, hfin.out, ← hkn]; exact hno'.out)
        have hl2 : ¬ k < n := by omega
        clear hkn
        go_wp2
        go_ret
        exact ⟨ret_bool hno2.out.symm, rfl⟩

set_option maxRecDepth 100000 in
set_option maxHeartbeats 1600000 in
theorem rworking_in (a b : Int) (zs : List Int) (ad : Option Addr) (cap : Nat) (w : World) (h1 : 0 ≤ a) (h2 : a ≤ b) (h3 : b ≤ 36865) (hn : zs.length ≤ 400) (hz : Seq.Ints w.heap.size w ad zs) :
    Calls Tryz.prog 86 #[.int .i64 a, .int .i64 b, .slice ad zs.length cap] w fun e w' => e = .returned (.tuple #[.int .i64 (wks zs a (b - a).toNat), .int .i64 0]) ∧ Below w.heap.size w w' := by
  obtain ⟨m, hm⟩ : ∃ m, (b - a).toNat = m := ⟨_, rfl⟩
  rw [hm]
  have hm2 : b = a + m := by omega
  have hm' := Lib.hid hm2
  have hm3 : a + (m : Int) ≤ 36865 := by omega
  have hhas := Lib.hid (fun d => has_any zs ad cap d w (by omega) hz)
  clear hm hm2 hz
  go_enter Tryz.func86, Tryz.ntmps86
  go_wp2_with fail
  go_loop [8, 9] (fun n d => ∃ k : Nat, k ≤ m ∧ n = .int .i64 (wks zs a k) ∧ d = .int .i64 (a + k)) (fun _ d => m - (intOf d - a).toNat)
  case atStart => exact ⟨0, by omega, rfl, int_eq (by omega)⟩
  case round =>
    obtain ⟨k, hk, rfl, rfl⟩ := hrel
    have hwb := wks_bd zs a k
    have hbb := hm'.out
    by_cases hlt : k < m
    · have hl2 : a + (k : Int) < b := by omega
      have hs := Lib.hid (show wks zs a (k + 1) = wks zs a k + if wk zs (a + k) then 1 else 0 from rfl)
      have hd' := Lib.hid (show wk zs (a + k) = (decide ((a + (k : Int)) % 7 < 5) && !zs.contains (a + k)) from rfl)
      clear hbb
      by_cases h5 : (a + (k : Int)) % 7 < 5
      · go_wp2_with fail
        refine (hhas.out _).mono ?_
        rintro e w3 ⟨rfl, rfl⟩
        obtain ⟨c, hc⟩ : ∃ c, zs.contains (a + (k : Int)) = c := ⟨_, rfl⟩
        rw [hc]
        have hc' := Lib.hid hc
        clear hc
        cases c
        · have hnew := Lib.hid (show wks zs a (k + 1) = wks zs a k + 1 by rw [hs.out, hd'.out, hc'.out, decide_eq_true h5]; rfl)
          go_wp2
          go_round
          case rel => exact ⟨k + 1, by omega, int_eq hnew.out.symm, int_eq (by omega)⟩
          case measure => simp [intOf]; omega
        · have hnew := Lib.hid (show wks zs a (k + 1) = wks zs a k by rw [hs.out, hd'.out, hc'.out]; simp)
          go_wp2
          go_round
          case rel => exact ⟨k + 1, by omega, int_eq hnew.out.symm, int_eq (by omega)⟩
          case measure => simp [intOf]; omega
      · have hnew := Lib.hid (show wks zs a (k + 1) = wks zs a k by rw [hs.out, hd'.out, decide_eq_false h5]; simp)
        go_wp2
        go_round
        case rel => exact ⟨k + 1, by omega, int_eq hnew.out.symm, int_eq (by omega)⟩
        case measure => simp [intOf]; omega
    · have hkm : k = m := by omega
      have hl2 : ¬ a + (k : Int) < b := by omega
      clear hbb
      subst hkm
      go_wp2
      go_ret2
      exact ⟨rfl, Below.refl _ _⟩

set_option maxHeartbeats 800000 in
theorem rworking_any (a b : Int) (zs : List Int) (ad : Option Addr) (cap : Nat) (w : World) (hmax : zs.length ≤ 9223372036854775807) (hz : Seq.Ints w.heap.size w ad zs) :
    Calls Tryz.prog 86 #[.int .i64 a, .int .i64 b, .slice ad zs.length cap] w fun e w' => e = .returned (.tuple #[.int .i64 (wkV zs a b), .int .i64 (wkE a b zs.length)]) ∧ Below w.heap.size w w' := by
  by_cases hE : wkE a b zs.length = 0
  · have hc : 0 ≤ a ∧ a ≤ b ∧ b ≤ 36865 ∧ zs.length ≤ 400 := by
      unfold wkE at hE
      split at hE
      · omega
      · split at hE <;> omega
    have hV : wkV zs a b = wks zs a (b - a).toNat := by unfold wkV; rw [if_pos hE]
    rw [hV, hE]
    exact rworking_in a b zs ad cap w hc.1 hc.2.1 hc.2.2.1 hc.2.2.2 hz
  · have hV : wkV zs a b = 0 := by unfold wkV; rw [if_neg hE]
    rw [hV]
    obtain ⟨n, hn⟩ : ∃ n, zs.length = n := ⟨_, rfl⟩
    rw [hn] at hE hmax ⊢
    clear hn hz hV
    have hcase : (a < 0 ∧ wkE a b n = 9) ∨ (0 ≤ a ∧ b < a ∧ wkE a b n = 9) ∨ (0 ≤ a ∧ a ≤ b ∧ 36865 < b ∧ wkE a b n = 9) ∨ (0 ≤ a ∧ a ≤ b ∧ b ≤ 36865 ∧ 400 < n ∧ wkE a b n = 1) := by
      unfold wkE at hE ⊢
      split
      · omega
      · rename_i h1
        rw [if_neg h1] at hE
        split
        · omega
        · rename_i h2; rw [if_neg h2] at hE; exact absurd rfl hE
    clear hE
    rcases hcase with ⟨h, e⟩ | ⟨h, h1, e⟩ | ⟨h, h1, h2, e⟩ | ⟨h, h1, h2, h3, e⟩
    all_goals
      rw [e]
      clear e
      go_enter Tryz.func86, Tryz.ntmps86
      go_wp2
      go_ret2
      exact ⟨rfl, Below.refl _ _⟩

end Cal
end Go.Proofs.YtfbfknmnkcddpaaGreat
set_option linter.unusedVariables false
set_option maxRecDepth 100000
namespace Go.Proofs.YtfbfknmnkcddpaaGreat
open Go.RowKit
namespace RE
open PL
namespace PL
def workP (l : List Int) (a b n e : Int) : Prop := n = Cal.wkV l a b ∧ e = Cal.wkE a b l.length
end PL
theorem ints_of_rd {S : Cells} {w : World} {l : List Int} {u : Value} (hS : ∀ b o, S b o → b < w.heap.size) (h : Rd S w (.sl (.int .i64) l) u) : ∃ ad cap, u = .slice ad l.length cap ∧ l.length ≤ 9223372036854775807 ∧ Seq.Ints w.heap.size w ad l := by
  cases h with
  | sl _ _ ad cap b off f hc hm ha hx h =>
    refine ⟨ad, cap, rfl, Nat.le_trans hc (by unfold maxLen at hm; omega), ?_⟩
    by_cases hl : l = []
    · exact .inl hl
    · refine .inr ⟨b, off, ha.resolve_left hl, ?_, fun j hj => ?_⟩
      · obtain ⟨k1, _, _⟩ := hx 0 (List.length_pos_iff.2 hl) 0 (by decide)
        exact hS _ _ k1
      · obtain ⟨k1, k2, k3⟩ := hx j hj 0 (by decide)
        have hsz : off + j * size (.int .i64) + 0 = off + j := by show off + j * 1 + 0 = _; omega
        rw [hsz] at k2
        have := h j l[j] 0 _ (List.getElem?_eq_getElem hj) rfl
        have this : Rd S w (.v (.int .i64 l[j])) (f j 0) := this
        rw [rd_v this] at k2
        rw [k2, List.getElem?_eq_getElem hj]; rfl
/-- A contract of a function that looks at its arguments and hands back two integers. -/
theorem SpecOK.two {P : Program} {f : FuncId} {ts : List Ty} {pt : dens ts → (Int → Int → Prop) → Prop}
    (h : ∀ x post, pt x post → ∀ w (S : Cells) (us : List Value), (∀ b o, S b o → b < w.heap.size) → us.length = ts.length → (∀ (i : Nat) (d : D) (u : Value), (tvs ts x)[i]? = some d → us[i]? = some u → Rd S w d u) →
      Calls P f us.toArray w fun e w' => ∃ a b, e = .returned (.tuple #[.int .i64 a, .int .i64 b]) ∧ post a b ∧ Below w.heap.size w w') :
    SpecOK P ⟨f, false, false, ts, .tup [.dat (.int .i64), .dat (.int .i64)], fun x post => pt x fun a b => post (a, b, ())⟩ := by
  intro x post hp w S T us hS hT hl hr
  have hT : T = none := hT
  subst hT
  refine (h x _ hp w S us hS hl hr).mono ?_
  rintro e w' ⟨a, b, rfl, hq, hb⟩
  refine ⟨_, (a, b, ()), cx0 S none, rfl, hq, ?_, ?_, ?_⟩
  · exact ⟨fun b o h => Nat.lt_of_lt_of_le (hS b o h) hb.size, fun id x hx => (by cases hx), fun id x hx => (by cases hx), fun i j x y hx => (by cases hx), fun T hT' => (by cases hT'), fun h => (by cases h), fun _ => rfl⟩
  · exact ⟨hb.os, hb.tape, hb.output, hb.size, fun _ h => h, fun _ h => .inl h, fun _ h => h, fun _ _ => ⟨rfl, rfl⟩, fun _ _ h => h, fun _ _ h => .inl h, fun k hk _ _ => hb.block k hk, fun _ h => .inl h⟩
  · refine .tup [.d (.v (.int .i64 a)), .d (.v (.int .i64 b))] [.int .i64 a, .int .i64 b] rfl fun i s u hs hu => ?_
    match i, hs, hu with
    | 0, hs, hu => cases hs; cases hu; exact v_srel _
    | 1, hs, hu => cases hs; cases hu; exact v_srel _
    | i + 2, hs, hu => cases hs
theorem three_args {S : Cells} {w : World} {a b : Int} {l : List Int} {us : List Value} (hl : us.length = 3) (hr : ∀ (i : Nat) (d : D) (u : Value), (tvs [.int .i64, .int .i64, .sl (.int .i64)] (a, b, l, ()))[i]? = some d → us[i]? = some u → Rd S w d u) : ∃ u, us = [.int .i64 a, .int .i64 b, u] ∧ Rd S w (.sl (.int .i64) l) u := by
  match us, hl with
  | [x, y, z], _ =>
    have h0 := hr 0 _ _ rfl rfl
    have h1 := hr 1 _ _ rfl rfl
    have h2 := hr 2 _ _ rfl rfl
    have h0 : Rd S w (.v (.int .i64 a)) x := h0
    have h1 : Rd S w (.v (.int .i64 b)) y := h1
    rw [rd_v h0, rd_v h1]
    exact ⟨z, rfl, h2⟩
def pwork_P (a : Int) (b : Int) (l : List (Int)) (post : Int → Int → Prop) : Prop := ∀ n e : Int, workP l a b n e → post n e
def pwork_sp : Spec := ⟨85, false, false, [.int .i64, .int .i64, .sl (.int .i64)], .tup [.dat (.int .i64), .dat (.int .i64)], fun x post => pwork_P (x.1 : Int) (x.2.1 : Int) (x.2.2.1 : List (Int)) (fun y0 y1 => post (y0, y1, ()))⟩
theorem pwork_ok : SpecOK Tryz.prog pwork_sp := SpecOK.two (ts := [.int .i64, .int .i64, .sl (.int .i64)]) (pt := fun x post => pwork_P x.1 x.2.1 x.2.2.1 post) fun x post hp w S us hS hl hr => by
  obtain ⟨a, b, l, ⟨⟩⟩ := x
  obtain ⟨u, rfl, hu⟩ := three_args hl hr
  obtain ⟨ad, cap, rfl, hm, hz⟩ := ints_of_rd hS hu
  exact (Cal.working_any a b l ad cap w hm hz).mono fun e w' ⟨he, hb⟩ => ⟨_, _, he, hp _ _ ⟨rfl, rfl⟩, hb⟩
def rwork_P (a : Int) (b : Int) (l : List (Int)) (post : Int → Int → Prop) : Prop := ∀ n e : Int, workP l a b n e → post n e
def rwork_sp : Spec := ⟨86, false, false, [.int .i64, .int .i64, .sl (.int .i64)], .tup [.dat (.int .i64), .dat (.int .i64)], fun x post => rwork_P (x.1 : Int) (x.2.1 : Int) (x.2.2.1 : List (Int)) (fun y0 y1 => post (y0, y1, ()))⟩
theorem rwork_ok : SpecOK Tryz.prog rwork_sp := SpecOK.two (ts := [.int .i64, .int .i64, .sl (.int .i64)]) (pt := fun x post => rwork_P x.1 x.2.1 x.2.2.1 post) fun x post hp w S us hS hl hr => by
  obtain ⟨a, b, l, ⟨⟩⟩ := x
  obtain ⟨u, rfl, hu⟩ := three_args hl hr
  obtain ⟨ad, cap, rfl, hm, hz⟩ := ints_of_rd hS hu
  exact (Cal.rworking_any a b l ad cap w hm hz).mono fun e w' ⟨he, hb⟩ => ⟨_, _, he, hp _ _ ⟨rfl, rfl⟩, hb⟩
end RE
end Go.Proofs.YtfbfknmnkcddpaaGreat
set_option maxRecDepth 100000
set_option linter.unusedVariables false
namespace Go.Proofs.YtfbfknmnkcddpaaGreat
open Go.RowKit
namespace RE
open PL

namespace PL
/-- What Late says. -/
def lateR (a : api_Application) (la : Int) (l : List Int) (n e : Int) : Prop := (a.3.length = 0 ∧ n = 0 ∧ e = 1) ∨ (0 < a.3.length ∧ (la < 0 ∨ 36864 < la ∨ (ix a.3 0).1 < 0 ∨ 36864 < (ix a.3 0).1) ∧ n = 0 ∧ e = 9) ∨ (0 < a.3.length ∧ ¬ (la < 0 ∨ 36864 < la ∨ (ix a.3 0).1 < 0 ∨ 36864 < (ix a.3 0).1) ∧ workP l (la + 1) (max la (ix a.3 0).1 + 1) n e)
def bestS (l : List api_Application) (f y : Int) : Int × Bool := match l.findIdx? (fun a => decide (a.1 = f) && decide (a.2 = y)) with
  | some k => ((k : Int), true)
  | none => (0, false)
def modQ (k n : Int) : Int := if n < 1 then 0 else k % n
def bigB (v : api_Version) : Prop := v.Lines.length ≤ 2000000 ∧ ∀ x ∈ v.Lines, x.Region.1.length ≤ 2000000
end PL

def plate_P (a : api_Application) (la : Int) (l : List (Int)) (post : Int → Int → Prop) : Prop := ∀ (n e : Int), lateR a la l n e → post n e
def plate_sp : Spec := ⟨27, false, false, [.st .api_Application, .int .i64, .sl (.int .i64)], .tup [.dat (.int .i64), .dat (.int .i64)], fun x post => plate_P (x.1 : api_Application) (x.2.1 : Int) (x.2.2.1 : List (Int)) (fun y0 y1 => post (y0, y1, ()))⟩
def plate_C : CtxR := ⟨tau, [rule1 pwork_sp], lookJ []⟩
def plate_W (a : api_Application) (la : Int) (l : List (Int)) (post : Int → Int → Prop) : Prop := (↑a.3.length : Int) ≤ (9223372036854775807 : Int) → IFB (decide ((↑a.3.length : Int) = (0 : Int))) (post (0 : Int) (1 : Int)) ((Int.NonNeg (0 : Int) ∧ (0 : Int) < (↑a.3.length : Int)) ∧ IFB (decide (la < (0 : Int)) || decide ((36864 : Int) < la) || decide ((ix a.3 (0 : Int)).1 < (0 : Int)) || decide ((36864 : Int) < (ix a.3 (0 : Int)).1)) (post (0 : Int) (9 : Int)) (∀ (v1 v2 : Int), workP l (IntKind.i64.wrap (la + (1 : Int))) (IntKind.i64.wrap (Max.max la (ix a.3 (0 : Int)).1 + (1 : Int))) v1 v2 → post v1 v2))
theorem plate_w (a : api_Application) (la : Int) (l : List (Int)) (post : dens (shT plate_sp.rs []) → Prop) : plate_W a la l (fun y0 y1 => post (y0, y1, ())) = walkG (callR Tryz.prog plate_C (drawR Tryz.prog tau) 8 0) 27 false [tv (.st .api_Application) a, tv (.int .i64) la, tv (.sl (.int .i64)) l] plate_sp.rs post := by kernel_rfl
theorem plate_of (h : ∀ (a : api_Application) (la : Int) (l : List (Int)) (post : Int → Int → Prop), plate_P a la l post → plate_W a la l post) : SpecOK Tryz.prog plate_sp := SpecOK.of_rules (C := plate_C) (dr := drawR Tryz.prog tau) (n := 8) (fk := 0) (.cons (rule1_ok pwork_ok) .nil) (drawR_ok tau) fun x post hp => HoldW.of (plate_w x.1 x.2.1 x.2.2.1 post) (h x.1 x.2.1 x.2.2.1 (fun y0 y1 => post (y0, y1, ())) hp)

theorem late_mid {la x : Int} (h : ¬ (la < 0 ∨ 36864 < la ∨ x < 0 ∨ 36864 < x)) : IntKind.i64.wrap (la + 1) = la + 1 ∧ IntKind.i64.wrap (max la x + 1) = max la x + 1 := ⟨wrap_in (by omega) (by omega), wrap_in (by omega) (by omega)⟩
theorem late_bad {la x : Int} : (decide (la < 0) || decide (36864 < la) || decide (x < 0) || decide (36864 < x)) = true ↔ (la < 0 ∨ 36864 < la ∨ x < 0 ∨ 36864 < x) := by
  simp only [Bool.or_eq_true, decide_eq_true_eq]; omega
theorem plate_ok : SpecOK Tryz.prog plate_sp := plate_of fun a la l post hp => by
  obtain ⟨f, y, vs⟩ := a
  unfold plate_W
  unfold plate_P lateR at hp
  dsimp only at hp ⊢
  intro _
  refine IFB.mk (fun h => ?_) (fun h => ⟨⟨Int.NonNeg.mk _, ?_⟩, IFB.mk (fun h2 => ?_) (fun h2 n e hw => ?_)⟩)
  · have h : (vs.length : Int) = 0 := by simpa using h
    exact hp _ _ (.inl ⟨by omega, rfl, rfl⟩)
  all_goals have h : ¬ (vs.length : Int) = 0 := by simpa using h
  · omega
  · exact hp _ _ (.inr (.inl ⟨by omega, late_bad.1 h2, rfl, rfl⟩))
  · have hn : ¬ (la < 0 ∨ 36864 < la ∨ (ix vs 0).1 < 0 ∨ 36864 < (ix vs 0).1) := fun q => by rw [late_bad.2 q] at h2; cases h2
    rw [(late_mid hn).1, (late_mid hn).2] at hw
    exact hp _ _ (.inr (.inr ⟨by omega, hn, hw⟩))

def rlate_P (a : api_Application) (la : Int) (l : List (Int)) (post : Int → Int → Prop) : Prop := ∀ (n e : Int), lateR a la l n e → post n e
def rlate_sp : Spec := ⟨28, false, false, [.st .api_Application, .int .i64, .sl (.int .i64)], .tup [.dat (.int .i64), .dat (.int .i64)], fun x post => rlate_P (x.1 : api_Application) (x.2.1 : Int) (x.2.2.1 : List (Int)) (fun y0 y1 => post (y0, y1, ()))⟩
def rlate_C : CtxR := ⟨tau, [rule1 rwork_sp], lookJ []⟩
def rlate_W (a : api_Application) (la : Int) (l : List (Int)) (post : Int → Int → Prop) : Prop := (↑a.3.length : Int) ≤ (9223372036854775807 : Int) → IFB (decide ((↑a.3.length : Int) = (0 : Int))) (post (0 : Int) (1 : Int)) ((Int.NonNeg (0 : Int) ∧ (0 : Int) < (↑a.3.length : Int)) ∧ IFB (decide (la < (0 : Int)) || decide ((36864 : Int) < la) || decide ((ix a.3 (0 : Int)).1 < (0 : Int)) || decide ((36864 : Int) < (ix a.3 (0 : Int)).1)) (post (0 : Int) (9 : Int)) (∀ (v1 v2 : Int), workP l (IntKind.i64.wrap (la + (1 : Int))) (IntKind.i64.wrap (Max.max (ix a.3 (0 : Int)).1 la + (1 : Int))) v1 v2 → post v1 v2))
theorem rlate_w (a : api_Application) (la : Int) (l : List (Int)) (post : dens (shT rlate_sp.rs []) → Prop) : rlate_W a la l (fun y0 y1 => post (y0, y1, ())) = walkG (callR Tryz.prog rlate_C (drawR Tryz.prog tau) 8 0) 28 false [tv (.st .api_Application) a, tv (.int .i64) la, tv (.sl (.int .i64)) l] rlate_sp.rs post := by kernel_rfl
theorem rlate_of (h : ∀ (a : api_Application) (la : Int) (l : List (Int)) (post : Int → Int → Prop), rlate_P a la l post → rlate_W a la l post) : SpecOK Tryz.prog rlate_sp := SpecOK.of_rules (C := rlate_C) (dr := drawR Tryz.prog tau) (n := 8) (fk := 0) (.cons (rule1_ok rwork_ok) .nil) (drawR_ok tau) fun x post hp => HoldW.of (rlate_w x.1 x.2.1 x.2.2.1 post) (h x.1 x.2.1 x.2.2.1 (fun y0 y1 => post (y0, y1, ())) hp)
theorem rlate_ok : SpecOK Tryz.prog rlate_sp := rlate_of fun a la l post hp => by
  obtain ⟨f, y, vs⟩ := a
  unfold rlate_W
  unfold rlate_P lateR at hp
  dsimp only at hp ⊢
  intro _
  refine IFB.mk (fun h => ?_) (fun h => ⟨⟨Int.NonNeg.mk _, ?_⟩, IFB.mk (fun h2 => ?_) (fun h2 n e hw => ?_)⟩)
  · have h : (vs.length : Int) = 0 := by simpa using h
    exact hp _ _ (.inl ⟨by omega, rfl, rfl⟩)
  all_goals have h : ¬ (vs.length : Int) = 0 := by simpa using h
  · omega
  · exact hp _ _ (.inr (.inl ⟨by omega, late_bad.1 h2, rfl, rfl⟩))
  · have hn : ¬ (la < 0 ∨ 36864 < la ∨ (ix vs 0).1 < 0 ∨ 36864 < (ix vs 0).1) := fun q => by rw [late_bad.2 q] at h2; cases h2
    rw [Int.max_comm, (late_mid hn).1, (late_mid hn).2] at hw
    exact hp _ _ (.inr (.inr ⟨by omega, hn, hw⟩))

def pbest_P (l : List (api_Application)) (f : Int) (y : Int) (post : Int → Bool → Prop) : Prop := (l.length ≤ 1000000000) ∧ post ((bestS l f y).1) ((bestS l f y).2)
def pbest_sp : Spec := ⟨31, false, false, [.sl (.st .api_Application), .int .i64, .int .i64], .tup [.dat (.int .i64), .dat (.bool)], fun x post => pbest_P (x.1 : List (api_Application)) (x.2.1 : Int) (x.2.2.1 : Int) (fun y0 y1 => post (y0, y1, ()))⟩
def pbest_C : CtxR := ⟨tau, [], lookJ [(1024, 0, ⟨[(0, .dat (.int .i64))], [], [], [], []⟩), (1024, 5, ⟨[(8, .dat (.int .i64))], [], [9, 10, 5, 11, 12, 13, 14, 15, 16, 18], [], []⟩)]⟩
def pbest_W (l : List (api_Application)) (f : Int) (y : Int) (post : Int → Bool → Prop) : Prop := JOIN [Ty.int IntKind.i64] (fun (y1 : Int) ↦ post (Max.max y1 (0 : Int)) (decide ((0 : Int) ≤ y1))) fun (J2 : Int → Prop) ↦ (↑l.length : Int) ≤ (9223372036854775807 : Int) → LOOP [Ty.int IntKind.i64] (fun (rec3 : Int → Prop) (z4 : Int) ↦ IFB (decide (z4 < (↑l.length : Int))) (((0 : Int) ≤ z4 ∧ z4 < (↑l.length : Int)) ∧ IFB (decide ((ix l z4).1 = f) && decide ((ix l z4).2 = y)) (J2 z4) (rec3 (IntKind.i64.wrap (z4 + (1 : Int))))) (J2 (-1 : Int))) ((0 : Int), PUnit.unit)
theorem pbest_w (l : List (api_Application)) (f : Int) (y : Int) (post : dens (shT pbest_sp.rs []) → Prop) : pbest_W l f y (fun y0 y1 => post (y0, y1, ())) = walkG (callR Tryz.prog pbest_C (drawR Tryz.prog tau) 8 0) 31 false [tv (.sl (.st .api_Application)) l, tv (.int .i64) f, tv (.int .i64) y] pbest_sp.rs post := by kernel_rfl
theorem pbest_of (h : ∀ (l : List (api_Application)) (f : Int) (y : Int) (post : Int → Bool → Prop), pbest_P l f y post → pbest_W l f y post) : SpecOK Tryz.prog pbest_sp := SpecOK.of_rules (C := pbest_C) (dr := drawR Tryz.prog tau) (n := 8) (fk := 0) .nil (drawR_ok tau) fun x post hp => HoldW.of (pbest_w x.1 x.2.1 x.2.2.1 post) (h x.1 x.2.1 x.2.2.1 (fun y0 y1 => post (y0, y1, ())) hp)

theorem best_some {l : List api_Application} {f y : Int} {k : Nat} (hk : k < l.length) (h0 : ∀ j, j < k → (decide ((ix l (j : Int)).1 = f) && decide ((ix l (j : Int)).2 = y)) = false) (h1 : (decide ((ix l (k : Int)).1 = f) && decide ((ix l (k : Int)).2 = y)) = true) : bestS l f y = ((k : Int), true) := by
  unfold bestS
  rw [show l.findIdx? (fun a => decide (a.1 = f) && decide (a.2 = y)) = some k from ?_]
  rw [List.findIdx?_eq_some_iff_getElem]
  refine ⟨hk, by rw [ix_lt hk] at h1; exact h1, fun j hj => ?_⟩
  have := h0 j hj
  rw [ix_lt (by omega)] at this
  rw [this]; simp
theorem best_none {l : List api_Application} {f y : Int} (h0 : ∀ j, j < l.length → (decide ((ix l (j : Int)).1 = f) && decide ((ix l (j : Int)).2 = y)) = false) : bestS l f y = (0, false) := by
  unfold bestS
  rw [show l.findIdx? (fun a => decide (a.1 = f) && decide (a.2 = y)) = none from ?_]
  rw [List.findIdx?_eq_none_iff]
  intro x hx
  obtain ⟨j, hj, rfl⟩ := List.getElem_of_mem hx
  have := h0 j hj
  rwa [ix_lt hj] at this
theorem pbest_ok : SpecOK Tryz.prog pbest_sp := pbest_of fun l f y post hp => by
  obtain ⟨hl, hp⟩ := hp
  unfold pbest_W
  refine JOIN.opq fun (J2 : Int → Prop) hJ2 => ?_
  intro _
  refine loopCmp (n := l.length) (by omega) (p := fun j => (decide ((ix l (j : Int)).1 = f) && decide ((ix l (j : Int)).2 = y)) = false) (fun rec k hk hpre hrec => ⟨by omega, IFB.mk (fun h => ?_) (fun h => hrec h)⟩) fun hall => ?_
  · rw [best_some hk hpre h] at hp
    rw [hJ2]
    dsimp only
    rw [decide_eq_true (by omega), Int.max_eq_left (by omega)]
    exact hp
  · rw [best_none hall] at hp
    rw [hJ2]
    exact hp

def rbest_P (l : List (api_Application)) (f : Int) (y : Int) (post : Int → Bool → Prop) : Prop := (l.length ≤ 1000000000) ∧ post ((bestS l f y).1) ((bestS l f y).2)
def rbest_sp : Spec := ⟨32, false, false, [.sl (.st .api_Application), .int .i64, .int .i64], .tup [.dat (.int .i64), .dat (.bool)], fun x post => rbest_P (x.1 : List (api_Application)) (x.2.1 : Int) (x.2.2.1 : Int) (fun y0 y1 => post (y0, y1, ()))⟩
def rbest_C : CtxR := ⟨tau, [], lookJ [(0, 5, ⟨[(12, .dat (.int .i64))], [], [13, 14, 15, 16, 9, 8, 17, 18, 19, 20, 21, 26, 22, 23, 24, 25, 28], [], []⟩)]⟩
def rbest_W (l : List (api_Application)) (f : Int) (y : Int) (post : Int → Bool → Prop) : Prop := (↑l.length : Int) ≤ (9223372036854775807 : Int) → LOOP [Ty.int IntKind.i64] (fun (rec1 : Int → Prop) (z2 : Int) ↦ IFB (decide (z2 < (↑l.length : Int))) (((0 : Int) ≤ z2 ∧ z2 < (↑l.length : Int)) ∧ IFB (decide ((ix l z2).1 = f) && decide ((ix l z2).2 = y)) (post z2 true) (rec1 (IntKind.i64.wrap (z2 + (1 : Int))))) (post (0 : Int) false)) ((0 : Int), PUnit.unit)
theorem rbest_w (l : List (api_Application)) (f : Int) (y : Int) (post : dens (shT rbest_sp.rs []) → Prop) : rbest_W l f y (fun y0 y1 => post (y0, y1, ())) = walkG (callR Tryz.prog rbest_C (drawR Tryz.prog tau) 8 0) 32 false [tv (.sl (.st .api_Application)) l, tv (.int .i64) f, tv (.int .i64) y] rbest_sp.rs post := by kernel_rfl
theorem rbest_of (h : ∀ (l : List (api_Application)) (f : Int) (y : Int) (post : Int → Bool → Prop), rbest_P l f y post → rbest_W l f y post) : SpecOK Tryz.prog rbest_sp := SpecOK.of_rules (C := rbest_C) (dr := drawR Tryz.prog tau) (n := 8) (fk := 0) .nil (drawR_ok tau) fun x post hp => HoldW.of (rbest_w x.1 x.2.1 x.2.2.1 post) (h x.1 x.2.1 x.2.2.1 (fun y0 y1 => post (y0, y1, ())) hp)

theorem rbest_ok : SpecOK Tryz.prog rbest_sp := rbest_of fun l f y post hp => by
  obtain ⟨hl, hp⟩ := hp
  unfold rbest_W
  intro _
  refine loopCmp (n := l.length) (by omega) (p := fun j => (decide ((ix l (j : Int)).1 = f) && decide ((ix l (j : Int)).2 = y)) = false) (fun rec k hk hpre hrec => ⟨by omega, IFB.mk (fun h => ?_) (fun h => hrec h)⟩) fun hall => ?_
  · rw [best_some hk hpre h] at hp
    exact hp
  · rw [best_none hall] at hp
    exact hp

def rcopy_P (a : api_Application) (post : Int → Int → List (api_Version) → Prop) : Prop := (a.3.length ≤ 2000000) ∧ post (a.1) (a.2) (a.3)
def rcopy_sp : Spec := ⟨21, false, true, [.st .api_Application], .agg [.dat (.int .i64), .dat (.int .i64), .own 31 (.st .api_Version)], fun x post => rcopy_P (x.1 : api_Application) (fun y0 y1 y2 => post (y0, y1, y2, ()))⟩
def rcopy_C : CtxR := ⟨tau, [], lookJ []⟩
def rcopy_W (a : api_Application) (post : Int → Int → List (api_Version) → Prop) : Prop := ((0 : Nat) + a.3.length) * (32 : Nat) ≤ (140737488355328 : Nat) ∧ post a.1 a.2 ([] ++ a.3)
theorem rcopy_w (a : api_Application) (post : dens (shT rcopy_sp.rs []) → Prop) : rcopy_W a (fun y0 y1 y2 => post (y0, y1, y2, ())) = walkG (callR Tryz.prog rcopy_C (drawR Tryz.prog tau) 8 0) 21 false [tv (.st .api_Application) a] rcopy_sp.rs post := by kernel_rfl
theorem rcopy_of (h : ∀ (a : api_Application) (post : Int → Int → List (api_Version) → Prop), rcopy_P a post → rcopy_W a post) : SpecOK Tryz.prog rcopy_sp := SpecOK.of_rules (C := rcopy_C) (dr := drawR Tryz.prog tau) (n := 8) (fk := 0) .nil (drawR_ok tau) fun x post hp => HoldW.of (rcopy_w x.1 post) (h x.1 (fun y0 y1 y2 => post (y0, y1, y2, ())) hp)

theorem rcopy_ok : SpecOK Tryz.prog rcopy_sp := rcopy_of fun a post hp => by
  obtain ⟨hl, hp⟩ := hp
  unfold rcopy_W
  exact ⟨by omega, hp⟩

def rame_P (a : api_Application) (v : api_Version) (o : Int) (la : Int) (e : Int) (post : api_Application → Int → Prop) : Prop := (a.3.length ≤ 1999999) ∧ ∀ (b : api_Application) (q : Int), (b, q) = amendS a v o la e → post b q
def rame_sp : Spec := ⟨24, false, true, [.st .api_Application, .st .api_Version, .int .i64, .int .i64, .int .i64], .tup [.dat (.st .api_Application), .dat (.int .i64)], fun x post => rame_P (x.1 : api_Application) (x.2.1 : api_Version) (x.2.2.1 : Int) (x.2.2.2.1 : Int) (x.2.2.2.2.1 : Int) (fun y0 y1 => post (y0, y1, ()))⟩
def rame_C : CtxR := ⟨tau, [rule1 rchk_sp, rule1 rcopy_sp], lookJ []⟩
def rame_W (a : api_Application) (v : api_Version) (o : Int) (la : Int) (e : Int) (post : api_Application → Int → Prop) : Prop := ∀ (v1 : Int), v1 = chkS { Farm := a.1, Year := a.2, Versions := a.3 : api_Application } o la e → IFB (!decide (v1 = (0 : Int))) (a.3.length ≤ (2000000 : Nat) ∧ post { Farm := a.1, Year := a.2, Versions := a.3 : api_Application } v1) (a.3.length ≤ (2000000 : Nat) ∧ (a.3.length + [{ Day := v.1, Lines := v.2 : api_Version }].length) * (32 : Nat) ≤ (140737488355328 : Nat) ∧ ∀ (v2 : Int), v2 = chkS { Farm := a.1, Year := a.2, Versions := a.3 ++ [{ Day := v.1, Lines := v.2 : api_Version }] : api_Application } o la e → IFB (!decide (v2 = (0 : Int))) (a.3.length ≤ (2000000 : Nat) ∧ post { Farm := a.1, Year := a.2, Versions := a.3 : api_Application } v2) (post { Farm := a.1, Year := a.2, Versions := a.3 ++ [{ Day := v.1, Lines := v.2 : api_Version }] : api_Application } (0 : Int)))
theorem rame_w (a : api_Application) (v : api_Version) (o : Int) (la : Int) (e : Int) (post : dens (shT rame_sp.rs []) → Prop) : rame_W a v o la e (fun y0 y1 => post (y0, y1, ())) = walkG (callR Tryz.prog rame_C (drawR Tryz.prog tau) 8 0) 24 false [tv (.st .api_Application) a, tv (.st .api_Version) v, tv (.int .i64) o, tv (.int .i64) la, tv (.int .i64) e] rame_sp.rs post := by kernel_rfl
theorem rame_of (h : ∀ (a : api_Application) (v : api_Version) (o : Int) (la : Int) (e : Int) (post : api_Application → Int → Prop), rame_P a v o la e post → rame_W a v o la e post) : SpecOK Tryz.prog rame_sp := SpecOK.of_rules (C := rame_C) (dr := drawR Tryz.prog tau) (n := 8) (fk := 0) (.cons (rule1_ok rchk_ok) (.cons (rule1_ok rcopy_ok) .nil)) (drawR_ok tau) fun x post hp => HoldW.of (rame_w x.1 x.2.1 x.2.2.1 x.2.2.2.1 x.2.2.2.2.1 post) (h x.1 x.2.1 x.2.2.1 x.2.2.2.1 x.2.2.2.2.1 (fun y0 y1 => post (y0, y1, ())) hp)

theorem rame_ok : SpecOK Tryz.prog rame_sp := rame_of fun a v o la e post hp => by
  obtain ⟨hl, hp⟩ := hp
  obtain ⟨f, y, l⟩ := a
  obtain ⟨d, m⟩ := v
  unfold amendS moreV at hp
  unfold rame_W
  dsimp only at hp hl ⊢
  intro q hq
  subst hq
  refine IFB.mk (fun hb => ⟨by omega, ?_⟩) (fun hb => ⟨by omega, by simp only [List.length_cons, List.length_nil]; omega, fun q2 hq2 => ?_⟩)
  · have hb : chkS ⟨f, y, l⟩ o la e ≠ 0 := by simpa using hb
    exact hp _ _ (by rw [if_pos hb])
  · have hb : ¬ (chkS ⟨f, y, l⟩ o la e ≠ 0) := by simpa using hb
    subst hq2
    refine IFB.mk (fun hb2 => ⟨by omega, ?_⟩) (fun hb2 => ?_)
    · have hb2 : chkS ⟨f, y, l ++ [⟨d, m⟩]⟩ o la e ≠ 0 := by simpa using hb2
      exact hp _ _ (by rw [if_neg hb, if_pos hb2])
    · have hb2 : ¬ (chkS ⟨f, y, l ++ [⟨d, m⟩]⟩ o la e ≠ 0) := by simpa using hb2
      exact hp _ _ (by rw [if_neg hb, if_neg hb2])

def rinf_P (a : api_Application) (d : Int) (post : api_Version → Bool → Prop) : Prop := (a.3.length ≤ 1000000000) ∧ ∀ (q : api_Version) (b : Bool), inR a.3 d q b → post q b
def rinf_sp : Spec := ⟨26, false, true, [.st .api_Application, .int .i64], .tup [.dat (.st .api_Version), .dat (.bool)], fun x post => rinf_P (x.1 : api_Application) (x.2.1 : Int) (fun y0 y1 => post (y0, y1, ()))⟩
def rinf_C : CtxR := ⟨tau, [], lookJ [(0, 9, ⟨[(13, .dat (.int .i64)), (7, .dat .bool)], [(2, [.dat (.int .i64), .dat (.sl (.st .api_Line))])], [14, 21, 20, 19, 18, 17, 9, 16, 15, 22], [], []⟩), (0, 16, ⟨[(7, .dat .bool)], [(2, [.dat (.int .i64), .dat (.sl (.st .api_Line))])], [15, 16, 9, 17, 18, 19, 20, 21], [], []⟩)]⟩
def rinf_W (a : api_Application) (d : Int) (post : api_Version → Bool → Prop) : Prop := (↑a.3.length : Int) ≤ (9223372036854775807 : Int) → LOOP [Ty.int IntKind.i64, Ty.bool, Ty.int IntKind.i64, (Ty.st Sn.api_Line).sl] (fun (rec1 : Int → Bool → Int → List api_Line → Prop) (z2 : Int) (z3 : Bool) (z4 : Int) (z5 : List api_Line) ↦ IFB (decide (z2 < (↑a.3.length : Int))) (JOIN [Ty.bool, Ty.int IntKind.i64, (Ty.st Sn.api_Line).sl] (fun (y6 : Bool) (y7 : Int) (y8 : List api_Line) ↦ rec1 (IntKind.i64.wrap (z2 + (1 : Int))) y6 y7 y8) fun (J9 : Bool → Int → List api_Line → Prop) ↦ ((0 : Int) ≤ z2 ∧ z2 < (↑a.3.length : Int)) ∧ IFB (decide ((ix a.3 z2).1 ≤ d)) (J9 true (ix a.3 z2).1 (ix a.3 z2).2) (J9 z3 z4 z5)) (post { Day := z4, Lines := z5 : api_Version } z3)) ((0 : Int), false, (0 : Int), [], PUnit.unit)
theorem rinf_w (a : api_Application) (d : Int) (post : dens (shT rinf_sp.rs []) → Prop) : rinf_W a d (fun y0 y1 => post (y0, y1, ())) = walkG (callR Tryz.prog rinf_C (drawR Tryz.prog tau) 8 0) 26 false [tv (.st .api_Application) a, tv (.int .i64) d] rinf_sp.rs post := by kernel_rfl
theorem rinf_of (h : ∀ (a : api_Application) (d : Int) (post : api_Version → Bool → Prop), rinf_P a d post → rinf_W a d post) : SpecOK Tryz.prog rinf_sp := SpecOK.of_rules (C := rinf_C) (dr := drawR Tryz.prog tau) (n := 8) (fk := 0) .nil (drawR_ok tau) fun x post hp => HoldW.of (rinf_w x.1 x.2.1 post) (h x.1 x.2.1 (fun y0 y1 => post (y0, y1, ())) hp)

theorem loopF3 {t1 t2 t3 : Ty} {n : Nat} (hn : n ≤ 1000000000) {B : (Int → den t1 → den t2 → den t3 → Prop) → Int → den t1 → den t2 → den t3 → Prop} {K : den t1 → den t2 → den t3 → Prop} (F1 : Nat → den t1) (F2 : Nat → den t2) (F3 : Nat → den t3) (hB : ∀ (rec : Int → den t1 → den t2 → den t3 → Prop) (k : Nat), k < n → rec (IntKind.i64.wrap ((k : Int) + 1)) (F1 (k + 1)) (F2 (k + 1)) (F3 (k + 1)) → B rec (k : Int) (F1 k) (F2 k) (F3 k)) (hK : K (F1 n) (F2 n) (F3 n)) :
    LOOP [Ty.int IntKind.i64, t1, t2, t3] (fun (rec : Int → den t1 → den t2 → den t3 → Prop) (z : Int) (s1 : den t1) (s2 : den t2) (s3 : den t3) => IFB (decide (z < (n : Int))) (B rec z s1 s2 s3) (K s1 s2 s3)) ((0 : Int), F1 0, F2 0, F3 0, PUnit.unit) := by
  refine LOOP.fuel (fun u => ∃ k : Nat, u.1 = (k : Int) ∧ k ≤ n ∧ u.2.1 = F1 k ∧ u.2.2.1 = F2 k ∧ u.2.2.2.1 = F3 k) (fun u => n - Int.toNat u.1) ⟨0, rfl, Nat.zero_le _, rfl, rfl, rfl⟩ ?_
  rintro rec ⟨(z : Int), s1, s2, s3, ⟨⟩⟩ ⟨k, hz, hk, hs1, hs2, hs3⟩ hrec
  have hz : z = (k : Int) := hz
  have hs1 : s1 = F1 k := hs1
  have hs2 : s2 = F2 k := hs2
  have hs3 : s3 = F3 k := hs3
  subst hz hs1 hs2 hs3
  refine IFB.mk (fun hb => ?_) (fun hb => ?_)
  · have hb : (k : Int) < n := of_decide_eq_true hb
    refine hB _ k (by omega) ?_
    rw [wrapS (by omega)]
    exact hrec (((k + 1 : Nat) : Int), F1 (k + 1), F2 (k + 1), F3 (k + 1), ()) ⟨k + 1, rfl, by omega, rfl, rfl, rfl⟩ (by show n - ((k + 1 : Nat) : Int).toNat < n - (k : Int).toNat; omega)
  · have hb : ¬ (k : Int) < n := of_decide_eq_false hb
    have : k = n := by omega
    subst this
    exact hK
theorem inS_sn {x : api_Version} {r : List api_Version} {d : Int} : inS (r ++ [x]) d = if x.Day ≤ d then some x else inS r d := by
  unfold inS
  rw [List.reverse_append]
  by_cases h : x.Day ≤ d
  · simp [h]
  · simp [h]
theorem rinf_ok : SpecOK Tryz.prog rinf_sp := rinf_of fun a d post hp => by
  obtain ⟨hl, hp⟩ := hp
  obtain ⟨f, y, l⟩ := a
  unfold rinf_W
  dsimp only at hp hl ⊢
  intro _
  refine loopF3 (t1 := .bool) (t2 := .int .i64) (t3 := .sl (.st .api_Line)) (n := l.length) (by omega) (fun k => (inS (l.take k) d).isSome) (fun k => ((inS (l.take k) d).getD ⟨0, []⟩).1) (fun k => ((inS (l.take k) d).getD ⟨0, []⟩).2) (fun (rec : Int → Bool → Int → List api_Line → Prop) k hk hrec => JOIN.opq fun (J9 : Bool → Int → List api_Line → Prop) hJ9 => ⟨by omega, ?_⟩) ?_
  · rw [List.take_succ_eq_append_getElem hk, inS_sn, ← ix_lt hk] at hrec
    refine IFB.mk (fun h => ?_) (fun h => ?_)
    · rw [if_pos (by simpa using h)] at hrec
      rw [hJ9]; exact hrec
    · rw [if_neg (by simpa using h)] at hrec
      rw [hJ9]; exact hrec
  · rw [List.take_length]
    show post ⟨((inS l d).getD ⟨0, []⟩).1, ((inS l d).getD ⟨0, []⟩).2⟩ (inS l d).isSome
    refine hp _ _ ?_
    cases h : inS l d with
    | none => exact .inr ⟨h, rfl, rfl⟩
    | some v => exact .inl ⟨v, h, rfl, rfl⟩

def pred2_P (a : api_Version) (b : api_Version) (post : Bool → Int → Prop) : Prop := ∀ (q : Bool) (e : Int), redR a b q e → post q e
def pred2_sp : Spec := ⟨29, false, false, [.st .api_Version, .st .api_Version], .tup [.dat (.bool), .dat (.int .i64)], fun x post => pred2_P (x.1 : api_Version) (x.2.1 : api_Version) (fun y0 y1 => post (y0, y1, ()))⟩
def pred2_C : CtxR := ⟨tau, [rule1 pvals_sp, rule1 pwit_sp], lookJ [(5557299152179765, 0, ⟨[(0, .dat (.int .i64))], [], [], [], []⟩), (5557299152179765, 5, ⟨[(8, .dat (.int .i64))], [], [9, 10, 5, 11, 12, 13, 14, 15, 16, 18], [], []⟩), (6295326050687551641904219627306786, 0, ⟨[(0, .dat (.int .i64))], [], [], [], []⟩), (6295326050687551641904219627306786, 5, ⟨[(8, .dat (.int .i64))], [], [9, 10, 5, 11, 12, 13, 14, 15, 16, 18], [], []⟩)]⟩
def pred2_W (a : api_Version) (b : api_Version) (post : Bool → Int → Prop) : Prop := (↑a.2.length : Int) ≤ (9223372036854775807 : Int) → JOIN [Ty.bool] (fun (y1 : Bool) ↦ IFB (decide ((20 : Int) < (↑a.2.length : Int)) || y1) (post false (1 : Int)) (a.2.length ≤ (1000000000 : Nat) ∧ ∀ (v2 : Bool), (v2 = true ↔ linesV a.2) → JOIN [Ty.bool] (fun (y3 : Bool) ↦ IFB (!v2 || !y3) (post false (7 : Int)) (JOIN [Ty.int IntKind.i64] (fun (y4 : Int) ↦ post (!decide ((0 : Int) ≤ y4)) (0 : Int)) fun (J5 : Int → Prop) ↦ (↑b.2.length : Int) ≤ (9223372036854775807 : Int) → LOOP [Ty.int IntKind.i64] (fun (rec6 : Int → Prop) (z7 : Int) ↦ IFB (decide (z7 < (↑b.2.length : Int))) (((0 : Int) ≤ z7 ∧ z7 < (↑b.2.length : Int)) ∧ JOIN [Ty.int IntKind.i64] (fun (y8 : Int) ↦ IFB (!decide ((0 : Int) ≤ y8)) (J5 z7) (rec6 (IntKind.i64.wrap (z7 + (1 : Int))))) fun (J9 : Int → Prop) ↦ (↑a.2.length : Int) ≤ (9223372036854775807 : Int) → LOOP [Ty.int IntKind.i64] (fun (rec10 : Int → Prop) (z11 : Int) ↦ IFB (decide (z11 < (↑a.2.length : Int))) (((0 : Int) ≤ z11 ∧ z11 < (↑a.2.length : Int)) ∧ JOIN [Ty.bool] (fun (y12 : Bool) ↦ IFB (decide ((ix b.2 z7).1 = (ix a.2 z11).1) && decide ((ix b.2 z7).3 = (ix a.2 z11).3) && decide (IntKind.i64.wrap (↑(Nat.instAndOp.1 ((ix b.2 z7).4 % (18446744073709551616 : Int)).toNat (Nat.instXorOp.1 ((18446744073709551615 : Nat)) ((ix a.2 z11).4 % (18446744073709551616 : Int)).toNat)) : Int) = (0 : Int)) && y12) (J9 z11) (rec10 (IntKind.i64.wrap (z11 + (1 : Int))))) fun (J13 : Bool → Prop) ↦ IFB (gx true (decide ((ix b.2 z7).1 = (ix a.2 z11).1) && decide ((ix b.2 z7).3 = (ix a.2 z11).3) && decide (IntKind.i64.wrap (↑(Nat.instAndOp.1 ((ix b.2 z7).4 % (18446744073709551616 : Int)).toNat (Nat.instXorOp.1 ((18446744073709551615 : Nat)) ((ix a.2 z11).4 % (18446744073709551616 : Int)).toNat)) : Int) = (0 : Int)))) (∀ (v14 : Bool), (v14 = true ↔ withinP (ix b.2 z7).2.1 (ix a.2 z11).2.1) → J13 v14) (J13 false)) (J9 (-1 : Int))) ((0 : Int), PUnit.unit)) (J5 (-1 : Int))) ((0 : Int), PUnit.unit))) fun (J15 : Bool → Prop) ↦ IFB (gx false !v2) (b.2.length ≤ (1000000000 : Nat) ∧ ∀ (v16 : Bool), (v16 = true ↔ linesV b.2) → J15 v16) (J15 false))) fun (J17 : Bool → Prop) ↦ IFB (gx false (decide ((20 : Int) < (↑a.2.length : Int)))) ((↑b.2.length : Int) ≤ (9223372036854775807 : Int) → J17 (decide ((20 : Int) < (↑b.2.length : Int)))) (J17 false)
theorem pred2_w (a : api_Version) (b : api_Version) (post : dens (shT pred2_sp.rs []) → Prop) : pred2_W a b (fun y0 y1 => post (y0, y1, ())) = walkG (callR Tryz.prog pred2_C (drawR Tryz.prog tau) 10 0) 29 false [tv (.st .api_Version) a, tv (.st .api_Version) b] pred2_sp.rs post := by kernel_rfl
theorem pred2_of (h : ∀ (a : api_Version) (b : api_Version) (post : Bool → Int → Prop), pred2_P a b post → pred2_W a b post) : SpecOK Tryz.prog pred2_sp := SpecOK.of_rules (C := pred2_C) (dr := drawR Tryz.prog tau) (n := 10) (fk := 0) (.cons (rule1_ok pvals_ok) (.cons (rule1_ok pwit_ok) .nil)) (drawR_ok tau) fun x post hp => HoldW.of (pred2_w x.1 x.2.1 post) (h x.1 x.2.1 (fun y0 y1 => post (y0, y1, ())) hp)

theorem red_loop2 {la lb : List api_Line} {post : Bool → Int → Prop} (hla : la.length ≤ 1000000) (hlb : lb.length ≤ 1000000) (hp : ∀ q : Bool, (q = true ↔ ∀ x ∈ lb, ∃ y ∈ la, lessL x y) → post q 0) : JOIN [Ty.int IntKind.i64] (fun (y4 : Int) ↦ post (!decide ((0 : Int) ≤ y4)) (0 : Int)) fun (J5 : Int → Prop) ↦ (↑lb.length : Int) ≤ (9223372036854775807 : Int) → LOOP [Ty.int IntKind.i64] (fun (rec6 : Int → Prop) (z7 : Int) ↦ IFB (decide (z7 < (↑lb.length : Int))) (((0 : Int) ≤ z7 ∧ z7 < (↑lb.length : Int)) ∧ JOIN [Ty.int IntKind.i64] (fun (y8 : Int) ↦ IFB (!decide ((0 : Int) ≤ y8)) (J5 z7) (rec6 (IntKind.i64.wrap (z7 + (1 : Int))))) fun (J9 : Int → Prop) ↦ (↑la.length : Int) ≤ (9223372036854775807 : Int) → LOOP [Ty.int IntKind.i64] (fun (rec10 : Int → Prop) (z11 : Int) ↦ IFB (decide (z11 < (↑la.length : Int))) (((0 : Int) ≤ z11 ∧ z11 < (↑la.length : Int)) ∧ JOIN [Ty.bool] (fun (y12 : Bool) ↦ IFB (decide ((ix lb z7).1 = (ix la z11).1) && decide ((ix lb z7).3 = (ix la z11).3) && decide (IntKind.i64.wrap (↑(Nat.instAndOp.1 ((ix lb z7).4 % (18446744073709551616 : Int)).toNat (Nat.instXorOp.1 ((18446744073709551615 : Nat)) ((ix la z11).4 % (18446744073709551616 : Int)).toNat)) : Int) = (0 : Int)) && y12) (J9 z11) (rec10 (IntKind.i64.wrap (z11 + (1 : Int))))) fun (J13 : Bool → Prop) ↦ IFB (gx true (decide ((ix lb z7).1 = (ix la z11).1) && decide ((ix lb z7).3 = (ix la z11).3) && decide (IntKind.i64.wrap (↑(Nat.instAndOp.1 ((ix lb z7).4 % (18446744073709551616 : Int)).toNat (Nat.instXorOp.1 ((18446744073709551615 : Nat)) ((ix la z11).4 % (18446744073709551616 : Int)).toNat)) : Int) = (0 : Int)))) (∀ (v14 : Bool), (v14 = true ↔ withinP (ix lb z7).2.1 (ix la z11).2.1) → J13 v14) (J13 false)) (J9 (-1 : Int))) ((0 : Int), PUnit.unit)) (J5 (-1 : Int))) ((0 : Int), PUnit.unit) := by
  have hm : decide (0 ≤ (-1 : Int)) = false := rfl
  refine JOIN.opq fun (J5 : Int → Prop) hJ5 => ?_
  intro _
  refine loopCmp (n := lb.length) (by omega) (p := fun j => ∃ y ∈ la, lessL (ix lb (j : Int)) y) (fun rec k hk hpre hrec => ⟨by omega, ?_⟩) fun hall => ?_
  · refine JOIN.opq fun (J9 : Int → Prop) hJ9 => ?_
    intro _
    refine loopCmp (n := la.length) (by omega) (p := fun j => ¬ lessL (ix lb (k : Int)) (ix la (j : Int))) (fun rec2 m hm2 hpre2 hrec2 => ⟨by omega, ?_⟩) fun hall2 => ?_
    · refine JOIN.opq fun (J13 : Bool → Prop) hJ13 => ?_
      have hx : ix la (m : Int) ∈ la := ix_mem (by omega) (by omega)
      have hJ13 : ∀ y : Bool, ((lessB (ix lb (k : Int)) (ix la (m : Int)) && y) = true → lessL (ix lb (k : Int)) (ix la (m : Int))) → ((lessB (ix lb (k : Int)) (ix la (m : Int)) && y) = false → ¬ lessL (ix lb (k : Int)) (ix la (m : Int))) → J13 y := fun y q1 q2 => by
        rw [hJ13]
        refine IFB.mk (fun h => ?_) (fun h => hrec2 (q2 h))
        rw [hJ9]
        dsimp only
        rw [decide_eq_true (by omega : (0 : Int) ≤ (m : Int))]
        exact IFB.mk (fun h => (by cases h)) (fun _ => hrec ⟨_, hx, q1 h⟩)
      refine IFB.mk (fun h v hv => hJ13 v (fun q => ?_) (fun q => ?_)) (fun h => hJ13 false (fun q => ?_) (fun _ q => ?_))
      · rw [Bool.and_eq_true] at q
        exact ⟨q.1, hv.1 q.2⟩
      · intro hl
        have : lessB (ix lb (k : Int)) (ix la (m : Int)) = true := hl.1
        rw [this, hv.2 hl.2] at q
        cases q
      · rw [Bool.and_false] at q; cases q
      · have h : lessB (ix lb (k : Int)) (ix la (m : Int)) = false := h
        rw [q.1] at h; cases h
    · rw [hJ9]
      dsimp only
      rw [hm]
      refine IFB.mk (fun _ => ?_) (fun h => (by cases h))
      rw [hJ5]
      dsimp only
      rw [decide_eq_true (by omega : (0 : Int) ≤ (k : Int))]
      refine hp false ⟨fun h => (by cases h), fun h => ?_⟩
      obtain ⟨y, hy, hl⟩ := h _ (ix_mem (l := lb) (i := (k : Int)) (by omega) (by omega))
      obtain ⟨j, hj, rfl⟩ := List.getElem_of_mem hy
      have := hall2 j hj
      rw [ix_lt hj] at this
      exact absurd hl this
  · rw [hJ5]
    dsimp only
    rw [hm]
    refine hp true ⟨fun _ x hx => ?_, fun _ => rfl⟩
    obtain ⟨j, hj, rfl⟩ := List.getElem_of_mem hx
    have := hall j hj
    rwa [ix_lt hj] at this

theorem pred2_ok : SpecOK Tryz.prog pred2_sp := pred2_of fun a b post hp => by
  obtain ⟨da, la⟩ := a
  obtain ⟨db, lb⟩ := b
  unfold pred2_W
  dsimp only
  intro _
  refine JOIN.opq fun (J17 : Bool → Prop) hJ17 => ?_
  have hbig : (20 < la.length ∨ 20 < lb.length) → post false 1 := fun h => hp _ _ (.inl ⟨h, rfl, rfl⟩)
  refine IFB.mk (fun h _ => ?_) (fun h => ?_)
  · have hla : ¬ (20 : Int) < la.length := by simpa [gx] using h
    rw [hJ17]
    dsimp only
    refine IFB.mk (fun h2 => hbig (.inr ?_)) (fun h2 => ⟨by omega, fun v2 hv2 => ?_⟩)
    · have h2 : (decide ((20 : Int) < la.length) || decide ((20 : Int) < lb.length)) = true := h2
      rw [Bool.or_eq_true, decide_eq_true_eq, decide_eq_true_eq] at h2
      omega
    have h2 : (decide ((20 : Int) < la.length) || decide ((20 : Int) < lb.length)) = false := h2
    rw [Bool.or_eq_false_iff, decide_eq_false_iff_not, decide_eq_false_iff_not] at h2
    have hs : ¬ (20 < la.length ∨ 20 < lb.length) := by omega
    refine JOIN.opq fun (J15 : Bool → Prop) hJ15 => ?_
    have hno : ¬ (linesV la ∧ linesV lb) → post false 7 := fun h => hp _ _ (.inr (.inl ⟨hs, h, rfl, rfl⟩))
    refine IFB.mk (fun h3 => ⟨by omega, fun v16 hv16 => ?_⟩) (fun h3 => ?_)
    · have h3 : v2 = true := by simpa [gx] using h3
      subst h3
      rw [hJ15]
      dsimp only
      refine IFB.mk (fun h4 => hno fun hq => ?_) (fun h4 => ?_)
      · have : v16 = true := hv16.2 hq.2
        subst this; cases h4
      · have h4 : v16 = true := by simpa using h4
        subst h4
        refine red_loop2 (la := la) (lb := lb) (by omega) (by omega) fun q hq => hp _ _ (.inr (.inr ⟨hs, ⟨hv2.1 rfl, hv16.1 rfl⟩, hq, rfl⟩))
    · have h3 : v2 = false := by simpa [gx] using h3
      subst h3
      rw [hJ15]
      dsimp only
      refine IFB.mk (fun h4 => hno fun hq => ?_) (fun h4 => by cases h4)
      have : false = true := hv2.2 hq.1
      cases this
  · have hla : (20 : Int) < la.length := by simpa [gx] using h
    rw [hJ17]
    dsimp only
    refine IFB.mk (fun _ => hbig (.inl (by omega))) (fun h2 => ?_)
    have h2 : (decide ((20 : Int) < la.length) || false) = false := h2
    rw [decide_eq_true hla] at h2
    cases h2

def kmod_P (k : Int) (n : Int) (post : Int → Prop) : Prop := (n ≤ 9223372036854775807) ∧ ∀ q : Int, q = modQ k n → post q
def kmod_sp : Spec := ⟨22, false, false, [.int .i64, .int .i64], .dat (.int .i64), fun x post => kmod_P (x.1 : Int) (x.2.1 : Int) (fun y0 => post (y0, ()))⟩
def kmod_C : CtxR := ⟨tau, [], lookJ [(0, 12, ⟨[(0, .dat (.int .i64))], [], [10, 11, 12, 13, 14], [], []⟩)]⟩
def kmod_W (k : Int) (n : Int) (post : Int → Prop) : Prop := IFB (decide (n < (1 : Int))) (post (0 : Int)) ((n = (0 : Int) → False) ∧ JOIN [Ty.int IntKind.i64] (fun (y1 : Int) ↦ post y1) fun (J2 : Int → Prop) ↦ IFB (decide (k.tmod n < (0 : Int))) (J2 (IntKind.i64.wrap (k.tmod n + n))) (J2 (k.tmod n)))
theorem kmod_w (k : Int) (n : Int) (post : dens (shT kmod_sp.rs []) → Prop) : kmod_W k n (fun y0 => post (y0, ())) = walkG (callR Tryz.prog kmod_C (drawR Tryz.prog tau) 8 0) 22 false [tv (.int .i64) k, tv (.int .i64) n] kmod_sp.rs post := by kernel_rfl
theorem kmod_of (h : ∀ (k : Int) (n : Int) (post : Int → Prop), kmod_P k n post → kmod_W k n post) : SpecOK Tryz.prog kmod_sp := SpecOK.of_rules (C := kmod_C) (dr := drawR Tryz.prog tau) (n := 8) (fk := 0) .nil (drawR_ok tau) fun x post hp => HoldW.of (kmod_w x.1 x.2.1 post) (h x.1 x.2.1 (fun y0 => post (y0, ())) hp)

theorem kmod_ok : SpecOK Tryz.prog kmod_sp := kmod_of fun k n post hp => by
  obtain ⟨hn, hp⟩ := hp
  have hp := hp _ rfl
  unfold modQ at hp
  unfold kmod_W
  refine IFB.mk (fun h => ?_) (fun h => ⟨fun e => ?_, JOIN.opq fun (J2 : Int → Prop) hJ2 => IFB.mk (fun h2 => ?_) (fun h2 => ?_)⟩)
  · rw [if_pos (by simpa using h)] at hp; exact hp
  · subst e; simp at h
  all_goals
    have h : ¬ n < 1 := by simpa using h
    rw [if_neg h] at hp
    rw [hJ2]
  · have h2 : k.tmod n < 0 := by simpa using h2
    rcases Keep.tmod_cases k n (by omega) with ⟨a, b, c⟩ | ⟨a, b, c⟩
    · omega
    · rw [c] at hp
      rw [wrap_in (by omega) (by omega)]
      exact hp
  · have h2 : ¬ k.tmod n < 0 := by simpa using h2
    rcases Keep.tmod_cases k n (by omega) with ⟨a, b, c⟩ | ⟨a, b, c⟩
    · rw [c] at hp; exact hp
    · omega

end RE
end Go.Proofs.YtfbfknmnkcddpaaGreat
