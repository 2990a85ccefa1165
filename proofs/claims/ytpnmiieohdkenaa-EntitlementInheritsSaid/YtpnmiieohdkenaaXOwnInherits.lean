/-
  Chapter 21, in plain words: what single acts do.
-/
import Derived.Test.YtpnmiieohdkenaaXPlain
import Derived.Test.YtpnmiieohdkenaaXTape
set_option linter.unusedVariables false
set_option maxRecDepth 100000
namespace Go.Proofs.Ytpnmiieohdkenaa
open Go.RowKit
namespace RE
open PL
theorem wf_u8 {a : Int} (h : (Lit.int .u8 a).wf = true) : 0 ≤ a ∧ a ≤ 255 := by
  simp [Lit.wf, IntKind.min, IntKind.max, IntKind.bits, IntKind.signed] at h; omega
theorem wf_u16 {a : Int} (h : (Lit.int .u16 a).wf = true) : 0 ≤ a ∧ a ≤ 65535 := by
  simp [Lit.wf, IntKind.min, IntKind.max, IntKind.bits, IntKind.signed] at h; omega
theorem wf_u32 {a : Int} (h : (Lit.int .u32 a).wf = true) : 0 ≤ a ∧ a ≤ 4294967295 := by
  simp [Lit.wf, IntKind.min, IntKind.max, IntKind.bits, IntKind.signed] at h; omega
theorem wf_i64 {a : Int} (h : (Lit.int .i64 a).wf = true) : -9223372036854775808 ≤ a ∧ a ≤ 9223372036854775807 := by
  simp [Lit.wf, IntKind.min, IntKind.max, IntKind.bits, IntKind.signed] at h; omega
/-- A number drawn out of another one. -/
theorem pick_in {a n : Int} (h0 : 0 ≤ a) (h1 : a ≤ 4294967295) (hn : 1 ≤ n) (hn2 : n ≤ 4294967295) : 0 ≤ (IntKind.i64.wrap a).tmod n ∧ (IntKind.i64.wrap a).tmod n < n ∧ IntKind.i64.wrap (1 + (IntKind.i64.wrap a).tmod n) = 1 + (IntKind.i64.wrap a).tmod n := by
  rw [wrap_in (by omega) (by omega)]
  have h2 := Int.tmod_nonneg n h0
  have h3 := Int.tmod_lt_of_pos a (show 0 < n by omega)
  exact ⟨h2, h3, wrap_in (by omega) (by omega)⟩
theorem sqS_le {p : api_Lot → Bool} : ∀ {ls : List api_Lot}, (∀ l ∈ ls, LotOK l) → sqS p ls ≤ sumL ls
  | [], _ => Int.le_refl _
  | x :: r, h => by
    have h1 := sqS_le (p := p) (ls := r) (fun l hl => h l (by simp [hl]))
    have h2 := h x (by simp)
    unfold LotOK at h2
    unfold sqS sumL
    split <;> omega
theorem held_eq {x : api_Entitlements} (h : chkE x = 0) (n : Int) : heldS x n = (ownS n x.Lots, useS n x.Lots) := by
  unfold heldS; rw [if_pos h]
theorem held_in {x : api_Entitlements} (h : chkE x = 0) (n : Int) : 0 ≤ ownS n x.Lots ∧ 0 ≤ useS n x.Lots ∧ ownS n x.Lots ≤ 1099511627776 ∧ useS n x.Lots ≤ 1099511627776 := by
  obtain ⟨c1, c2, c3, c4, c5, c6, c7⟩ := chkE_iff.1 h
  have hl : ∀ l ∈ x.Lots, LotOK l := fun l hl => (c6.1 l hl).1
  rw [ownS_sq, useS_sq]
  have h1 := sqS_nonneg (p := fun l => decide (l.Owner = n)) hl
  have h2 := sqS_nonneg (p := fun l => decide (l.User = n)) hl
  have h3 := sqS_le (p := fun l => decide (l.Owner = n)) hl
  have h4 := sqS_le (p := fun l => decide (l.User = n)) hl
  exact ⟨h1, h2, by omega, by omega⟩
/-! ### finding a lot -/
theorem seek_at : ∀ {ls : List api_Lot} {k : Nat} {b : Int}, ls.Pairwise (fun a b => a.Number < b.Number) → k < ls.length → seekS (ix ls (k : Int)).Number b ls = b + k
  | [], k, b, _, h => by simp at h
  | x :: r, 0, b, _, _ => by
    have e : ix (x :: r) ((0 : Nat) : Int) = x := rfl
    unfold seekS
    rw [e, if_pos rfl]; simp
  | x :: r, k + 1, b, hp, h => by
    rw [List.pairwise_cons] at hp
    have hk : k < r.length := by simpa using h
    have hr : ix (x :: r) ((k + 1 : Nat) : Int) = ix r (k : Int) := by simp [ix, List.getD]
    have hm := hp.1 _ (get_mem (l := r) (i := (k : Int)) (by omega) (by omega))
    unfold seekS
    rw [hr, if_neg (by omega), seek_at hp.2 hk]
    push_cast; omega
theorem seek_none {n : Int} : ∀ {ls : List api_Lot} {b : Int}, (∀ l ∈ ls, l.Number ≠ n) → seekS n b ls = -1
  | [], _, _ => rfl
  | x :: r, b, h => by
    unfold seekS
    rw [if_neg (h x (by simp)), seek_none (fun l hl => h l (by simp [hl]))]
theorem seek_app {n : Int} : ∀ {ls : List api_Lot} {b : Int} {v : api_Lot}, (∀ l ∈ ls, l.Number ≠ n) → v.Number = n → seekS n b (ls ++ [v]) = b + ls.length
  | [], b, v, _, h => by show (if v.Number = n then b else _) = _; rw [if_pos h]; simp
  | x :: r, b, v, h, hv => by
    show (if x.Number = n then b else seekS n (b + 1) (r ++ [v])) = _
    rw [if_neg (h x (by simp)), seek_app (fun l hl => h l (by simp [hl])) hv]
    simp; omega
/-! ### acts on a register that is valid and not full -/
structure Fit (x : api_Entitlements) (i : Nat) (l : api_Lot) : Prop where
  c : chkE x = 0
  v : Vld x.Next x.Lots
  len : x.Lots.length < 60
  nx : x.Next < 1000
  nx1 : 1 ≤ x.Next
  re : 0 ≤ x.Reserve
  tot : sumL x.Lots + x.Reserve ≤ 1099511627776
  il : i < x.Lots.length
  el : ix x.Lots (i : Int) = l
  lo : LotOK l
theorem Fit.of {k : Int} {x : api_Entitlements} (h : EInv k x) (hk : k ≤ 50) {i : Nat} (hi : i < x.Lots.length) : Fit x i (ix x.Lots (i : Int)) := by
  obtain ⟨c1, c2, c3, c4, c5, c6, c7⟩ := chkE_iff.1 h.1
  have h1 := h.2.1
  have h2 := h.2.2.1
  exact ⟨h.1, c6, by omega, by omega, c2, c4, c7, hi, rfl, (c6.1 _ (get_mem (l := x.Lots) (i := (i : Int)) (by omega) (by omega))).1⟩
theorem apply_err {x : api_Entitlements} {a : api_Act} {e : Int} (hx : chkE x = 0) (h : (actS x.Lots x.Reserve x.Next a).2.2.2 = e) (he : e ≠ 0) : applyS x a = (x, e) := by
  unfold applyS
  rw [if_neg (by simp [hx]), if_pos (by rw [h]; exact he), h]
theorem apply_ok {x : api_Entitlements} {a : api_Act} {l : List api_Lot} {re nx : Int} (hx : chkE x = 0) (h : actS x.Lots x.Reserve x.Next a = (l, re, nx, 0)) : applyS x a = (⟨l, re, nx⟩, 0) := by
  unfold applyS
  rw [if_neg (by simp [hx]), h, if_neg (by simp)]
theorem addS_ok {ls : List api_Lot} {re nx : Int} {l : api_Lot} (h1 : ls.length < 80) (h2 : nx < 1073741824) : addS ls re nx l = (ls ++ [{ l with Number := nx }], re, nx + 1, 0) := by
  unfold addS
  rw [if_neg (by omega)]
theorem Fit.seek {x : api_Entitlements} {i : Nat} {l : api_Lot} (h : Fit x i l) : seekS l.Number 0 x.Lots = (i : Int) := by
  have := seek_at (b := 0) h.v.2 h.il
  rw [h.el] at this
  omega
/-- A sale or a lease. -/
theorem Fit.move {x : api_Entitlements} {i : Nat} {l : api_Lot} (h : Fit x i l) {k t n kp q : Int} (hk : k = 2 ∨ k = 3) (ht : 1 ≤ t ∧ t ≤ 60) (hn : 1 ≤ n ∧ n ≤ l.Squares) (hkp : 0 ≤ kp ∧ kp ≤ 1000000) (hl : l.Owner = l.User) (ho : t ≠ l.Owner) (hq : q = if k = 2 then n * kp / 1000000 else 0) :
    (n - q = 0 → applyS x ⟨k, 0, t, l.Number, n, 0, kp, 0⟩ = (⟨takeS x.Lots i n, x.Reserve + q, x.Next⟩, 0)) ∧
    (n - q ≠ 0 → applyS x ⟨k, 0, t, l.Number, n, 0, kp, 0⟩ = (⟨takeS x.Lots i n ++ [⟨x.Next, if k = 2 then t else l.Owner, t, n - q, l.Value, l.Used⟩], x.Reserve + q, x.Next + 1⟩, 0)) := by
  have hs := h.seek
  have hlo := h.lo
  unfold LotOK at hlo
  have hlen := h.len
  have hnx := h.nx
  have htl : (takeS x.Lots i n).length ≤ x.Lots.length := takeS_len
  have hm : moveS x.Lots x.Reserve x.Next ⟨k, 0, t, l.Number, n, 0, kp, 0⟩ = (
      if n - q = 0 then (takeS x.Lots i n, x.Reserve + q, x.Next, 0) else (takeS x.Lots i n ++ [⟨x.Next, if k = 2 then t else l.Owner, t, n - q, l.Value, l.Used⟩], x.Reserve + q, x.Next + 1, 0)) := by
    rw [hq]
    unfold moveS keptS
    dsimp only
    rw [hs, h.el, if_neg (by omega), if_neg (by unfold farmP; omega), if_neg (by omega), if_neg (by omega)]
    simp only [Int.toNat_natCast]
    rw [addS_ok (by omega) (by omega)]
  have ha : actS x.Lots x.Reserve x.Next ⟨k, 0, t, l.Number, n, 0, kp, 0⟩ = moveS x.Lots x.Reserve x.Next ⟨k, 0, t, l.Number, n, 0, kp, 0⟩ := by
    unfold actS
    dsimp only
    rw [if_neg (by omega), if_pos hk]
  refine ⟨fun hq => ?_, fun hq => ?_⟩
  · rw [if_pos hq] at hm
    exact apply_ok h.c (ha.trans hm)
  · rw [if_neg hq] at hm
    exact apply_ok h.c (ha.trans hm)
theorem Fit.move_err {x : api_Entitlements} {i : Nat} {l : api_Lot} (h : Fit x i l) {k t n kp : Int} (hk : k = 2 ∨ k = 3) (ht : 1 ≤ t ∧ t ≤ 60) (ho : l.Owner ≠ l.User ∨ t = l.Owner) :
    applyS x ⟨k, 0, t, l.Number, n, 0, kp, 0⟩ = (x, 22) := by
  have hs := h.seek
  refine apply_err h.c ?_ (by omega)
  unfold actS
  dsimp only
  rw [if_neg (by omega), if_pos hk]
  unfold moveS
  dsimp only
  rw [hs, h.el, if_neg (by omega), if_neg (by unfold farmP; omega), if_pos (by omega)]
/-- Squares given to the reserve. -/
theorem Fit.give {x : api_Entitlements} {i : Nat} {l : api_Lot} (h : Fit x i l) {n : Int} (hn : 1 ≤ n ∧ n ≤ l.Squares) (hl : l.Owner = l.User) :
    applyS x ⟨8, 0, 0, l.Number, n, 0, 0, 0⟩ = (⟨takeS x.Lots i n, x.Reserve + n, x.Next⟩, 0) := by
  have hs := h.seek
  refine apply_ok h.c ?_
  unfold actS
  dsimp only
  rw [hs, h.el, if_neg (by omega), if_neg (by omega), if_neg (by omega), if_neg (by omega), if_neg (by omega), if_neg (by omega), if_pos rfl, if_neg (by omega), if_neg (by omega), if_neg (by omega)]
  simp
theorem Fit.give_err {x : api_Entitlements} {i : Nat} {l : api_Lot} (h : Fit x i l) {n : Int} (hn : 1 ≤ n ∧ n ≤ l.Squares) (hl : l.Owner ≠ l.User) :
    applyS x ⟨8, 0, 0, l.Number, n, 0, 0, 0⟩ = (x, 22) := by
  have hs := h.seek
  refine apply_err h.c ?_ (by omega)
  unfold actS
  dsimp only
  rw [hs, h.el, if_neg (by omega), if_neg (by omega), if_neg (by omega), if_neg (by omega), if_neg (by omega), if_neg (by omega), if_pos rfl, if_neg (by omega), if_neg (by omega), if_pos (by omega)]
theorem give_none {x : api_Entitlements} (hx : chkE x = 0) {m n : Int} (hs : ∀ l ∈ x.Lots, l.Number ≠ m) : applyS x ⟨8, 0, 0, m, n, 0, 0, 0⟩ = (x, 19) := by
  refine apply_err hx ?_ (by omega)
  unfold actS
  dsimp only
  rw [seek_none hs, if_neg (by omega), if_neg (by omega), if_neg (by omega), if_neg (by omega), if_neg (by omega), if_neg (by omega), if_pos rfl, if_pos (by omega)]
/-- The end of a lease. -/
theorem Fit.back {x : api_Entitlements} {i : Nat} {l : api_Lot} (h : Fit x i l) (hl : l.Owner ≠ l.User) :
    applyS x ⟨4, 0, 0, l.Number, 0, 0, 0, 0⟩ = (⟨x.Lots.set i { l with User := l.Owner }, x.Reserve, x.Next⟩, 0) := by
  have hs := h.seek
  refine apply_ok h.c ?_
  unfold actS
  dsimp only
  rw [hs, h.el, if_neg (by omega), if_neg (by omega), if_pos rfl, if_neg (by omega), if_neg hl]
  simp
theorem inherit_ok {x : api_Entitlements} (hx : chkE x = 0) {f t : Int} (hf : 1 ≤ f ∧ f ≤ 60) (ht : 1 ≤ t ∧ t ≤ 60) (h : f ≠ t) : applyS x ⟨5, f, t, 0, 0, 0, 0, 0⟩ = (⟨x.Lots.map (heirS f t), x.Reserve, x.Next⟩, 0) := by
  refine apply_ok hx ?_
  unfold actS
  dsimp only
  rw [if_neg (by omega), if_neg (by omega), if_neg (by omega), if_pos rfl, if_neg (by unfold farmP; omega)]
theorem inherit_err {x : api_Entitlements} (hx : chkE x = 0) {f : Int} : applyS x ⟨5, f, f, 0, 0, 0, 0, 0⟩ = (x, 20) := by
  refine apply_err hx ?_ (by omega)
  unfold actS
  dsimp only
  rw [if_neg (by omega), if_neg (by omega), if_neg (by omega), if_pos rfl, if_pos (by simp)]
theorem own_heir {k f t : Int} (h : f ≠ t) : ∀ {ls : List api_Lot}, ownS k (ls.map (heirS f t)) = (if k = f then 0 else if k = t then ownS t ls + ownS f ls else ownS k ls)
  | [] => by simp [ownS]
  | x :: r => by
    have ih := own_heir (k := k) h (ls := r)
    simp only [List.map_cons, ownS, heirS, ih]
    grind
theorem use_heir {k f t : Int} (h : f ≠ t) : ∀ {ls : List api_Lot}, useS k (ls.map (heirS f t)) = (if k = f then 0 else if k = t then useS t ls + useS f ls else useS k ls)
  | [] => by simp [useS]
  | x :: r => by
    have ih := use_heir (k := k) h (ls := r)
    simp only [List.map_cons, useS, heirS, ih]
    grind
/-- A loop from 1 on. -/
theorem loopTo {N : Int} (hN : N ≤ 1000) (hN1 : 0 ≤ N) {B : (Int → Prop) → Int → Prop} {K : Prop} (hB : ∀ (rec : Int → Prop) (z : Int), 1 ≤ z → z ≤ N → rec (IntKind.i64.wrap (z + 1)) → B rec z) (hK : K) : LOOP [Ty.int IntKind.i64] (fun (rec : Int → Prop) (z : Int) => IFB (decide (z ≤ N)) (B rec z) K) ((1 : Int), PUnit.unit) := by
  refine LOOP.fuel (fun u => LE.le (α := Int) 1 u.1 ∧ LE.le (α := Int) u.1 (N + 1)) (fun u => 1001 - Int.toNat u.1) ⟨Int.le_refl _, by show (1 : Int) ≤ N + 1; omega⟩ ?_
  rintro rec ⟨(z : Int), ⟨⟩⟩ ⟨h1, h2⟩ hrec
  have h1 : 1 ≤ z := h1
  have h2 : z ≤ N + 1 := h2
  refine IFB.mk (fun hb => ?_) (fun _ => hK)
  have hb : z ≤ N := of_decide_eq_true hb
  refine hB rec z h1 hb ?_
  rw [wrap_in (by omega) (by omega)]
  exact hrec (z + 1, ()) ⟨by show 1 ≤ z + 1; omega, by show z + 1 ≤ N + 1; omega⟩ (by show 1001 - (z + 1).toNat < 1001 - z.toNat; omega)
/-- A loop over the numbers of a list. -/
theorem loopIx {n : Nat} (hn : n ≤ 1000000) {B : (Int → Prop) → Int → Prop} {K : Prop} (hB : ∀ (rec : Int → Prop) (k : Nat), k < n → rec (IntKind.i64.wrap ((k : Int) + 1)) → B rec (k : Int)) (hK : K) : LOOP [Ty.int IntKind.i64] (fun (rec : Int → Prop) (z : Int) => IFB (decide (z < (n : Int))) (B rec z) K) ((0 : Int), PUnit.unit) := by
  refine LOOP.fuel (fun u => LE.le (α := Int) 0 u.1 ∧ LE.le (α := Int) u.1 n) (fun u => n - Int.toNat u.1) ⟨Int.le_refl _, by show (0 : Int) ≤ n; omega⟩ ?_
  rintro rec ⟨(z : Int), ⟨⟩⟩ ⟨h1, h2⟩ hrec
  have h1 : 0 ≤ z := h1
  have h2 : z ≤ n := h2
  refine IFB.mk (fun hb => ?_) (fun _ => hK)
  have hb : z < n := of_decide_eq_true hb
  obtain ⟨k, rfl⟩ : ∃ k : Nat, z = (k : Int) := ⟨z.toNat, by omega⟩
  refine hB rec k (by omega) ?_
  rw [wrap_in (by omega) (by omega)]
  exact hrec ((k : Int) + 1, ()) ⟨by show (0 : Int) ≤ k + 1; omega, by show (k : Int) + 1 ≤ n; omega⟩ (by show n - ((k : Int) + 1).toNat < n - (k : Int).toNat; omega)
end RE
end Go.Proofs.Ytpnmiieohdkenaa
set_option maxRecDepth 100000
set_option linter.unusedVariables false
namespace Go.Proofs.Ytpnmiieohdkenaa
open Go.RowKit
namespace RE
open PL
def lInherits_C : Ctx := ⟨tau, [kents_sp, eapl_sp, eheld_sp, rheld_sp, awake_sp], lookJ [(0, 15, ⟨[(13, .dat (.int .i64))], [], [50, 51, 55, 56, 57, 54, 58, 59, 61, 62, 63, 60, 64, 65, 16, 17, 68, 67, 66, 83, 82, 81, 80, 79, 78, 19, 18, 77, 76, 72, 75, 74, 73, 71, 70, 69, 14, 15, 84, 85, 86, 87, 91, 88, 89, 90, 52, 53], [], []⟩), (0, 32, ⟨[(15, .dat (.int .i64)), (14, .dat (.int .i64))], [], [69, 70, 71, 73, 74, 75, 72, 76, 77, 18, 19, 78, 79, 80, 81, 82, 83], [], []⟩), (0, 26, ⟨[(15, .dat (.int .i64)), (14, .dat (.int .i64))], [], [66, 67, 68], [], []⟩)]⟩
def lInherits_W (l : List (Int)) (from_ : Int) (to_ : Int) (post : Bool → Prop) : Prop := (Int.NonNeg (4 : Int) ∧ (4 : Int) ≤ (6 : Int)) ∧ ∀ (v1 : api_Entitlements) (v2 : List api_Act), EInv (9 : Int) v1 → ((4 : Int) = (0 : Int) → False) ∧ ((4 : Int) = (0 : Int) → False) ∧ v1.1.length ≤ (20 : Nat) ∧ IFB (decide (IntKind.i64.wrap ((1 : Int) + (IntKind.i64.wrap from_).tmod (4 : Int)) = IntKind.i64.wrap ((1 : Int) + (IntKind.i64.wrap to_).tmod (4 : Int)))) (JOIN [Ty.bool] (fun (y3 : Bool) ↦ post (decide ((applyS { Lots := v1.1, Reserve := v1.2, Next := v1.3 : api_Entitlements } { Kind := (5 : Int), Farm := IntKind.i64.wrap ((1 : Int) + (IntKind.i64.wrap from_).tmod (4 : Int)), To := IntKind.i64.wrap ((1 : Int) + (IntKind.i64.wrap to_).tmod (4 : Int)), Lot := (0 : Int), Squares := (0 : Int), Value := (0 : Int), Keep := (0 : Int), Year := (0 : Int) : api_Act }).2 = (20 : Int)) && y3)) fun (J4 : Bool → Prop) ↦ IFB (gx true (decide ((applyS { Lots := v1.1, Reserve := v1.2, Next := v1.3 : api_Entitlements } { Kind := (5 : Int), Farm := IntKind.i64.wrap ((1 : Int) + (IntKind.i64.wrap from_).tmod (4 : Int)), To := IntKind.i64.wrap ((1 : Int) + (IntKind.i64.wrap to_).tmod (4 : Int)), Lot := (0 : Int), Squares := (0 : Int), Value := (0 : Int), Keep := (0 : Int), Year := (0 : Int) : api_Act }).2 = (20 : Int)))) (J4 true) (J4 false)) (LOOP [Ty.int IntKind.i64] (fun (rec5 : Int → Prop) (z6 : Int) ↦ IFB (decide (z6 ≤ (4 : Int))) (True ∧ True ∧ JOIN [Ty.int IntKind.i64, Ty.int IntKind.i64] (fun (y7 y8 : Int) ↦ JOIN [Ty.int IntKind.i64, Ty.int IntKind.i64] (fun (y9 y10 : Int) ↦ IFB (!decide (y10 = (heldS { Lots := (applyS { Lots := v1.1, Reserve := v1.2, Next := v1.3 : api_Entitlements } { Kind := (5 : Int), Farm := IntKind.i64.wrap ((1 : Int) + (IntKind.i64.wrap from_).tmod (4 : Int)), To := IntKind.i64.wrap ((1 : Int) + (IntKind.i64.wrap to_).tmod (4 : Int)), Lot := (0 : Int), Squares := (0 : Int), Value := (0 : Int), Keep := (0 : Int), Year := (0 : Int) : api_Act }).1.1, Reserve := (applyS { Lots := v1.1, Reserve := v1.2, Next := v1.3 : api_Entitlements } { Kind := (5 : Int), Farm := IntKind.i64.wrap ((1 : Int) + (IntKind.i64.wrap from_).tmod (4 : Int)), To := IntKind.i64.wrap ((1 : Int) + (IntKind.i64.wrap to_).tmod (4 : Int)), Lot := (0 : Int), Squares := (0 : Int), Value := (0 : Int), Keep := (0 : Int), Year := (0 : Int) : api_Act }).1.2, Next := (applyS { Lots := v1.1, Reserve := v1.2, Next := v1.3 : api_Entitlements } { Kind := (5 : Int), Farm := IntKind.i64.wrap ((1 : Int) + (IntKind.i64.wrap from_).tmod (4 : Int)), To := IntKind.i64.wrap ((1 : Int) + (IntKind.i64.wrap to_).tmod (4 : Int)), Lot := (0 : Int), Squares := (0 : Int), Value := (0 : Int), Keep := (0 : Int), Year := (0 : Int) : api_Act }).1.3 : api_Entitlements } z6).1) || !decide (y9 = (heldS { Lots := (applyS { Lots := v1.1, Reserve := v1.2, Next := v1.3 : api_Entitlements } { Kind := (5 : Int), Farm := IntKind.i64.wrap ((1 : Int) + (IntKind.i64.wrap from_).tmod (4 : Int)), To := IntKind.i64.wrap ((1 : Int) + (IntKind.i64.wrap to_).tmod (4 : Int)), Lot := (0 : Int), Squares := (0 : Int), Value := (0 : Int), Keep := (0 : Int), Year := (0 : Int) : api_Act }).1.1, Reserve := (applyS { Lots := v1.1, Reserve := v1.2, Next := v1.3 : api_Entitlements } { Kind := (5 : Int), Farm := IntKind.i64.wrap ((1 : Int) + (IntKind.i64.wrap from_).tmod (4 : Int)), To := IntKind.i64.wrap ((1 : Int) + (IntKind.i64.wrap to_).tmod (4 : Int)), Lot := (0 : Int), Squares := (0 : Int), Value := (0 : Int), Keep := (0 : Int), Year := (0 : Int) : api_Act }).1.2, Next := (applyS { Lots := v1.1, Reserve := v1.2, Next := v1.3 : api_Entitlements } { Kind := (5 : Int), Farm := IntKind.i64.wrap ((1 : Int) + (IntKind.i64.wrap from_).tmod (4 : Int)), To := IntKind.i64.wrap ((1 : Int) + (IntKind.i64.wrap to_).tmod (4 : Int)), Lot := (0 : Int), Squares := (0 : Int), Value := (0 : Int), Keep := (0 : Int), Year := (0 : Int) : api_Act }).1.3 : api_Entitlements } z6).2)) (post false) (rec5 (IntKind.i64.wrap (z6 + (1 : Int))))) fun (J11 : Int → Int → Prop) ↦ IFB (decide (z6 = IntKind.i64.wrap ((1 : Int) + (IntKind.i64.wrap to_).tmod (4 : Int)))) (True ∧ J11 (IntKind.i64.wrap (y7 + (heldS { Lots := v1.1, Reserve := v1.2, Next := v1.3 : api_Entitlements } (IntKind.i64.wrap ((1 : Int) + (IntKind.i64.wrap from_).tmod (4 : Int)))).2)) (IntKind.i64.wrap (y8 + (heldS { Lots := v1.1, Reserve := v1.2, Next := v1.3 : api_Entitlements } (IntKind.i64.wrap ((1 : Int) + (IntKind.i64.wrap from_).tmod (4 : Int)))).1))) (J11 y7 y8)) fun (J12 : Int → Int → Prop) ↦ IFB (decide (z6 = IntKind.i64.wrap ((1 : Int) + (IntKind.i64.wrap from_).tmod (4 : Int)))) (J12 (0 : Int) (0 : Int)) (J12 (heldS { Lots := v1.1, Reserve := v1.2, Next := v1.3 : api_Entitlements } z6).2 (heldS { Lots := v1.1, Reserve := v1.2, Next := v1.3 : api_Entitlements } z6).1)) ((gx true (decide ((applyS { Lots := v1.1, Reserve := v1.2, Next := v1.3 : api_Entitlements } { Kind := (5 : Int), Farm := IntKind.i64.wrap ((1 : Int) + (IntKind.i64.wrap from_).tmod (4 : Int)), To := IntKind.i64.wrap ((1 : Int) + (IntKind.i64.wrap to_).tmod (4 : Int)), Lot := (0 : Int), Squares := (0 : Int), Value := (0 : Int), Keep := (0 : Int), Year := (0 : Int) : api_Act }).2 = (0 : Int))) = true → (↑(applyS { Lots := v1.1, Reserve := v1.2, Next := v1.3 : api_Entitlements } { Kind := (5 : Int), Farm := IntKind.i64.wrap ((1 : Int) + (IntKind.i64.wrap from_).tmod (4 : Int)), To := IntKind.i64.wrap ((1 : Int) + (IntKind.i64.wrap to_).tmod (4 : Int)), Lot := (0 : Int), Squares := (0 : Int), Value := (0 : Int), Keep := (0 : Int), Year := (0 : Int) : api_Act }).1.1.length : Int) ≤ (9223372036854775807 : Int)) → (gx true (decide ((applyS { Lots := v1.1, Reserve := v1.2, Next := v1.3 : api_Entitlements } { Kind := (5 : Int), Farm := IntKind.i64.wrap ((1 : Int) + (IntKind.i64.wrap from_).tmod (4 : Int)), To := IntKind.i64.wrap ((1 : Int) + (IntKind.i64.wrap to_).tmod (4 : Int)), Lot := (0 : Int), Squares := (0 : Int), Value := (0 : Int), Keep := (0 : Int), Year := (0 : Int) : api_Act }).2 = (0 : Int))) = true → (↑v1.1.length : Int) ≤ (9223372036854775807 : Int)) → JOIN [Ty.bool] (fun (y13 : Bool) ↦ post (decide ((applyS { Lots := v1.1, Reserve := v1.2, Next := v1.3 : api_Entitlements } { Kind := (5 : Int), Farm := IntKind.i64.wrap ((1 : Int) + (IntKind.i64.wrap from_).tmod (4 : Int)), To := IntKind.i64.wrap ((1 : Int) + (IntKind.i64.wrap to_).tmod (4 : Int)), Lot := (0 : Int), Squares := (0 : Int), Value := (0 : Int), Keep := (0 : Int), Year := (0 : Int) : api_Act }).2 = (0 : Int)) && decide ((↑(applyS { Lots := v1.1, Reserve := v1.2, Next := v1.3 : api_Entitlements } { Kind := (5 : Int), Farm := IntKind.i64.wrap ((1 : Int) + (IntKind.i64.wrap from_).tmod (4 : Int)), To := IntKind.i64.wrap ((1 : Int) + (IntKind.i64.wrap to_).tmod (4 : Int)), Lot := (0 : Int), Squares := (0 : Int), Value := (0 : Int), Keep := (0 : Int), Year := (0 : Int) : api_Act }).1.1.length : Int) = (↑v1.1.length : Int)) && y13)) fun (J14 : Bool → Prop) ↦ IFB (gx true (decide ((applyS { Lots := v1.1, Reserve := v1.2, Next := v1.3 : api_Entitlements } { Kind := (5 : Int), Farm := IntKind.i64.wrap ((1 : Int) + (IntKind.i64.wrap from_).tmod (4 : Int)), To := IntKind.i64.wrap ((1 : Int) + (IntKind.i64.wrap to_).tmod (4 : Int)), Lot := (0 : Int), Squares := (0 : Int), Value := (0 : Int), Keep := (0 : Int), Year := (0 : Int) : api_Act }).2 = (0 : Int)) && decide ((↑(applyS { Lots := v1.1, Reserve := v1.2, Next := v1.3 : api_Entitlements } { Kind := (5 : Int), Farm := IntKind.i64.wrap ((1 : Int) + (IntKind.i64.wrap from_).tmod (4 : Int)), To := IntKind.i64.wrap ((1 : Int) + (IntKind.i64.wrap to_).tmod (4 : Int)), Lot := (0 : Int), Squares := (0 : Int), Value := (0 : Int), Keep := (0 : Int), Year := (0 : Int) : api_Act }).1.1.length : Int) = (↑v1.1.length : Int)))) (J14 true) (J14 false))) ((1 : Int), PUnit.unit))
theorem lInherits_w (l : List (Int)) (from_ : Int) (to_ : Int) (post : Bool → Prop) : lInherits_W l from_ to_ post = lawG (callN Try.prog 12 lInherits_C [] (drawR Try.prog tau) 10 0) 7 [tv (.sl (.int .i64)) l, tv (.int .u8) from_, tv (.int .u8) to_] post := by kernel_rfl
theorem lInherits_calls (hN : NewOK Try.prog 12) (l : List (Int)) (from_ : Int) (to_ : Int) (h : lInherits_W l from_ to_ fun b => b = true) {w : World} {S : Cells} {us : List Value} (h1 : ∀ b o, S b o → b < w.heap.size) (h3 : us.length = 3) (h4 : ∀ (i : Nat) (d : D) (u : Value), [tv (.sl (.int .i64)) l, tv (.int .u8) from_, tv (.int .u8) to_][i]? = some d → us[i]? = some u → Rd S w d u) : Calls Try.prog 7 us.toArray w fun e w' => (∃ b, e = .returned (.bool b) ∧ b = true) ∧ Below w.heap.size w w' := lawG_ok (callN_ok hN (C := lInherits_C) (L2 := []) (dr := drawR Try.prog tau) (.cons kents_ok (.cons eapl_ok (.cons eheld_ok (.cons rheld_ok (.cons awake_ok .nil))))) .nil (drawR_ok tau) 10 0) (HoldW.of (lInherits_w l from_ to_ fun b => b = true) h).h h1 h3 h4
theorem lInherits_h (l : List Int) (from_ to_ : Int) (w1 : (Lit.int .u8 from_).wf = true) (w2 : (Lit.int .u8 to_).wf = true) : lInherits_W l from_ to_ fun b => b = true := by
  obtain ⟨b1, b2⟩ := wf_u8 w1
  obtain ⟨b3, b4⟩ := wf_u8 w2
  unfold lInherits_W
  refine ⟨⟨Int.NonNeg.mk _, by omega⟩, fun v1 v2 hv => ?_⟩
  obtain ⟨p1, p2, p3⟩ := pick_in (a := from_) (n := 4) b1 (by omega) (by omega) (by omega)
  obtain ⟨q1, q2, q3⟩ := pick_in (a := to_) (n := 4) b3 (by omega) (by omega) (by omega)
  rw [p3, q3]
  generalize (IntKind.i64.wrap from_).tmod 4 = f0 at *
  generalize (IntKind.i64.wrap to_).tmod 4 = t0 at *
  obtain ⟨f, hf⟩ : ∃ f, 1 + f0 = f := ⟨_, rfl⟩
  obtain ⟨t, ht⟩ : ∃ t, 1 + t0 = t := ⟨_, rfl⟩
  rw [hf, ht]
  have hc := hv.1
  have hl := hv.2.2.1
  refine ⟨by omega, by omega, by omega, IFB.mk (fun hb => ?_) (fun hb => ?_)⟩
  · have hb : f = t := of_decide_eq_true hb
    subst hb
    have he := inherit_err hc (f := f)
    rw [he]
    exact JOIN.mk (IFB.mk (fun _ => rfl) (fun h => by simp [gx_t] at h))
  · have hb : f ≠ t := of_decide_eq_false hb
    have he := inherit_ok hc (f := f) (t := t) (by omega) (by omega) hb
    have hy := (apply_kept (x := v1) (a := ⟨5, f, t, 0, 0, 0, 0, 0⟩) hc).1
    rw [he] at hy
    rw [he]
    have h1 : ∀ k, heldS v1 k = (ownS k v1.1, useS k v1.1) := held_eq hc
    have h2 : ∀ k, heldS ⟨v1.1.map (heirS f t), v1.2, v1.3⟩ k = ((if k = f then 0 else if k = t then ownS t v1.1 + ownS f v1.1 else ownS k v1.1), (if k = f then 0 else if k = t then useS t v1.1 + useS f v1.1 else useS k v1.1)) := fun k => by
      rw [held_eq hy, own_heir hb, use_heir hb]
    refine loopTo (by omega) (by omega) (fun rec z z1 z2 hrec => ?_) ?_
    · refine ⟨trivial, trivial, ?_⟩
      have e1 := h1 z
      have e2 := h1 f
      have e3 := h2 z
      have e1 : heldS ⟨v1.1, v1.2, v1.3⟩ z = _ := e1
      have e2 : heldS ⟨v1.1, v1.2, v1.3⟩ f = _ := e2
      dsimp only at e3 ⊢
      rw [e1, e2, e3]
      have i1 := held_in hc z
      have i2 := held_in hc f
      have i3 : z = t → ownS z v1.1 = ownS t v1.1 ∧ useS z v1.1 = useS t v1.1 := fun h => by rw [h]; exact ⟨rfl, rfl⟩
      dsimp only
      refine JOIN.opq fun (J12 : Int → Int → Prop) h12 => ?_
      have h12 : ∀ a b, 0 ≤ a → a ≤ 1099511627776 → 0 ≤ b → b ≤ 1099511627776 → (z = f → a = 0 ∧ b = 0) → (z ≠ f → a = useS z v1.1 ∧ b = ownS z v1.1) → J12 a b := fun a b c1 c2 c3 c4 c5 c6 => by
        rw [h12]
        dsimp only
        have wa : IntKind.i64.wrap (a + useS f v1.1) = a + useS f v1.1 := wrap_in (by omega) (by omega)
        have wb : IntKind.i64.wrap (b + ownS f v1.1) = b + ownS f v1.1 := wrap_in (by omega) (by omega)
        rw [wa, wb]
        refine JOIN.mk (IFB.mk (fun h => ⟨trivial, IFB.mk (fun h' => ?_) (fun _ => hrec)⟩) (fun h => IFB.mk (fun h' => ?_) (fun _ => hrec)))
        · exfalso
          have h : z = t := of_decide_eq_true h
          have := i3 h
          have := c6 (by omega)
          rw [if_neg (by omega), if_pos h, if_neg (by omega), if_pos h] at h'
          simp at h'
          omega
        · exfalso
          have h : z ≠ t := of_decide_eq_false h
          by_cases hz : z = f
          · have := c5 hz
            rw [if_pos hz, if_pos hz] at h'
            simp at h'
            omega
          · have := c6 hz
            rw [if_neg hz, if_neg h, if_neg hz, if_neg h] at h'
            simp at h'
            omega
      refine IFB.mk (fun h => h12 0 0 (by omega) (by omega) (by omega) (by omega) (fun _ => ⟨rfl, rfl⟩) (fun h' => absurd (of_decide_eq_true h) h')) (fun h => h12 _ _ (by omega) (by omega) (by omega) (by omega) (fun h' => absurd h' (of_decide_eq_false h)) (fun _ => ⟨rfl, rfl⟩))
    · intro _ _
      simp only [List.length_map]
      exact JOIN.mk (IFB.mk (fun _ => by simp) (fun h => by simp [gx_t] at h))

end RE
end Go.Proofs.Ytpnmiieohdkenaa
