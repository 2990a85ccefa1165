/-
  Chapter 21, in plain words: what single acts do.
-/
import Derived.Test.YtpnmiieohdkenaaXPlain
import Derived.Test.YtpnmiieohdkenaaXTape
set_option linter.unusedVariables false
set_option maxRecDepth 100000
namespace Go.Proofs.Ytpnmiieohdkenaa
open Go.RowKit
namespace RE
open PL
theorem wf_u8 {a : Int} (h : (Lit.int .u8 a).wf = true) : 0 ≤ a ∧ a ≤ 255 := by
  simp [Lit.wf, IntKind.min, IntKind.max, IntKind.bits, IntKind.signed] at h; omega
theorem wf_u16 {a : Int} (h : (Lit.int .u16 a).wf = true) : 0 ≤ a ∧ a ≤ 65535 := by
  simp [Lit.wf, IntKind.min, IntKind.max, IntKind.bits, IntKind.signed] at h; omega
theorem wf_u32 {a : Int} (h : (Lit.int .u32 a).wf = true) : 0 ≤ a ∧ a ≤ 4294967295 := by
  simp [Lit.wf, IntKind.min, IntKind.max, IntKind.bits, IntKind.signed] at h; omega
theorem wf_i64 {a : Int} (h : (Lit.int .i64 a).wf = true) : -9223372036854775808 ≤ a ∧ a ≤ 9223372036854775807 := by
  simp [Lit.wf, IntKind.min, IntKind.max, IntKind.bits, IntKind.signed] at h; omega
/-- A number drawn out of another one. -/
theorem pick_in {a n : Int} (h0 : 0 ≤ a) (h1 : a ≤ 4294967295) (hn : 1 ≤ n) (hn2 : n ≤ 4294967295) : 0 ≤ (IntKind.i64.wrap a).tmod n ∧ (IntKind.i64.wrap a).tmod n < n ∧ IntKind.i64.wrap (1 + (IntKind.i64.wrap a).tmod n) = 1 + (IntKind.i64.wrap a).tmod n := by
  rw [wrap_in (by omega) (by omega)]
  have h2 := Int.tmod_nonneg n h0
  have h3 := Int.tmod_lt_of_pos a (show 0 < n by omega)
  exact ⟨h2, h3, wrap_in (by omega) (by omega)⟩
theorem sqS_le {p : api_Lot → Bool} : ∀ {ls : List api_Lot}, (∀ l ∈ ls, LotOK l) → sqS p ls ≤ sumL ls
  | [], _ => Int.le_refl _
  | x :: r, h => by
    have h1 := sqS_le (p := p) (ls := r) (fun l hl => h l (by simp [hl]))
    have h2 := h x (by simp)
    unfold LotOK at h2
    unfold sqS sumL
    split <;> omega
theorem held_eq {x : api_Entitlements} (h : chkE x = 0) (n : Int) : heldS x n = (ownS n x.Lots, useS n x.Lots) := by
  unfold heldS; rw [if_pos h]
theorem held_in {x : api_Entitlements} (h : chkE x = 0) (n : Int) : 0 ≤ ownS n x.Lots ∧ 0 ≤ useS n x.Lots ∧ ownS n x.Lots ≤ 1099511627776 ∧ useS n x.Lots ≤ 1099511627776 := by
  obtain ⟨c1, c2, c3, c4, c5, c6, c7⟩ := chkE_iff.1 h
  have hl : ∀ l ∈ x.Lots, LotOK l := fun l hl => (c6.1 l hl).1
  rw [ownS_sq, useS_sq]
  have h1 := sqS_nonneg (p := fun l => decide (l.Owner = n)) hl
  have h2 := sqS_nonneg (p := fun l => decide (l.User = n)) hl
  have h3 := sqS_le (p := fun l => decide (l.Owner = n)) hl
  have h4 := sqS_le (p := fun l => decide (l.User = n)) hl
  exact ⟨h1, h2, by omega, by omega⟩
/-! ### finding a lot -/
theorem seek_at : ∀ {ls : List api_Lot} {k : Nat} {b : Int}, ls.Pairwise (fun a b => a.Number < b.Number) → k < ls.length → seekS (ix ls (k : Int)).Number b ls = b + k
  | [], k, b, _, h => by simp at h
  | x :: r, 0, b, _, _ => by
    have e : ix (x :: r) ((0 : Nat) : Int) = x := rfl
    unfold seekS
    rw [e, if_pos rfl]; simp
  | x :: r, k + 1, b, hp, h => by
    rw [List.pairwise_cons] at hp
    have hk : k < r.length := by simpa using h
    have hr : ix (x :: r) ((k + 1 : Nat) : Int) = ix r (k : Int) := by simp [ix, List.getD]
    have hm := hp.1 _ (get_mem (l := r) (i := (k : Int)) (by omega) (by omega))
    unfold seekS
    rw [hr, if_neg (by omega), seek_at hp.2 hk]
    push_cast; omega
theorem seek_none {n : Int} : ∀ {ls : List api_Lot} {b : Int}, (∀ l ∈ ls, l.Number ≠ n) → seekS n b ls = -1
  | [], _, _ => rfl
  | x :: r, b, h => by
    unfold seekS
    rw [if_neg (h x (by simp)), seek_none (fun l hl => h l (by simp [hl]))]
theorem seek_app {n : Int} : ∀ {ls : List api_Lot} {b : Int} {v : api_Lot}, (∀ l ∈ ls, l.Number ≠ n) → v.Number = n → seekS n b (ls ++ [v]) = b + ls.length
  | [], b, v, _, h => by show (if v.Number = n then b else _) = _; rw [if_pos h]; simp
  | x :: r, b, v, h, hv => by
    show (if x.Number = n then b else seekS n (b + 1) (r ++ [v])) = _
    rw [if_neg (h x (by simp)), seek_app (fun l hl => h l (by simp [hl])) hv]
    simp; omega
/-! ### acts on a register that is valid and not full -/
structure Fit (x : api_Entitlements) (i : Nat) (l : api_Lot) : Prop where
  c : chkE x = 0
  v : Vld x.Next x.Lots
  len : x.Lots.length < 60
  nx : x.Next < 1000
  nx1 : 1 ≤ x.Next
  re : 0 ≤ x.Reserve
  tot : sumL x.Lots + x.Reserve ≤ 1099511627776
  il : i < x.Lots.length
  el : ix x.Lots (i : Int) = l
  lo : LotOK l
theorem Fit.of {k : Int} {x : api_Entitlements} (h : EInv k x) (hk : k ≤ 50) {i : Nat} (hi : i < x.Lots.length) : Fit x i (ix x.Lots (i : Int)) := by
  obtain ⟨c1, c2, c3, c4, c5, c6, c7⟩ := chkE_iff.1 h.1
  have h1 := h.2.1
  have h2 := h.2.2.1
  exact ⟨h.1, c6, by omega, by omega, c2, c4, c7, hi, rfl, (c6.1 _ (get_mem (l := x.Lots) (i := (i : Int)) (by omega) (by omega))).1⟩
theorem apply_err {x : api_Entitlements} {a : api_Act} {e : Int} (hx : chkE x = 0) (h : (actS x.Lots x.Reserve x.Next a).2.2.2 = e) (he : e ≠ 0) : applyS x a = (x, e) := by
  unfold applyS
  rw [if_neg (by simp [hx]), if_pos (by rw [h]; exact he), h]
theorem apply_ok {x : api_Entitlements} {a : api_Act} {l : List api_Lot} {re nx : Int} (hx : chkE x = 0) (h : actS x.Lots x.Reserve x.Next a = (l, re, nx, 0)) : applyS x a = (⟨l, re, nx⟩, 0) := by
  unfold applyS
  rw [if_neg (by simp [hx]), h, if_neg (by simp)]
theorem addS_ok {ls : List api_Lot} {re nx : Int} {l : api_Lot} (h1 : ls.length < 80) (h2 : nx < 1073741824) : addS ls re nx l = (ls ++ [{ l with Number := nx }], re, nx + 1, 0) := by
  unfold addS
  rw [if_neg (by omega)]
theorem Fit.seek {x : api_Entitlements} {i : Nat} {l : api_Lot} (h : Fit x i l) : seekS l.Number 0 x.Lots = (i : Int) := by
  have := seek_at (b := 0) h.v.2 h.il
  rw [h.el] at this
  omega
/-- A sale or a lease. -/
theorem Fit.move {x : api_Entitlements} {i : Nat} {l : api_Lot} (h : Fit x i l) {k t n kp q : Int} (hk : k = 2 ∨ k = 3) (ht : 1 ≤ t ∧ t ≤ 60) (hn : 1 ≤ n ∧ n ≤ l.Squares) (hkp : 0 ≤ kp ∧ kp ≤ 1000000) (hl : l.Owner = l.User) (ho : t ≠ l.Owner) (hq : q = if k = 2 then n * kp / 1000000 else 0) :
    (n - q = 0 → applyS x ⟨k, 0, t, l.Number, n, 0, kp, 0⟩ = (⟨takeS x.Lots i n, x.Reserve + q, x.Next⟩, 0)) ∧
    (n - q ≠ 0 → applyS x ⟨k, 0, t, l.Number, n, 0, kp, 0⟩ = (⟨takeS x.Lots i n ++ [⟨x.Next, if k = 2 then t else l.Owner, t, n - q, l.Value, l.Used⟩], x.Reserve + q, x.Next + 1⟩, 0)) := by
  have hs := h.seek
  have hlo := h.lo
  unfold LotOK at hlo
  have hlen := h.len
  have hnx := h.nx
  have htl : (takeS x.Lots i n).length ≤ x.Lots.length := takeS_len
  have hm : moveS x.Lots x.Reserve x.Next ⟨k, 0, t, l.Number, n, 0, kp, 0⟩ = (
      if n - q = 0 then (takeS x.Lots i n, x.Reserve + q, x.Next, 0) else (takeS x.Lots i n ++ [⟨x.Next, if k = 2 then t else l.Owner, t, n - q, l.Value, l.Used⟩], x.Reserve + q, x.Next + 1, 0)) := by
    rw [hq]
    unfold moveS keptS
    dsimp only
    rw [hs, h.el, if_neg (by omega), if_neg (by unfold farmP; omega), if_neg (by omega), if_neg (by omega)]
    simp only [Int.toNat_natCast]
    rw [addS_ok (by omega) (by omega)]
  have ha : actS x.Lots x.Reserve x.Next ⟨k, 0, t, l.Number, n, 0, kp, 0⟩ = moveS x.Lots x.Reserve x.Next ⟨k, 0, t, l.Number, n, 0, kp, 0⟩ := by
    unfold actS
    dsimp only
    rw [if_neg (by omega), if_pos hk]
  refine ⟨fun hq => ?_, fun hq => ?_⟩
  · rw [if_pos hq] at hm
    exact apply_ok h.c (ha.trans hm)
  · rw [if_neg hq] at hm
    exact apply_ok h.c (ha.trans hm)
theorem Fit.move_err {x : api_Entitlements} {i : Nat} {l : api_Lot} (h : Fit x i l) {k t n kp : Int} (hk : k = 2 ∨ k = 3) (ht : 1 ≤ t ∧ t ≤ 60) (ho : l.Owner ≠ l.User ∨ t = l.Owner) :
    applyS x ⟨k, 0, t, l.Number, n, 0, kp, 0⟩ = (x, 22) := by
  have hs := h.seek
  refine apply_err h.c ?_ (by omega)
  unfold actS
  dsimp only
  rw [if_neg (by omega), if_pos hk]
  unfold moveS
  dsimp only
  rw [hs, h.el, if_neg (by omega), if_neg (by unfold farmP; omega), if_pos (by omega)]
/-- Squares given to the reserve. -/
theorem Fit.give {x : api_Entitlements} {i : Nat} {l : api_Lot} (h : Fit x i l) {n : Int} (hn : 1 ≤ n ∧ n ≤ l.Squares) (hl : l.Owner = l.User) :
    applyS x ⟨8, 0, 0, l.Number, n, 0, 0, 0⟩ = (⟨takeS x.Lots i n, x.Reserve + n, x.Next⟩, 0) := by
  have hs := h.seek
  refine apply_ok h.c ?_
  unfold actS
  dsimp only
  rw [hs, h.el, if_neg (by omega), if_neg (by omega), if_neg (by omega), if_neg (by omega), if_neg (by omega), if_neg (by omega), if_pos rfl, if_neg (by omega), if_neg (by omega), if_neg (by omega)]
  simp
theorem Fit.give_err {x : api_Entitlements} {i : Nat} {l : api_Lot} (h : Fit x i l) {n : Int} (hn : 1 ≤ n ∧ n ≤ l.Squares) (hl : l.Owner ≠ l.User) :
    applyS x ⟨8, 0, 0, l.Number, n, 0, 0, 0⟩ = (x, 22) := by
  have hs := h.seek
  refine apply_err h.c ?_ (by omega)
  unfold actS
  dsimp only
  rw [hs, h.el, if_neg (by omega), if_neg (by omega), if_neg (by omega), if_neg (by omega), if_neg (by omega), if_neg (by omega), if_pos rfl, if_neg (by omega), if_neg (by omega), if_pos (by omega)]
theorem give_none {x : api_Entitlements} (hx : chkE x = 0) {m n : Int} (hs : ∀ l ∈ x.Lots, l.Number ≠ m) : applyS x ⟨8, 0, 0, m, n, 0, 0, 0⟩ = (x, 19) := by
  refine apply_err hx ?_ (by omega)
  unfold actS
  dsimp only
  rw [seek_none hs, if_neg (by omega), if_neg (by omega), if_neg (by omega), if_neg (by omega), if_neg (by omega), if_neg (by omega), if_pos rfl, if_pos (by omega)]
/-- The end of a lease. -/
theorem Fit.back {x : api_Entitlements} {i : Nat} {l : api_Lot} (h : Fit x i l) (hl : l.Owner ≠ l.User) :
    applyS x ⟨4, 0, 0, l.Number, 0, 0, 0, 0⟩ = (⟨x.Lots.set i { l with User := l.Owner }, x.Reserve, x.Next⟩, 0) := by
  have hs := h.seek
  refine apply_ok h.c ?_
  unfold actS
  dsimp only
  rw [hs, h.el, if_neg (by omega), if_neg (by omega), if_pos rfl, if_neg (by omega), if_neg hl]
  simp
theorem inherit_ok {x : api_Entitlements} (hx : chkE x = 0) {f t : Int} (hf : 1 ≤ f ∧ f ≤ 60) (ht : 1 ≤ t ∧ t ≤ 60) (h : f ≠ t) : applyS x ⟨5, f, t, 0, 0, 0, 0, 0⟩ = (⟨x.Lots.map (heirS f t), x.Reserve, x.Next⟩, 0) := by
  refine apply_ok hx ?_
  unfold actS
  dsimp only
  rw [if_neg (by omega), if_neg (by omega), if_neg (by omega), if_pos rfl, if_neg (by unfold farmP; omega)]
theorem inherit_err {x : api_Entitlements} (hx : chkE x = 0) {f : Int} : applyS x ⟨5, f, f, 0, 0, 0, 0, 0⟩ = (x, 20) := by
  refine apply_err hx ?_ (by omega)
  unfold actS
  dsimp only
  rw [if_neg (by omega), if_neg (by omega), if_neg (by omega), if_pos rfl, if_pos (by simp)]
theorem own_heir {k f t : Int} (h : f ≠ t) : ∀ {ls : List api_Lot}, ownS k (ls.map (heirS f t)) = (if k = f then 0 else if k = t then ownS t ls + ownS f ls else ownS k ls)
  | [] => by simp [ownS]
  | x :: r => by
    have ih := own_heir (k := k) h (ls := r)
    simp only [List.map_cons, ownS, heirS, ih]
    grind
theorem use_heir {k f t : Int} (h : f ≠ t) : ∀ {ls : List api_Lot}, useS k (ls.map (heirS f t)) = (if k = f then 0 else if k = t then useS t ls + useS f ls else useS k ls)
  | [] => by simp [useS]
  | x :: r => by
    have ih := use_heir (k := k) h (ls := r)
    simp only [List.map_cons, useS, heirS, ih]
    grind
/-- A loop from 1 on. -/
theorem loopTo {N : Int} (hN : N ≤ 1000) (hN1 : 0 ≤ N) {B : (Int → Prop) → Int → Prop} {K : Prop} (hB : ∀ (rec : Int → Prop) (z : Int), 1 ≤ z → z ≤ N → rec (IntKind.i64.wrap (z + 1)) → B rec z) (hK : K) : LOOP [Ty.int IntKind.i64] (fun (rec : Int → Prop) (z : Int) => IFB (decide (z ≤ N)) (B rec z) K) ((1 : Int), PUnit.unit) := by
  refine LOOP.fuel (fun u => LE.le (α := Int) 1 u.1 ∧ LE.le (α := Int) u.1 (N + 1)) (fun u => 1001 - Int.toNat u.1) ⟨Int.le_refl _, by show (1 : Int) ≤ N + 1; omega⟩ ?_
  rintro rec ⟨(z : Int), ⟨⟩⟩ ⟨h1, h2⟩ hrec
  have h1 : 1 ≤ z := h1
  have h2 : z ≤ N + 1 := h2
  refine IFB.mk (fun hb => ?_) (fun _ => hK)
  have hb : z ≤ N := of_decide_eq_true hb
  refine hB rec z h1 hb ?_
  rw [wrap_in (by omega) (by omega)]
  exact hrec (z + 1, ()) ⟨by show 1 ≤ z + 1; omega, by show z + 1 ≤ N + 1; omega⟩ (by show 1001 - (z + 1).toNat < 1001 - z.toNat; omega)
/-- A loop over the numbers of a list. -/
theorem loopIx {n : Nat} (hn : n ≤ 1000000) {B : (Int → Prop) → Int → Prop} {K : Prop} (hB : ∀ (rec : Int → Prop) (k : Nat), k < n → rec (IntKind.i64.wrap ((k : Int) + 1)) → B rec (k : Int)) (hK : K) : LOOP [Ty.int IntKind.i64] (fun (rec : Int → Prop) (z : Int) => IFB (decide (z < (n : Int))) (B rec z) K) ((0 : Int), PUnit.unit) := by
  refine LOOP.fuel (fun u => LE.le (α := Int) 0 u.1 ∧ LE.le (α := Int) u.1 n) (fun u => n - Int.toNat u.1) ⟨Int.le_refl _, by show (0 : Int) ≤ n; omega⟩ ?_
  rintro rec ⟨(z : Int), ⟨⟩⟩ ⟨h1, h2⟩ hrec
  have h1 : 0 ≤ z := h1
  have h2 : z ≤ n := h2
  refine IFB.mk (fun hb => ?_) (fun _ => hK)
  have hb : z < n := of_decide_eq_true hb
  obtain ⟨k, rfl⟩ : ∃ k : Nat, z = (k : Int) := ⟨z.toNat, by omega⟩
  refine hB rec k (by omega) ?_
  rw [wrap_in (by omega) (by omega)]
  exact hrec ((k : Int) + 1, ()) ⟨by show (0 : Int) ≤ k + 1; omega, by show (k : Int) + 1 ≤ n; omega⟩ (by show n - ((k : Int) + 1).toNat < n - (k : Int).toNat; omega)
end RE
end Go.Proofs.Ytpnmiieohdkenaa
set_option maxRecDepth 100000
set_option linter.unusedVariables false
namespace Go.Proofs.Ytpnmiieohdkenaa
open Go.RowKit
namespace RE
open PL
def lSells_C : Ctx := ⟨tau, [kents_sp, eapl_sp, eheld_sp, awake_sp], lookJ [(0, 35, ⟨[(151, .dat (.int .i64))], [], [152, 153, 154, 29, 155, 156, 157, 158, 159, 160, 193, 161, 162, 163, 164, 165, 166, 167, 168, 169, 170, 171, 172, 173, 174, 175, 176, 177, 178, 179, 180, 181, 182, 183, 184, 185, 186, 187, 188, 189, 190, 191, 192, 194], [], []⟩)]⟩
def lSells_W (l : List (Int)) (which : Int) (to_ : Int) (sq : Int) (kept : Int) (post : Bool → Prop) : Prop := (Int.NonNeg (3 : Int) ∧ (3 : Int) ≤ (6 : Int)) ∧ ∀ (v1 : api_Entitlements) (v2 : List api_Act), EInv (8 : Int) v1 → (↑v1.1.length : Int) ≤ (9223372036854775807 : Int) → IFB (decide ((↑v1.1.length : Int) = (0 : Int))) (post true) (((↑v1.1.length : Int) ≤ (9223372036854775807 : Int) → ((↑v1.1.length : Int) = (0 : Int) → False) ∧ ((↑v1.1.length : Int) = (0 : Int) → False) ∧ ((0 : Int) ≤ (IntKind.i64.wrap which).tmod (↑v1.1.length : Int) ∧ (IntKind.i64.wrap which).tmod (↑v1.1.length : Int) < (↑v1.1.length : Int)) ∧ (((ix v1.1 ((IntKind.i64.wrap which).tmod (↑v1.1.length : Int))).4 = (0 : Int) → False) ∧ ((1000001 : Int) = (0 : Int) → False) ∧ ((5 : Int) = (0 : Int) → False) ∧ v1.1.length ≤ (20 : Nat) ∧ IFB (!decide ((ix v1.1 ((IntKind.i64.wrap which).tmod (↑v1.1.length : Int))).2 = (ix v1.1 ((IntKind.i64.wrap which).tmod (↑v1.1.length : Int))).3) || decide (IntKind.i64.wrap ((1 : Int) + (IntKind.i64.wrap to_).tmod (5 : Int)) = (ix v1.1 ((IntKind.i64.wrap which).tmod (↑v1.1.length : Int))).2)) (JOIN [Ty.bool] (fun (y3 : Bool) ↦ post (decide ((applyS { Lots := v1.1, Reserve := v1.2, Next := v1.3 : api_Entitlements } { Kind := (2 : Int), Farm := (0 : Int), To := IntKind.i64.wrap ((1 : Int) + (IntKind.i64.wrap to_).tmod (5 : Int)), Lot := (ix v1.1 ((IntKind.i64.wrap which).tmod (↑v1.1.length : Int))).1, Squares := IntKind.i64.wrap ((1 : Int) + (IntKind.i64.wrap sq).tmod (ix v1.1 ((IntKind.i64.wrap which).tmod (↑v1.1.length : Int))).4), Value := (0 : Int), Keep := (IntKind.i64.wrap kept).tmod (1000001 : Int), Year := (0 : Int) : api_Act }).2 = (22 : Int)) && y3)) fun (J4 : Bool → Prop) ↦ IFB (gx true (decide ((applyS { Lots := v1.1, Reserve := v1.2, Next := v1.3 : api_Entitlements } { Kind := (2 : Int), Farm := (0 : Int), To := IntKind.i64.wrap ((1 : Int) + (IntKind.i64.wrap to_).tmod (5 : Int)), Lot := (ix v1.1 ((IntKind.i64.wrap which).tmod (↑v1.1.length : Int))).1, Squares := IntKind.i64.wrap ((1 : Int) + (IntKind.i64.wrap sq).tmod (ix v1.1 ((IntKind.i64.wrap which).tmod (↑v1.1.length : Int))).4), Value := (0 : Int), Keep := (IntKind.i64.wrap kept).tmod (1000001 : Int), Year := (0 : Int) : api_Act }).2 = (22 : Int)))) (J4 true) (J4 false)) (((1000000 : Int) = (0 : Int) → False) ∧ True ∧ True ∧ True ∧ True ∧ IFB (!decide ((applyS { Lots := v1.1, Reserve := v1.2, Next := v1.3 : api_Entitlements } { Kind := (2 : Int), Farm := (0 : Int), To := IntKind.i64.wrap ((1 : Int) + (IntKind.i64.wrap to_).tmod (5 : Int)), Lot := (ix v1.1 ((IntKind.i64.wrap which).tmod (↑v1.1.length : Int))).1, Squares := IntKind.i64.wrap ((1 : Int) + (IntKind.i64.wrap sq).tmod (ix v1.1 ((IntKind.i64.wrap which).tmod (↑v1.1.length : Int))).4), Value := (0 : Int), Keep := (IntKind.i64.wrap kept).tmod (1000001 : Int), Year := (0 : Int) : api_Act }).2 = (0 : Int)) || !decide ((applyS { Lots := v1.1, Reserve := v1.2, Next := v1.3 : api_Entitlements } { Kind := (2 : Int), Farm := (0 : Int), To := IntKind.i64.wrap ((1 : Int) + (IntKind.i64.wrap to_).tmod (5 : Int)), Lot := (ix v1.1 ((IntKind.i64.wrap which).tmod (↑v1.1.length : Int))).1, Squares := IntKind.i64.wrap ((1 : Int) + (IntKind.i64.wrap sq).tmod (ix v1.1 ((IntKind.i64.wrap which).tmod (↑v1.1.length : Int))).4), Value := (0 : Int), Keep := (IntKind.i64.wrap kept).tmod (1000001 : Int), Year := (0 : Int) : api_Act }).1.2 = IntKind.i64.wrap (v1.2 + IntKind.i64.wrap ((IntKind.i64.wrap (IntKind.i64.wrap ((1 : Int) + (IntKind.i64.wrap sq).tmod (ix v1.1 ((IntKind.i64.wrap which).tmod (↑v1.1.length : Int))).4) * (IntKind.i64.wrap kept).tmod (1000001 : Int))).tdiv (1000000 : Int)))) || !decide ((heldS { Lots := (applyS { Lots := v1.1, Reserve := v1.2, Next := v1.3 : api_Entitlements } { Kind := (2 : Int), Farm := (0 : Int), To := IntKind.i64.wrap ((1 : Int) + (IntKind.i64.wrap to_).tmod (5 : Int)), Lot := (ix v1.1 ((IntKind.i64.wrap which).tmod (↑v1.1.length : Int))).1, Squares := IntKind.i64.wrap ((1 : Int) + (IntKind.i64.wrap sq).tmod (ix v1.1 ((IntKind.i64.wrap which).tmod (↑v1.1.length : Int))).4), Value := (0 : Int), Keep := (IntKind.i64.wrap kept).tmod (1000001 : Int), Year := (0 : Int) : api_Act }).1.1, Reserve := (applyS { Lots := v1.1, Reserve := v1.2, Next := v1.3 : api_Entitlements } { Kind := (2 : Int), Farm := (0 : Int), To := IntKind.i64.wrap ((1 : Int) + (IntKind.i64.wrap to_).tmod (5 : Int)), Lot := (ix v1.1 ((IntKind.i64.wrap which).tmod (↑v1.1.length : Int))).1, Squares := IntKind.i64.wrap ((1 : Int) + (IntKind.i64.wrap sq).tmod (ix v1.1 ((IntKind.i64.wrap which).tmod (↑v1.1.length : Int))).4), Value := (0 : Int), Keep := (IntKind.i64.wrap kept).tmod (1000001 : Int), Year := (0 : Int) : api_Act }).1.2, Next := (applyS { Lots := v1.1, Reserve := v1.2, Next := v1.3 : api_Entitlements } { Kind := (2 : Int), Farm := (0 : Int), To := IntKind.i64.wrap ((1 : Int) + (IntKind.i64.wrap to_).tmod (5 : Int)), Lot := (ix v1.1 ((IntKind.i64.wrap which).tmod (↑v1.1.length : Int))).1, Squares := IntKind.i64.wrap ((1 : Int) + (IntKind.i64.wrap sq).tmod (ix v1.1 ((IntKind.i64.wrap which).tmod (↑v1.1.length : Int))).4), Value := (0 : Int), Keep := (IntKind.i64.wrap kept).tmod (1000001 : Int), Year := (0 : Int) : api_Act }).1.3 : api_Entitlements } (ix v1.1 ((IntKind.i64.wrap which).tmod (↑v1.1.length : Int))).2).1 = IntKind.i64.wrap ((heldS { Lots := v1.1, Reserve := v1.2, Next := v1.3 : api_Entitlements } (ix v1.1 ((IntKind.i64.wrap which).tmod (↑v1.1.length : Int))).2).1 - IntKind.i64.wrap ((1 : Int) + (IntKind.i64.wrap sq).tmod (ix v1.1 ((IntKind.i64.wrap which).tmod (↑v1.1.length : Int))).4))) || !decide ((heldS { Lots := (applyS { Lots := v1.1, Reserve := v1.2, Next := v1.3 : api_Entitlements } { Kind := (2 : Int), Farm := (0 : Int), To := IntKind.i64.wrap ((1 : Int) + (IntKind.i64.wrap to_).tmod (5 : Int)), Lot := (ix v1.1 ((IntKind.i64.wrap which).tmod (↑v1.1.length : Int))).1, Squares := IntKind.i64.wrap ((1 : Int) + (IntKind.i64.wrap sq).tmod (ix v1.1 ((IntKind.i64.wrap which).tmod (↑v1.1.length : Int))).4), Value := (0 : Int), Keep := (IntKind.i64.wrap kept).tmod (1000001 : Int), Year := (0 : Int) : api_Act }).1.1, Reserve := (applyS { Lots := v1.1, Reserve := v1.2, Next := v1.3 : api_Entitlements } { Kind := (2 : Int), Farm := (0 : Int), To := IntKind.i64.wrap ((1 : Int) + (IntKind.i64.wrap to_).tmod (5 : Int)), Lot := (ix v1.1 ((IntKind.i64.wrap which).tmod (↑v1.1.length : Int))).1, Squares := IntKind.i64.wrap ((1 : Int) + (IntKind.i64.wrap sq).tmod (ix v1.1 ((IntKind.i64.wrap which).tmod (↑v1.1.length : Int))).4), Value := (0 : Int), Keep := (IntKind.i64.wrap kept).tmod (1000001 : Int), Year := (0 : Int) : api_Act }).1.2, Next := (applyS { Lots := v1.1, Reserve := v1.2, Next := v1.3 : api_Entitlements } { Kind := (2 : Int), Farm := (0 : Int), To := IntKind.i64.wrap ((1 : Int) + (IntKind.i64.wrap to_).tmod (5 : Int)), Lot := (ix v1.1 ((IntKind.i64.wrap which).tmod (↑v1.1.length : Int))).1, Squares := IntKind.i64.wrap ((1 : Int) + (IntKind.i64.wrap sq).tmod (ix v1.1 ((IntKind.i64.wrap which).tmod (↑v1.1.length : Int))).4), Value := (0 : Int), Keep := (IntKind.i64.wrap kept).tmod (1000001 : Int), Year := (0 : Int) : api_Act }).1.3 : api_Entitlements } (IntKind.i64.wrap ((1 : Int) + (IntKind.i64.wrap to_).tmod (5 : Int)))).1 = IntKind.i64.wrap (IntKind.i64.wrap ((heldS { Lots := v1.1, Reserve := v1.2, Next := v1.3 : api_Entitlements } (IntKind.i64.wrap ((1 : Int) + (IntKind.i64.wrap to_).tmod (5 : Int)))).1 + IntKind.i64.wrap ((1 : Int) + (IntKind.i64.wrap sq).tmod (ix v1.1 ((IntKind.i64.wrap which).tmod (↑v1.1.length : Int))).4)) - IntKind.i64.wrap ((IntKind.i64.wrap (IntKind.i64.wrap ((1 : Int) + (IntKind.i64.wrap sq).tmod (ix v1.1 ((IntKind.i64.wrap which).tmod (↑v1.1.length : Int))).4) * (IntKind.i64.wrap kept).tmod (1000001 : Int))).tdiv (1000000 : Int))))) (post false) ((↑(applyS { Lots := v1.1, Reserve := v1.2, Next := v1.3 : api_Entitlements } { Kind := (2 : Int), Farm := (0 : Int), To := IntKind.i64.wrap ((1 : Int) + (IntKind.i64.wrap to_).tmod (5 : Int)), Lot := (ix v1.1 ((IntKind.i64.wrap which).tmod (↑v1.1.length : Int))).1, Squares := IntKind.i64.wrap ((1 : Int) + (IntKind.i64.wrap sq).tmod (ix v1.1 ((IntKind.i64.wrap which).tmod (↑v1.1.length : Int))).4), Value := (0 : Int), Keep := (IntKind.i64.wrap kept).tmod (1000001 : Int), Year := (0 : Int) : api_Act }).1.1.length : Int) ≤ (9223372036854775807 : Int) → LOOP [Ty.int IntKind.i64] (fun (rec5 : Int → Prop) (z6 : Int) ↦ IFB (decide (z6 < (↑(applyS { Lots := v1.1, Reserve := v1.2, Next := v1.3 : api_Entitlements } { Kind := (2 : Int), Farm := (0 : Int), To := IntKind.i64.wrap ((1 : Int) + (IntKind.i64.wrap to_).tmod (5 : Int)), Lot := (ix v1.1 ((IntKind.i64.wrap which).tmod (↑v1.1.length : Int))).1, Squares := IntKind.i64.wrap ((1 : Int) + (IntKind.i64.wrap sq).tmod (ix v1.1 ((IntKind.i64.wrap which).tmod (↑v1.1.length : Int))).4), Value := (0 : Int), Keep := (IntKind.i64.wrap kept).tmod (1000001 : Int), Year := (0 : Int) : api_Act }).1.1.length : Int))) (((0 : Int) ≤ z6 ∧ z6 < (↑(applyS { Lots := v1.1, Reserve := v1.2, Next := v1.3 : api_Entitlements } { Kind := (2 : Int), Farm := (0 : Int), To := IntKind.i64.wrap ((1 : Int) + (IntKind.i64.wrap to_).tmod (5 : Int)), Lot := (ix v1.1 ((IntKind.i64.wrap which).tmod (↑v1.1.length : Int))).1, Squares := IntKind.i64.wrap ((1 : Int) + (IntKind.i64.wrap sq).tmod (ix v1.1 ((IntKind.i64.wrap which).tmod (↑v1.1.length : Int))).4), Value := (0 : Int), Keep := (IntKind.i64.wrap kept).tmod (1000001 : Int), Year := (0 : Int) : api_Act }).1.1.length : Int)) ∧ IFB (decide ((ix (applyS { Lots := v1.1, Reserve := v1.2, Next := v1.3 : api_Entitlements } { Kind := (2 : Int), Farm := (0 : Int), To := IntKind.i64.wrap ((1 : Int) + (IntKind.i64.wrap to_).tmod (5 : Int)), Lot := (ix v1.1 ((IntKind.i64.wrap which).tmod (↑v1.1.length : Int))).1, Squares := IntKind.i64.wrap ((1 : Int) + (IntKind.i64.wrap sq).tmod (ix v1.1 ((IntKind.i64.wrap which).tmod (↑v1.1.length : Int))).4), Value := (0 : Int), Keep := (IntKind.i64.wrap kept).tmod (1000001 : Int), Year := (0 : Int) : api_Act }).1.1 z6).1 = v1.3) && (!decide ((ix (applyS { Lots := v1.1, Reserve := v1.2, Next := v1.3 : api_Entitlements } { Kind := (2 : Int), Farm := (0 : Int), To := IntKind.i64.wrap ((1 : Int) + (IntKind.i64.wrap to_).tmod (5 : Int)), Lot := (ix v1.1 ((IntKind.i64.wrap which).tmod (↑v1.1.length : Int))).1, Squares := IntKind.i64.wrap ((1 : Int) + (IntKind.i64.wrap sq).tmod (ix v1.1 ((IntKind.i64.wrap which).tmod (↑v1.1.length : Int))).4), Value := (0 : Int), Keep := (IntKind.i64.wrap kept).tmod (1000001 : Int), Year := (0 : Int) : api_Act }).1.1 z6).2 = IntKind.i64.wrap ((1 : Int) + (IntKind.i64.wrap to_).tmod (5 : Int))) || !decide ((ix (applyS { Lots := v1.1, Reserve := v1.2, Next := v1.3 : api_Entitlements } { Kind := (2 : Int), Farm := (0 : Int), To := IntKind.i64.wrap ((1 : Int) + (IntKind.i64.wrap to_).tmod (5 : Int)), Lot := (ix v1.1 ((IntKind.i64.wrap which).tmod (↑v1.1.length : Int))).1, Squares := IntKind.i64.wrap ((1 : Int) + (IntKind.i64.wrap sq).tmod (ix v1.1 ((IntKind.i64.wrap which).tmod (↑v1.1.length : Int))).4), Value := (0 : Int), Keep := (IntKind.i64.wrap kept).tmod (1000001 : Int), Year := (0 : Int) : api_Act }).1.1 z6).3 = IntKind.i64.wrap ((1 : Int) + (IntKind.i64.wrap to_).tmod (5 : Int))) || !decide ((ix (applyS { Lots := v1.1, Reserve := v1.2, Next := v1.3 : api_Entitlements } { Kind := (2 : Int), Farm := (0 : Int), To := IntKind.i64.wrap ((1 : Int) + (IntKind.i64.wrap to_).tmod (5 : Int)), Lot := (ix v1.1 ((IntKind.i64.wrap which).tmod (↑v1.1.length : Int))).1, Squares := IntKind.i64.wrap ((1 : Int) + (IntKind.i64.wrap sq).tmod (ix v1.1 ((IntKind.i64.wrap which).tmod (↑v1.1.length : Int))).4), Value := (0 : Int), Keep := (IntKind.i64.wrap kept).tmod (1000001 : Int), Year := (0 : Int) : api_Act }).1.1 z6).5 = (ix v1.1 ((IntKind.i64.wrap which).tmod (↑v1.1.length : Int))).5) || !decide ((ix (applyS { Lots := v1.1, Reserve := v1.2, Next := v1.3 : api_Entitlements } { Kind := (2 : Int), Farm := (0 : Int), To := IntKind.i64.wrap ((1 : Int) + (IntKind.i64.wrap to_).tmod (5 : Int)), Lot := (ix v1.1 ((IntKind.i64.wrap which).tmod (↑v1.1.length : Int))).1, Squares := IntKind.i64.wrap ((1 : Int) + (IntKind.i64.wrap sq).tmod (ix v1.1 ((IntKind.i64.wrap which).tmod (↑v1.1.length : Int))).4), Value := (0 : Int), Keep := (IntKind.i64.wrap kept).tmod (1000001 : Int), Year := (0 : Int) : api_Act }).1.1 z6).6 = (ix v1.1 ((IntKind.i64.wrap which).tmod (↑v1.1.length : Int))).6) || !decide ((ix (applyS { Lots := v1.1, Reserve := v1.2, Next := v1.3 : api_Entitlements } { Kind := (2 : Int), Farm := (0 : Int), To := IntKind.i64.wrap ((1 : Int) + (IntKind.i64.wrap to_).tmod (5 : Int)), Lot := (ix v1.1 ((IntKind.i64.wrap which).tmod (↑v1.1.length : Int))).1, Squares := IntKind.i64.wrap ((1 : Int) + (IntKind.i64.wrap sq).tmod (ix v1.1 ((IntKind.i64.wrap which).tmod (↑v1.1.length : Int))).4), Value := (0 : Int), Keep := (IntKind.i64.wrap kept).tmod (1000001 : Int), Year := (0 : Int) : api_Act }).1.1 z6).4 = IntKind.i64.wrap (IntKind.i64.wrap ((1 : Int) + (IntKind.i64.wrap sq).tmod (ix v1.1 ((IntKind.i64.wrap which).tmod (↑v1.1.length : Int))).4) - IntKind.i64.wrap ((IntKind.i64.wrap (IntKind.i64.wrap ((1 : Int) + (IntKind.i64.wrap sq).tmod (ix v1.1 ((IntKind.i64.wrap which).tmod (↑v1.1.length : Int))).4) * (IntKind.i64.wrap kept).tmod (1000001 : Int))).tdiv (1000000 : Int)))))) (post false) (rec5 (IntKind.i64.wrap (z6 + (1 : Int))))) (post true)) ((0 : Int), PUnit.unit)))) ∧ ((ix v1.1 ((IntKind.i64.wrap which).tmod (↑v1.1.length : Int))).4 = (0 : Int) → False) ∧ ((1000001 : Int) = (0 : Int) → False) ∧ ((5 : Int) = (0 : Int) → False) ∧ v1.1.length ≤ (20 : Nat) ∧ IFB (!decide ((ix v1.1 ((IntKind.i64.wrap which).tmod (↑v1.1.length : Int))).2 = (ix v1.1 ((IntKind.i64.wrap which).tmod (↑v1.1.length : Int))).3) || decide (IntKind.i64.wrap ((1 : Int) + (IntKind.i64.wrap to_).tmod (5 : Int)) = (ix v1.1 ((IntKind.i64.wrap which).tmod (↑v1.1.length : Int))).2)) (JOIN [Ty.bool] (fun (y7 : Bool) ↦ post (decide ((applyS { Lots := v1.1, Reserve := v1.2, Next := v1.3 : api_Entitlements } { Kind := (2 : Int), Farm := (0 : Int), To := IntKind.i64.wrap ((1 : Int) + (IntKind.i64.wrap to_).tmod (5 : Int)), Lot := (ix v1.1 ((IntKind.i64.wrap which).tmod (↑v1.1.length : Int))).1, Squares := IntKind.i64.wrap ((1 : Int) + (IntKind.i64.wrap sq).tmod (ix v1.1 ((IntKind.i64.wrap which).tmod (↑v1.1.length : Int))).4), Value := (0 : Int), Keep := (IntKind.i64.wrap kept).tmod (1000001 : Int), Year := (0 : Int) : api_Act }).2 = (22 : Int)) && y7)) fun (J8 : Bool → Prop) ↦ IFB (gx true (decide ((applyS { Lots := v1.1, Reserve := v1.2, Next := v1.3 : api_Entitlements } { Kind := (2 : Int), Farm := (0 : Int), To := IntKind.i64.wrap ((1 : Int) + (IntKind.i64.wrap to_).tmod (5 : Int)), Lot := (ix v1.1 ((IntKind.i64.wrap which).tmod (↑v1.1.length : Int))).1, Squares := IntKind.i64.wrap ((1 : Int) + (IntKind.i64.wrap sq).tmod (ix v1.1 ((IntKind.i64.wrap which).tmod (↑v1.1.length : Int))).4), Value := (0 : Int), Keep := (IntKind.i64.wrap kept).tmod (1000001 : Int), Year := (0 : Int) : api_Act }).2 = (22 : Int)))) (J8 true) (J8 false)) (((1000000 : Int) = (0 : Int) → False) ∧ True ∧ True ∧ True ∧ True ∧ IFB (!decide ((applyS { Lots := v1.1, Reserve := v1.2, Next := v1.3 : api_Entitlements } { Kind := (2 : Int), Farm := (0 : Int), To := IntKind.i64.wrap ((1 : Int) + (IntKind.i64.wrap to_).tmod (5 : Int)), Lot := (ix v1.1 ((IntKind.i64.wrap which).tmod (↑v1.1.length : Int))).1, Squares := IntKind.i64.wrap ((1 : Int) + (IntKind.i64.wrap sq).tmod (ix v1.1 ((IntKind.i64.wrap which).tmod (↑v1.1.length : Int))).4), Value := (0 : Int), Keep := (IntKind.i64.wrap kept).tmod (1000001 : Int), Year := (0 : Int) : api_Act }).2 = (0 : Int)) || !decide ((applyS { Lots := v1.1, Reserve := v1.2, Next := v1.3 : api_Entitlements } { Kind := (2 : Int), Farm := (0 : Int), To := IntKind.i64.wrap ((1 : Int) + (IntKind.i64.wrap to_).tmod (5 : Int)), Lot := (ix v1.1 ((IntKind.i64.wrap which).tmod (↑v1.1.length : Int))).1, Squares := IntKind.i64.wrap ((1 : Int) + (IntKind.i64.wrap sq).tmod (ix v1.1 ((IntKind.i64.wrap which).tmod (↑v1.1.length : Int))).4), Value := (0 : Int), Keep := (IntKind.i64.wrap kept).tmod (1000001 : Int), Year := (0 : Int) : api_Act }).1.2 = IntKind.i64.wrap (v1.2 + IntKind.i64.wrap ((IntKind.i64.wrap (IntKind.i64.wrap ((1 : Int) + (IntKind.i64.wrap sq).tmod (ix v1.1 ((IntKind.i64.wrap which).tmod (↑v1.1.length : Int))).4) * (IntKind.i64.wrap kept).tmod (1000001 : Int))).tdiv (1000000 : Int)))) || !decide ((heldS { Lots := (applyS { Lots := v1.1, Reserve := v1.2, Next := v1.3 : api_Entitlements } { Kind := (2 : Int), Farm := (0 : Int), To := IntKind.i64.wrap ((1 : Int) + (IntKind.i64.wrap to_).tmod (5 : Int)), Lot := (ix v1.1 ((IntKind.i64.wrap which).tmod (↑v1.1.length : Int))).1, Squares := IntKind.i64.wrap ((1 : Int) + (IntKind.i64.wrap sq).tmod (ix v1.1 ((IntKind.i64.wrap which).tmod (↑v1.1.length : Int))).4), Value := (0 : Int), Keep := (IntKind.i64.wrap kept).tmod (1000001 : Int), Year := (0 : Int) : api_Act }).1.1, Reserve := (applyS { Lots := v1.1, Reserve := v1.2, Next := v1.3 : api_Entitlements } { Kind := (2 : Int), Farm := (0 : Int), To := IntKind.i64.wrap ((1 : Int) + (IntKind.i64.wrap to_).tmod (5 : Int)), Lot := (ix v1.1 ((IntKind.i64.wrap which).tmod (↑v1.1.length : Int))).1, Squares := IntKind.i64.wrap ((1 : Int) + (IntKind.i64.wrap sq).tmod (ix v1.1 ((IntKind.i64.wrap which).tmod (↑v1.1.length : Int))).4), Value := (0 : Int), Keep := (IntKind.i64.wrap kept).tmod (1000001 : Int), Year := (0 : Int) : api_Act }).1.2, Next := (applyS { Lots := v1.1, Reserve := v1.2, Next := v1.3 : api_Entitlements } { Kind := (2 : Int), Farm := (0 : Int), To := IntKind.i64.wrap ((1 : Int) + (IntKind.i64.wrap to_).tmod (5 : Int)), Lot := (ix v1.1 ((IntKind.i64.wrap which).tmod (↑v1.1.length : Int))).1, Squares := IntKind.i64.wrap ((1 : Int) + (IntKind.i64.wrap sq).tmod (ix v1.1 ((IntKind.i64.wrap which).tmod (↑v1.1.length : Int))).4), Value := (0 : Int), Keep := (IntKind.i64.wrap kept).tmod (1000001 : Int), Year := (0 : Int) : api_Act }).1.3 : api_Entitlements } (ix v1.1 ((IntKind.i64.wrap which).tmod (↑v1.1.length : Int))).2).1 = IntKind.i64.wrap ((heldS { Lots := v1.1, Reserve := v1.2, Next := v1.3 : api_Entitlements } (ix v1.1 ((IntKind.i64.wrap which).tmod (↑v1.1.length : Int))).2).1 - IntKind.i64.wrap ((1 : Int) + (IntKind.i64.wrap sq).tmod (ix v1.1 ((IntKind.i64.wrap which).tmod (↑v1.1.length : Int))).4))) || !decide ((heldS { Lots := (applyS { Lots := v1.1, Reserve := v1.2, Next := v1.3 : api_Entitlements } { Kind := (2 : Int), Farm := (0 : Int), To := IntKind.i64.wrap ((1 : Int) + (IntKind.i64.wrap to_).tmod (5 : Int)), Lot := (ix v1.1 ((IntKind.i64.wrap which).tmod (↑v1.1.length : Int))).1, Squares := IntKind.i64.wrap ((1 : Int) + (IntKind.i64.wrap sq).tmod (ix v1.1 ((IntKind.i64.wrap which).tmod (↑v1.1.length : Int))).4), Value := (0 : Int), Keep := (IntKind.i64.wrap kept).tmod (1000001 : Int), Year := (0 : Int) : api_Act }).1.1, Reserve := (applyS { Lots := v1.1, Reserve := v1.2, Next := v1.3 : api_Entitlements } { Kind := (2 : Int), Farm := (0 : Int), To := IntKind.i64.wrap ((1 : Int) + (IntKind.i64.wrap to_).tmod (5 : Int)), Lot := (ix v1.1 ((IntKind.i64.wrap which).tmod (↑v1.1.length : Int))).1, Squares := IntKind.i64.wrap ((1 : Int) + (IntKind.i64.wrap sq).tmod (ix v1.1 ((IntKind.i64.wrap which).tmod (↑v1.1.length : Int))).4), Value := (0 : Int), Keep := (IntKind.i64.wrap kept).tmod (1000001 : Int), Year := (0 : Int) : api_Act }).1.2, Next := (applyS { Lots := v1.1, Reserve := v1.2, Next := v1.3 : api_Entitlements } { Kind := (2 : Int), Farm := (0 : Int), To := IntKind.i64.wrap ((1 : Int) + (IntKind.i64.wrap to_).tmod (5 : Int)), Lot := (ix v1.1 ((IntKind.i64.wrap which).tmod (↑v1.1.length : Int))).1, Squares := IntKind.i64.wrap ((1 : Int) + (IntKind.i64.wrap sq).tmod (ix v1.1 ((IntKind.i64.wrap which).tmod (↑v1.1.length : Int))).4), Value := (0 : Int), Keep := (IntKind.i64.wrap kept).tmod (1000001 : Int), Year := (0 : Int) : api_Act }).1.3 : api_Entitlements } (IntKind.i64.wrap ((1 : Int) + (IntKind.i64.wrap to_).tmod (5 : Int)))).1 = IntKind.i64.wrap (IntKind.i64.wrap ((heldS { Lots := v1.1, Reserve := v1.2, Next := v1.3 : api_Entitlements } (IntKind.i64.wrap ((1 : Int) + (IntKind.i64.wrap to_).tmod (5 : Int)))).1 + IntKind.i64.wrap ((1 : Int) + (IntKind.i64.wrap sq).tmod (ix v1.1 ((IntKind.i64.wrap which).tmod (↑v1.1.length : Int))).4)) - IntKind.i64.wrap ((IntKind.i64.wrap (IntKind.i64.wrap ((1 : Int) + (IntKind.i64.wrap sq).tmod (ix v1.1 ((IntKind.i64.wrap which).tmod (↑v1.1.length : Int))).4) * (IntKind.i64.wrap kept).tmod (1000001 : Int))).tdiv (1000000 : Int))))) (post false) ((↑(applyS { Lots := v1.1, Reserve := v1.2, Next := v1.3 : api_Entitlements } { Kind := (2 : Int), Farm := (0 : Int), To := IntKind.i64.wrap ((1 : Int) + (IntKind.i64.wrap to_).tmod (5 : Int)), Lot := (ix v1.1 ((IntKind.i64.wrap which).tmod (↑v1.1.length : Int))).1, Squares := IntKind.i64.wrap ((1 : Int) + (IntKind.i64.wrap sq).tmod (ix v1.1 ((IntKind.i64.wrap which).tmod (↑v1.1.length : Int))).4), Value := (0 : Int), Keep := (IntKind.i64.wrap kept).tmod (1000001 : Int), Year := (0 : Int) : api_Act }).1.1.length : Int) ≤ (9223372036854775807 : Int) → LOOP [Ty.int IntKind.i64] (fun (rec9 : Int → Prop) (z10 : Int) ↦ IFB (decide (z10 < (↑(applyS { Lots := v1.1, Reserve := v1.2, Next := v1.3 : api_Entitlements } { Kind := (2 : Int), Farm := (0 : Int), To := IntKind.i64.wrap ((1 : Int) + (IntKind.i64.wrap to_).tmod (5 : Int)), Lot := (ix v1.1 ((IntKind.i64.wrap which).tmod (↑v1.1.length : Int))).1, Squares := IntKind.i64.wrap ((1 : Int) + (IntKind.i64.wrap sq).tmod (ix v1.1 ((IntKind.i64.wrap which).tmod (↑v1.1.length : Int))).4), Value := (0 : Int), Keep := (IntKind.i64.wrap kept).tmod (1000001 : Int), Year := (0 : Int) : api_Act }).1.1.length : Int))) (((0 : Int) ≤ z10 ∧ z10 < (↑(applyS { Lots := v1.1, Reserve := v1.2, Next := v1.3 : api_Entitlements } { Kind := (2 : Int), Farm := (0 : Int), To := IntKind.i64.wrap ((1 : Int) + (IntKind.i64.wrap to_).tmod (5 : Int)), Lot := (ix v1.1 ((IntKind.i64.wrap which).tmod (↑v1.1.length : Int))).1, Squares := IntKind.i64.wrap ((1 : Int) + (IntKind.i64.wrap sq).tmod (ix v1.1 ((IntKind.i64.wrap which).tmod (↑v1.1.length : Int))).4), Value := (0 : Int), Keep := (IntKind.i64.wrap kept).tmod (1000001 : Int), Year := (0 : Int) : api_Act }).1.1.length : Int)) ∧ IFB (decide ((ix (applyS { Lots := v1.1, Reserve := v1.2, Next := v1.3 : api_Entitlements } { Kind := (2 : Int), Farm := (0 : Int), To := IntKind.i64.wrap ((1 : Int) + (IntKind.i64.wrap to_).tmod (5 : Int)), Lot := (ix v1.1 ((IntKind.i64.wrap which).tmod (↑v1.1.length : Int))).1, Squares := IntKind.i64.wrap ((1 : Int) + (IntKind.i64.wrap sq).tmod (ix v1.1 ((IntKind.i64.wrap which).tmod (↑v1.1.length : Int))).4), Value := (0 : Int), Keep := (IntKind.i64.wrap kept).tmod (1000001 : Int), Year := (0 : Int) : api_Act }).1.1 z10).1 = v1.3) && (!decide ((ix (applyS { Lots := v1.1, Reserve := v1.2, Next := v1.3 : api_Entitlements } { Kind := (2 : Int), Farm := (0 : Int), To := IntKind.i64.wrap ((1 : Int) + (IntKind.i64.wrap to_).tmod (5 : Int)), Lot := (ix v1.1 ((IntKind.i64.wrap which).tmod (↑v1.1.length : Int))).1, Squares := IntKind.i64.wrap ((1 : Int) + (IntKind.i64.wrap sq).tmod (ix v1.1 ((IntKind.i64.wrap which).tmod (↑v1.1.length : Int))).4), Value := (0 : Int), Keep := (IntKind.i64.wrap kept).tmod (1000001 : Int), Year := (0 : Int) : api_Act }).1.1 z10).2 = IntKind.i64.wrap ((1 : Int) + (IntKind.i64.wrap to_).tmod (5 : Int))) || !decide ((ix (applyS { Lots := v1.1, Reserve := v1.2, Next := v1.3 : api_Entitlements } { Kind := (2 : Int), Farm := (0 : Int), To := IntKind.i64.wrap ((1 : Int) + (IntKind.i64.wrap to_).tmod (5 : Int)), Lot := (ix v1.1 ((IntKind.i64.wrap which).tmod (↑v1.1.length : Int))).1, Squares := IntKind.i64.wrap ((1 : Int) + (IntKind.i64.wrap sq).tmod (ix v1.1 ((IntKind.i64.wrap which).tmod (↑v1.1.length : Int))).4), Value := (0 : Int), Keep := (IntKind.i64.wrap kept).tmod (1000001 : Int), Year := (0 : Int) : api_Act }).1.1 z10).3 = IntKind.i64.wrap ((1 : Int) + (IntKind.i64.wrap to_).tmod (5 : Int))) || !decide ((ix (applyS { Lots := v1.1, Reserve := v1.2, Next := v1.3 : api_Entitlements } { Kind := (2 : Int), Farm := (0 : Int), To := IntKind.i64.wrap ((1 : Int) + (IntKind.i64.wrap to_).tmod (5 : Int)), Lot := (ix v1.1 ((IntKind.i64.wrap which).tmod (↑v1.1.length : Int))).1, Squares := IntKind.i64.wrap ((1 : Int) + (IntKind.i64.wrap sq).tmod (ix v1.1 ((IntKind.i64.wrap which).tmod (↑v1.1.length : Int))).4), Value := (0 : Int), Keep := (IntKind.i64.wrap kept).tmod (1000001 : Int), Year := (0 : Int) : api_Act }).1.1 z10).5 = (ix v1.1 ((IntKind.i64.wrap which).tmod (↑v1.1.length : Int))).5) || !decide ((ix (applyS { Lots := v1.1, Reserve := v1.2, Next := v1.3 : api_Entitlements } { Kind := (2 : Int), Farm := (0 : Int), To := IntKind.i64.wrap ((1 : Int) + (IntKind.i64.wrap to_).tmod (5 : Int)), Lot := (ix v1.1 ((IntKind.i64.wrap which).tmod (↑v1.1.length : Int))).1, Squares := IntKind.i64.wrap ((1 : Int) + (IntKind.i64.wrap sq).tmod (ix v1.1 ((IntKind.i64.wrap which).tmod (↑v1.1.length : Int))).4), Value := (0 : Int), Keep := (IntKind.i64.wrap kept).tmod (1000001 : Int), Year := (0 : Int) : api_Act }).1.1 z10).6 = (ix v1.1 ((IntKind.i64.wrap which).tmod (↑v1.1.length : Int))).6) || !decide ((ix (applyS { Lots := v1.1, Reserve := v1.2, Next := v1.3 : api_Entitlements } { Kind := (2 : Int), Farm := (0 : Int), To := IntKind.i64.wrap ((1 : Int) + (IntKind.i64.wrap to_).tmod (5 : Int)), Lot := (ix v1.1 ((IntKind.i64.wrap which).tmod (↑v1.1.length : Int))).1, Squares := IntKind.i64.wrap ((1 : Int) + (IntKind.i64.wrap sq).tmod (ix v1.1 ((IntKind.i64.wrap which).tmod (↑v1.1.length : Int))).4), Value := (0 : Int), Keep := (IntKind.i64.wrap kept).tmod (1000001 : Int), Year := (0 : Int) : api_Act }).1.1 z10).4 = IntKind.i64.wrap (IntKind.i64.wrap ((1 : Int) + (IntKind.i64.wrap sq).tmod (ix v1.1 ((IntKind.i64.wrap which).tmod (↑v1.1.length : Int))).4) - IntKind.i64.wrap ((IntKind.i64.wrap (IntKind.i64.wrap ((1 : Int) + (IntKind.i64.wrap sq).tmod (ix v1.1 ((IntKind.i64.wrap which).tmod (↑v1.1.length : Int))).4) * (IntKind.i64.wrap kept).tmod (1000001 : Int))).tdiv (1000000 : Int)))))) (post false) (rec9 (IntKind.i64.wrap (z10 + (1 : Int))))) (post true)) ((0 : Int), PUnit.unit)))) ∧ ((↑v1.1.length : Int) ≤ (9223372036854775807 : Int) → ((↑v1.1.length : Int) = (0 : Int) → False) ∧ ((↑v1.1.length : Int) = (0 : Int) → False) ∧ ((0 : Int) ≤ (IntKind.i64.wrap which).tmod (↑v1.1.length : Int) ∧ (IntKind.i64.wrap which).tmod (↑v1.1.length : Int) < (↑v1.1.length : Int)) ∧ ((ix v1.1 ((IntKind.i64.wrap which).tmod (↑v1.1.length : Int))).4 = (0 : Int) → False) ∧ ((1000001 : Int) = (0 : Int) → False) ∧ ((5 : Int) = (0 : Int) → False) ∧ v1.1.length ≤ (20 : Nat) ∧ IFB (!decide ((ix v1.1 ((IntKind.i64.wrap which).tmod (↑v1.1.length : Int))).2 = (ix v1.1 ((IntKind.i64.wrap which).tmod (↑v1.1.length : Int))).3) || decide (IntKind.i64.wrap ((1 : Int) + (IntKind.i64.wrap to_).tmod (5 : Int)) = (ix v1.1 ((IntKind.i64.wrap which).tmod (↑v1.1.length : Int))).2)) (JOIN [Ty.bool] (fun (y11 : Bool) ↦ post (decide ((applyS { Lots := v1.1, Reserve := v1.2, Next := v1.3 : api_Entitlements } { Kind := (2 : Int), Farm := (0 : Int), To := IntKind.i64.wrap ((1 : Int) + (IntKind.i64.wrap to_).tmod (5 : Int)), Lot := (ix v1.1 ((IntKind.i64.wrap which).tmod (↑v1.1.length : Int))).1, Squares := IntKind.i64.wrap ((1 : Int) + (IntKind.i64.wrap sq).tmod (ix v1.1 ((IntKind.i64.wrap which).tmod (↑v1.1.length : Int))).4), Value := (0 : Int), Keep := (IntKind.i64.wrap kept).tmod (1000001 : Int), Year := (0 : Int) : api_Act }).2 = (22 : Int)) && y11)) fun (J12 : Bool → Prop) ↦ IFB (gx true (decide ((applyS { Lots := v1.1, Reserve := v1.2, Next := v1.3 : api_Entitlements } { Kind := (2 : Int), Farm := (0 : Int), To := IntKind.i64.wrap ((1 : Int) + (IntKind.i64.wrap to_).tmod (5 : Int)), Lot := (ix v1.1 ((IntKind.i64.wrap which).tmod (↑v1.1.length : Int))).1, Squares := IntKind.i64.wrap ((1 : Int) + (IntKind.i64.wrap sq).tmod (ix v1.1 ((IntKind.i64.wrap which).tmod (↑v1.1.length : Int))).4), Value := (0 : Int), Keep := (IntKind.i64.wrap kept).tmod (1000001 : Int), Year := (0 : Int) : api_Act }).2 = (22 : Int)))) (J12 true) (J12 false)) (((1000000 : Int) = (0 : Int) → False) ∧ True ∧ True ∧ True ∧ True ∧ IFB (!decide ((applyS { Lots := v1.1, Reserve := v1.2, Next := v1.3 : api_Entitlements } { Kind := (2 : Int), Farm := (0 : Int), To := IntKind.i64.wrap ((1 : Int) + (IntKind.i64.wrap to_).tmod (5 : Int)), Lot := (ix v1.1 ((IntKind.i64.wrap which).tmod (↑v1.1.length : Int))).1, Squares := IntKind.i64.wrap ((1 : Int) + (IntKind.i64.wrap sq).tmod (ix v1.1 ((IntKind.i64.wrap which).tmod (↑v1.1.length : Int))).4), Value := (0 : Int), Keep := (IntKind.i64.wrap kept).tmod (1000001 : Int), Year := (0 : Int) : api_Act }).2 = (0 : Int)) || !decide ((applyS { Lots := v1.1, Reserve := v1.2, Next := v1.3 : api_Entitlements } { Kind := (2 : Int), Farm := (0 : Int), To := IntKind.i64.wrap ((1 : Int) + (IntKind.i64.wrap to_).tmod (5 : Int)), Lot := (ix v1.1 ((IntKind.i64.wrap which).tmod (↑v1.1.length : Int))).1, Squares := IntKind.i64.wrap ((1 : Int) + (IntKind.i64.wrap sq).tmod (ix v1.1 ((IntKind.i64.wrap which).tmod (↑v1.1.length : Int))).4), Value := (0 : Int), Keep := (IntKind.i64.wrap kept).tmod (1000001 : Int), Year := (0 : Int) : api_Act }).1.2 = IntKind.i64.wrap (v1.2 + IntKind.i64.wrap ((IntKind.i64.wrap (IntKind.i64.wrap ((1 : Int) + (IntKind.i64.wrap sq).tmod (ix v1.1 ((IntKind.i64.wrap which).tmod (↑v1.1.length : Int))).4) * (IntKind.i64.wrap kept).tmod (1000001 : Int))).tdiv (1000000 : Int)))) || !decide ((heldS { Lots := (applyS { Lots := v1.1, Reserve := v1.2, Next := v1.3 : api_Entitlements } { Kind := (2 : Int), Farm := (0 : Int), To := IntKind.i64.wrap ((1 : Int) + (IntKind.i64.wrap to_).tmod (5 : Int)), Lot := (ix v1.1 ((IntKind.i64.wrap which).tmod (↑v1.1.length : Int))).1, Squares := IntKind.i64.wrap ((1 : Int) + (IntKind.i64.wrap sq).tmod (ix v1.1 ((IntKind.i64.wrap which).tmod (↑v1.1.length : Int))).4), Value := (0 : Int), Keep := (IntKind.i64.wrap kept).tmod (1000001 : Int), Year := (0 : Int) : api_Act }).1.1, Reserve := (applyS { Lots := v1.1, Reserve := v1.2, Next := v1.3 : api_Entitlements } { Kind := (2 : Int), Farm := (0 : Int), To := IntKind.i64.wrap ((1 : Int) + (IntKind.i64.wrap to_).tmod (5 : Int)), Lot := (ix v1.1 ((IntKind.i64.wrap which).tmod (↑v1.1.length : Int))).1, Squares := IntKind.i64.wrap ((1 : Int) + (IntKind.i64.wrap sq).tmod (ix v1.1 ((IntKind.i64.wrap which).tmod (↑v1.1.length : Int))).4), Value := (0 : Int), Keep := (IntKind.i64.wrap kept).tmod (1000001 : Int), Year := (0 : Int) : api_Act }).1.2, Next := (applyS { Lots := v1.1, Reserve := v1.2, Next := v1.3 : api_Entitlements } { Kind := (2 : Int), Farm := (0 : Int), To := IntKind.i64.wrap ((1 : Int) + (IntKind.i64.wrap to_).tmod (5 : Int)), Lot := (ix v1.1 ((IntKind.i64.wrap which).tmod (↑v1.1.length : Int))).1, Squares := IntKind.i64.wrap ((1 : Int) + (IntKind.i64.wrap sq).tmod (ix v1.1 ((IntKind.i64.wrap which).tmod (↑v1.1.length : Int))).4), Value := (0 : Int), Keep := (IntKind.i64.wrap kept).tmod (1000001 : Int), Year := (0 : Int) : api_Act }).1.3 : api_Entitlements } (ix v1.1 ((IntKind.i64.wrap which).tmod (↑v1.1.length : Int))).2).1 = IntKind.i64.wrap ((heldS { Lots := v1.1, Reserve := v1.2, Next := v1.3 : api_Entitlements } (ix v1.1 ((IntKind.i64.wrap which).tmod (↑v1.1.length : Int))).2).1 - IntKind.i64.wrap ((1 : Int) + (IntKind.i64.wrap sq).tmod (ix v1.1 ((IntKind.i64.wrap which).tmod (↑v1.1.length : Int))).4))) || !decide ((heldS { Lots := (applyS { Lots := v1.1, Reserve := v1.2, Next := v1.3 : api_Entitlements } { Kind := (2 : Int), Farm := (0 : Int), To := IntKind.i64.wrap ((1 : Int) + (IntKind.i64.wrap to_).tmod (5 : Int)), Lot := (ix v1.1 ((IntKind.i64.wrap which).tmod (↑v1.1.length : Int))).1, Squares := IntKind.i64.wrap ((1 : Int) + (IntKind.i64.wrap sq).tmod (ix v1.1 ((IntKind.i64.wrap which).tmod (↑v1.1.length : Int))).4), Value := (0 : Int), Keep := (IntKind.i64.wrap kept).tmod (1000001 : Int), Year := (0 : Int) : api_Act }).1.1, Reserve := (applyS { Lots := v1.1, Reserve := v1.2, Next := v1.3 : api_Entitlements } { Kind := (2 : Int), Farm := (0 : Int), To := IntKind.i64.wrap ((1 : Int) + (IntKind.i64.wrap to_).tmod (5 : Int)), Lot := (ix v1.1 ((IntKind.i64.wrap which).tmod (↑v1.1.length : Int))).1, Squares := IntKind.i64.wrap ((1 : Int) + (IntKind.i64.wrap sq).tmod (ix v1.1 ((IntKind.i64.wrap which).tmod (↑v1.1.length : Int))).4), Value := (0 : Int), Keep := (IntKind.i64.wrap kept).tmod (1000001 : Int), Year := (0 : Int) : api_Act }).1.2, Next := (applyS { Lots := v1.1, Reserve := v1.2, Next := v1.3 : api_Entitlements } { Kind := (2 : Int), Farm := (0 : Int), To := IntKind.i64.wrap ((1 : Int) + (IntKind.i64.wrap to_).tmod (5 : Int)), Lot := (ix v1.1 ((IntKind.i64.wrap which).tmod (↑v1.1.length : Int))).1, Squares := IntKind.i64.wrap ((1 : Int) + (IntKind.i64.wrap sq).tmod (ix v1.1 ((IntKind.i64.wrap which).tmod (↑v1.1.length : Int))).4), Value := (0 : Int), Keep := (IntKind.i64.wrap kept).tmod (1000001 : Int), Year := (0 : Int) : api_Act }).1.3 : api_Entitlements } (IntKind.i64.wrap ((1 : Int) + (IntKind.i64.wrap to_).tmod (5 : Int)))).1 = IntKind.i64.wrap (IntKind.i64.wrap ((heldS { Lots := v1.1, Reserve := v1.2, Next := v1.3 : api_Entitlements } (IntKind.i64.wrap ((1 : Int) + (IntKind.i64.wrap to_).tmod (5 : Int)))).1 + IntKind.i64.wrap ((1 : Int) + (IntKind.i64.wrap sq).tmod (ix v1.1 ((IntKind.i64.wrap which).tmod (↑v1.1.length : Int))).4)) - IntKind.i64.wrap ((IntKind.i64.wrap (IntKind.i64.wrap ((1 : Int) + (IntKind.i64.wrap sq).tmod (ix v1.1 ((IntKind.i64.wrap which).tmod (↑v1.1.length : Int))).4) * (IntKind.i64.wrap kept).tmod (1000001 : Int))).tdiv (1000000 : Int))))) (post false) ((↑(applyS { Lots := v1.1, Reserve := v1.2, Next := v1.3 : api_Entitlements } { Kind := (2 : Int), Farm := (0 : Int), To := IntKind.i64.wrap ((1 : Int) + (IntKind.i64.wrap to_).tmod (5 : Int)), Lot := (ix v1.1 ((IntKind.i64.wrap which).tmod (↑v1.1.length : Int))).1, Squares := IntKind.i64.wrap ((1 : Int) + (IntKind.i64.wrap sq).tmod (ix v1.1 ((IntKind.i64.wrap which).tmod (↑v1.1.length : Int))).4), Value := (0 : Int), Keep := (IntKind.i64.wrap kept).tmod (1000001 : Int), Year := (0 : Int) : api_Act }).1.1.length : Int) ≤ (9223372036854775807 : Int) → LOOP [Ty.int IntKind.i64] (fun (rec13 : Int → Prop) (z14 : Int) ↦ IFB (decide (z14 < (↑(applyS { Lots := v1.1, Reserve := v1.2, Next := v1.3 : api_Entitlements } { Kind := (2 : Int), Farm := (0 : Int), To := IntKind.i64.wrap ((1 : Int) + (IntKind.i64.wrap to_).tmod (5 : Int)), Lot := (ix v1.1 ((IntKind.i64.wrap which).tmod (↑v1.1.length : Int))).1, Squares := IntKind.i64.wrap ((1 : Int) + (IntKind.i64.wrap sq).tmod (ix v1.1 ((IntKind.i64.wrap which).tmod (↑v1.1.length : Int))).4), Value := (0 : Int), Keep := (IntKind.i64.wrap kept).tmod (1000001 : Int), Year := (0 : Int) : api_Act }).1.1.length : Int))) (((0 : Int) ≤ z14 ∧ z14 < (↑(applyS { Lots := v1.1, Reserve := v1.2, Next := v1.3 : api_Entitlements } { Kind := (2 : Int), Farm := (0 : Int), To := IntKind.i64.wrap ((1 : Int) + (IntKind.i64.wrap to_).tmod (5 : Int)), Lot := (ix v1.1 ((IntKind.i64.wrap which).tmod (↑v1.1.length : Int))).1, Squares := IntKind.i64.wrap ((1 : Int) + (IntKind.i64.wrap sq).tmod (ix v1.1 ((IntKind.i64.wrap which).tmod (↑v1.1.length : Int))).4), Value := (0 : Int), Keep := (IntKind.i64.wrap kept).tmod (1000001 : Int), Year := (0 : Int) : api_Act }).1.1.length : Int)) ∧ IFB (decide ((ix (applyS { Lots := v1.1, Reserve := v1.2, Next := v1.3 : api_Entitlements } { Kind := (2 : Int), Farm := (0 : Int), To := IntKind.i64.wrap ((1 : Int) + (IntKind.i64.wrap to_).tmod (5 : Int)), Lot := (ix v1.1 ((IntKind.i64.wrap which).tmod (↑v1.1.length : Int))).1, Squares := IntKind.i64.wrap ((1 : Int) + (IntKind.i64.wrap sq).tmod (ix v1.1 ((IntKind.i64.wrap which).tmod (↑v1.1.length : Int))).4), Value := (0 : Int), Keep := (IntKind.i64.wrap kept).tmod (1000001 : Int), Year := (0 : Int) : api_Act }).1.1 z14).1 = v1.3) && (!decide ((ix (applyS { Lots := v1.1, Reserve := v1.2, Next := v1.3 : api_Entitlements } { Kind := (2 : Int), Farm := (0 : Int), To := IntKind.i64.wrap ((1 : Int) + (IntKind.i64.wrap to_).tmod (5 : Int)), Lot := (ix v1.1 ((IntKind.i64.wrap which).tmod (↑v1.1.length : Int))).1, Squares := IntKind.i64.wrap ((1 : Int) + (IntKind.i64.wrap sq).tmod (ix v1.1 ((IntKind.i64.wrap which).tmod (↑v1.1.length : Int))).4), Value := (0 : Int), Keep := (IntKind.i64.wrap kept).tmod (1000001 : Int), Year := (0 : Int) : api_Act }).1.1 z14).2 = IntKind.i64.wrap ((1 : Int) + (IntKind.i64.wrap to_).tmod (5 : Int))) || !decide ((ix (applyS { Lots := v1.1, Reserve := v1.2, Next := v1.3 : api_Entitlements } { Kind := (2 : Int), Farm := (0 : Int), To := IntKind.i64.wrap ((1 : Int) + (IntKind.i64.wrap to_).tmod (5 : Int)), Lot := (ix v1.1 ((IntKind.i64.wrap which).tmod (↑v1.1.length : Int))).1, Squares := IntKind.i64.wrap ((1 : Int) + (IntKind.i64.wrap sq).tmod (ix v1.1 ((IntKind.i64.wrap which).tmod (↑v1.1.length : Int))).4), Value := (0 : Int), Keep := (IntKind.i64.wrap kept).tmod (1000001 : Int), Year := (0 : Int) : api_Act }).1.1 z14).3 = IntKind.i64.wrap ((1 : Int) + (IntKind.i64.wrap to_).tmod (5 : Int))) || !decide ((ix (applyS { Lots := v1.1, Reserve := v1.2, Next := v1.3 : api_Entitlements } { Kind := (2 : Int), Farm := (0 : Int), To := IntKind.i64.wrap ((1 : Int) + (IntKind.i64.wrap to_).tmod (5 : Int)), Lot := (ix v1.1 ((IntKind.i64.wrap which).tmod (↑v1.1.length : Int))).1, Squares := IntKind.i64.wrap ((1 : Int) + (IntKind.i64.wrap sq).tmod (ix v1.1 ((IntKind.i64.wrap which).tmod (↑v1.1.length : Int))).4), Value := (0 : Int), Keep := (IntKind.i64.wrap kept).tmod (1000001 : Int), Year := (0 : Int) : api_Act }).1.1 z14).5 = (ix v1.1 ((IntKind.i64.wrap which).tmod (↑v1.1.length : Int))).5) || !decide ((ix (applyS { Lots := v1.1, Reserve := v1.2, Next := v1.3 : api_Entitlements } { Kind := (2 : Int), Farm := (0 : Int), To := IntKind.i64.wrap ((1 : Int) + (IntKind.i64.wrap to_).tmod (5 : Int)), Lot := (ix v1.1 ((IntKind.i64.wrap which).tmod (↑v1.1.length : Int))).1, Squares := IntKind.i64.wrap ((1 : Int) + (IntKind.i64.wrap sq).tmod (ix v1.1 ((IntKind.i64.wrap which).tmod (↑v1.1.length : Int))).4), Value := (0 : Int), Keep := (IntKind.i64.wrap kept).tmod (1000001 : Int), Year := (0 : Int) : api_Act }).1.1 z14).6 = (ix v1.1 ((IntKind.i64.wrap which).tmod (↑v1.1.length : Int))).6) || !decide ((ix (applyS { Lots := v1.1, Reserve := v1.2, Next := v1.3 : api_Entitlements } { Kind := (2 : Int), Farm := (0 : Int), To := IntKind.i64.wrap ((1 : Int) + (IntKind.i64.wrap to_).tmod (5 : Int)), Lot := (ix v1.1 ((IntKind.i64.wrap which).tmod (↑v1.1.length : Int))).1, Squares := IntKind.i64.wrap ((1 : Int) + (IntKind.i64.wrap sq).tmod (ix v1.1 ((IntKind.i64.wrap which).tmod (↑v1.1.length : Int))).4), Value := (0 : Int), Keep := (IntKind.i64.wrap kept).tmod (1000001 : Int), Year := (0 : Int) : api_Act }).1.1 z14).4 = IntKind.i64.wrap (IntKind.i64.wrap ((1 : Int) + (IntKind.i64.wrap sq).tmod (ix v1.1 ((IntKind.i64.wrap which).tmod (↑v1.1.length : Int))).4) - IntKind.i64.wrap ((IntKind.i64.wrap (IntKind.i64.wrap ((1 : Int) + (IntKind.i64.wrap sq).tmod (ix v1.1 ((IntKind.i64.wrap which).tmod (↑v1.1.length : Int))).4) * (IntKind.i64.wrap kept).tmod (1000001 : Int))).tdiv (1000000 : Int)))))) (post false) (rec13 (IntKind.i64.wrap (z14 + (1 : Int))))) (post true)) ((0 : Int), PUnit.unit)))))
theorem lSells_w (l : List (Int)) (which : Int) (to_ : Int) (sq : Int) (kept : Int) (post : Bool → Prop) : lSells_W l which to_ sq kept post = lawG (callN Try.prog 12 lSells_C [] (drawR Try.prog tau) 10 0) 6 [tv (.sl (.int .i64)) l, tv (.int .u8) which, tv (.int .u8) to_, tv (.int .u16) sq, tv (.int .u32) kept] post := by kernel_rfl
theorem lSells_calls (hN : NewOK Try.prog 12) (l : List (Int)) (which : Int) (to_ : Int) (sq : Int) (kept : Int) (h : lSells_W l which to_ sq kept fun b => b = true) {w : World} {S : Cells} {us : List Value} (h1 : ∀ b o, S b o → b < w.heap.size) (h3 : us.length = 5) (h4 : ∀ (i : Nat) (d : D) (u : Value), [tv (.sl (.int .i64)) l, tv (.int .u8) which, tv (.int .u8) to_, tv (.int .u16) sq, tv (.int .u32) kept][i]? = some d → us[i]? = some u → Rd S w d u) : Calls Try.prog 6 us.toArray w fun e w' => (∃ b, e = .returned (.bool b) ∧ b = true) ∧ Below w.heap.size w w' := lawG_ok (callN_ok hN (C := lSells_C) (L2 := []) (dr := drawR Try.prog tau) (.cons kents_ok (.cons eapl_ok (.cons eheld_ok (.cons awake_ok .nil)))) .nil (drawR_ok tau) 10 0) (HoldW.of (lSells_w l which to_ sq kept fun b => b = true) h).h h1 h3 h4
theorem take_new {ls : List api_Lot} {nx n : Int} {i : Nat} (h : Vld nx ls) {z : api_Lot} (hz : z ∈ takeS ls i n) : z.Number ≠ nx := by
  have h1 : z.Number ∈ ls.map (·.Number) := (takeS_num (n := n) (ls := ls) (i := i)).subset (List.mem_map_of_mem hz)
  obtain ⟨q, hq, e⟩ := List.mem_map.1 h1
  have := (h.1 q hq).2.2
  omega
theorem lSells_h (l : List Int) (which to_ sq kept : Int) (w1 : (Lit.int .u8 which).wf = true) (w2 : (Lit.int .u8 to_).wf = true) (w3 : (Lit.int .u16 sq).wf = true) (w4 : (Lit.int .u32 kept).wf = true) : lSells_W l which to_ sq kept fun b => b = true := by
  obtain ⟨b1, b2⟩ := wf_u8 w1
  obtain ⟨b3, b4⟩ := wf_u8 w2
  obtain ⟨b5, b6⟩ := wf_u16 w3
  obtain ⟨b7, b8⟩ := wf_u32 w4
  unfold lSells_W
  refine ⟨⟨Int.NonNeg.mk _, by omega⟩, fun v1 v2 hv hlen => IFB.mk (fun _ => rfl) (fun h0 => ?_)⟩
  have h0 : ¬ ((v1.1.length : Int) = 0) := of_decide_eq_false h0
  have hl8 := hv.2.2.1
  have hn8 := hv.2.1
  obtain ⟨p1, p2, _⟩ := pick_in (a := which) (n := v1.1.length) b1 (by omega) (by omega) (by omega)
  obtain ⟨i, hi⟩ : ∃ i : Nat, (IntKind.i64.wrap which).tmod (v1.1.length : Int) = (i : Int) := ⟨((IntKind.i64.wrap which).tmod (v1.1.length : Int)).toNat, by omega⟩
  rw [hi] at p1 p2 ⊢
  have F := Fit.of hv (by omega) (i := i) (by omega)
  obtain ⟨L, hL⟩ : ∃ L, ix v1.1 (i : Int) = L := ⟨_, rfl⟩
  rw [hL] at F ⊢
  have hlo := F.lo
  unfold LotOK at hlo
  have hc := hv.1
  obtain ⟨r1, r2, r3⟩ := pick_in (a := sq) (n := L.4) b5 (by omega) (by omega) (by omega)
  obtain ⟨q1, q2, q3⟩ := pick_in (a := to_) (n := 5) b3 (by omega) (by omega) (by omega)
  obtain ⟨s1, s2, _⟩ := pick_in (a := kept) (n := 1000001) b7 (by omega) (by omega) (by omega)
  rw [r3, q3]
  generalize (IntKind.i64.wrap sq).tmod L.4 = n0 at *
  generalize (IntKind.i64.wrap to_).tmod 5 = t0 at *
  generalize (IntKind.i64.wrap kept).tmod 1000001 = kp at *
  obtain ⟨n, hn⟩ : ∃ n, 1 + n0 = n := ⟨_, rfl⟩
  obtain ⟨t, ht⟩ : ∃ t, 1 + t0 = t := ⟨_, rfl⟩
  rw [hn, ht]
  obtain ⟨k1, k2, k3, k4, k5⟩ := prod_in (a := n) (b := kp) (by omega) (by omega) (by omega) (by omega)
  rw [k1, Int.tdiv_eq_ediv_of_nonneg k2]
  obtain ⟨q, hq⟩ : ∃ q, n * kp / 1000000 = q := ⟨_, rfl⟩
  rw [hq] at k4 k5 ⊢
  have hre := F.re
  have htot := F.tot
  have hsn : 0 ≤ sumL v1.1 := by rw [sumL_sq]; exact sqS_nonneg fun q hq => (F.v.1 q hq).1
  have wq : IntKind.i64.wrap q = q := wrap_in (by omega) (by omega)
  have wr : IntKind.i64.wrap (v1.2 + q) = v1.2 + q := wrap_in (by omega) (by omega)
  have wn : IntKind.i64.wrap (n - q) = n - q := wrap_in (by omega) (by omega)
  rw [wq, wr, wn]
  have io := held_in hc L.2
  have it := held_in hc t
  have wo : IntKind.i64.wrap (ownS L.2 v1.1 - n) = ownS L.2 v1.1 - n := wrap_in (by omega) (by omega)
  have wt : IntKind.i64.wrap (ownS t v1.1 + n) = ownS t v1.1 + n := wrap_in (by omega) (by omega)
  have wu : IntKind.i64.wrap (ownS t v1.1 + n - q) = ownS t v1.1 + n - q := wrap_in (by omega) (by omega)
  have eo : heldS ⟨v1.1, v1.2, v1.3⟩ L.2 = (ownS L.2 v1.1, useS L.2 v1.1) := held_eq hc _
  have et : heldS ⟨v1.1, v1.2, v1.3⟩ t = (ownS t v1.1, useS t v1.1) := held_eq hc _
  rw [eo, et]
  dsimp only
  rw [wo, wt, wu]
  have tail : IFB (!decide (L.2 = L.3) || decide (t = L.2)) (applyS v1 ⟨2, 0, t, L.1, n, 0, kp, 0⟩ = (v1, 22)) (∃ y : api_Entitlements, applyS v1 ⟨2, 0, t, L.1, n, 0, kp, 0⟩ = (y, 0) ∧ y.1.length ≤ 20 ∧ y.2 = v1.2 + q ∧ (heldS y L.2).1 = ownS L.2 v1.1 - n ∧ (heldS y t).1 = ownS t v1.1 + n - q ∧ ∀ z ∈ y.1, z.1 = v1.3 → z = ⟨v1.3, t, t, n - q, L.5, L.6⟩) := by
    refine IFB.mk (fun hb => ?_) (fun hb => ?_)
    · exact F.move_err (.inl rfl) (by omega) (by simp at hb; omega)
    · have hb1 : L.2 = L.3 ∧ ¬ t = L.2 := by simpa using hb
      obtain ⟨hb1, hb2⟩ := hb1
      have hy := (apply_kept (x := v1) (a := ⟨2, 0, t, L.1, n, 0, kp, 0⟩) hc).1
      have hm := F.move (k := 2) (t := t) (n := n) (kp := kp) (q := q) (.inl rfl) (by omega) (by omega) (by omega) hb1 hb2 (by simp [hq])
      have htl : (takeS v1.1 i n).length ≤ v1.1.length := takeS_len
      by_cases hz : n - q = 0
      · have hm := hm.1 hz
        rw [hm] at hy
        refine ⟨_, hm, by dsimp only; omega, rfl, ?_, ?_, fun z hz1 hz2 => absurd hz2 (take_new F.v hz1)⟩
        · rw [held_eq hy, ownS_sq, ownS_sq, sqS_take (fun _ _ => rfl) F.il, F.el]
          simp
        · rw [held_eq hy, ownS_sq, ownS_sq, sqS_take (fun _ _ => rfl) F.il, F.el]
          dsimp only
          rw [if_neg (by simp; omega)]
          omega
      · have hm := hm.2 hz
        rw [hm] at hy
        rw [if_pos rfl] at hm hy
        refine ⟨_, hm, by simp; omega, rfl, ?_, ?_, fun z hz1 hz2 => ?_⟩
        · rw [held_eq hy, ownS_sq, ownS_sq, sqS_app, sqS_take (fun _ _ => rfl) F.il, F.el]
          simp [sqS, hb2]
        · rw [held_eq hy, ownS_sq, ownS_sq, sqS_app, sqS_take (fun _ _ => rfl) F.il, F.el]
          dsimp only
          rw [if_neg (by simp; omega)]
          simp [sqS]
          omega
        · rcases List.mem_append.1 hz1 with hz1 | hz1
          · exact absurd hz2 (take_new F.v hz1)
          · exact List.mem_singleton.1 hz1
  repeat' (first | (with_reducible refine And.intro ?_ ?_) | intro _)
  all_goals first | omega | skip
  all_goals
    refine IFB.mk (fun hb => ?_) (fun hb => ?_)
    · have he := tail.t hb
      rw [he]
      exact JOIN.mk (IFB.mk (fun _ => rfl) (fun h => by simp [gx_t] at h))
    · obtain ⟨y, hm, hyl, y1, y2, y3, y4⟩ := tail.f hb
      rw [hm]
      dsimp only
      have y2 : (heldS ⟨y.1, y.2, y.3⟩ L.2).1 = _ := y2
      have y3 : (heldS ⟨y.1, y.2, y.3⟩ t).1 = _ := y3
      rw [y1, y2, y3]
      refine ⟨by omega, trivial, trivial, trivial, trivial, IFB.mk (fun h => by simp at h) (fun _ _ => ?_)⟩
      refine loopIx (by omega) (fun rec k hk hrec => ⟨by omega, IFB.mk (fun h => ?_) (fun _ => hrec)⟩) rfl
      exfalso
      obtain ⟨h1, h2⟩ := Bool.and_eq_true_iff.1 h
      have hz := y4 (ix y.1 (k : Int)) (get_mem (by omega) (by omega)) (of_decide_eq_true h1)
      rw [hz] at h2
      simp at h2

end RE
end Go.Proofs.Ytpnmiieohdkenaa
