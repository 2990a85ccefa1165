/-
  Chapter 21, in plain words: what single acts do.
-/
import Derived.Test.YtpnmiieohdkenaaYPlain
import Derived.Test.YtpnmiieohdkenaaYTape
import Derived.Test.YtpnmiieohdkenaaYEngC
set_option linter.unusedVariables false
set_option maxRecDepth 100000
namespace Go.Proofs.Ytpnmiieohdkenaa
open Go.RowKit
namespace RE
open PL
theorem wf_u8 {a : Int} (h : (Lit.int .u8 a).wf = true) : 0 ≤ a ∧ a ≤ 255 := by
  simp [Lit.wf, IntKind.min, IntKind.max, IntKind.bits, IntKind.signed] at h; omega
theorem wf_u16 {a : Int} (h : (Lit.int .u16 a).wf = true) : 0 ≤ a ∧ a ≤ 65535 := by
  simp [Lit.wf, IntKind.min, IntKind.max, IntKind.bits, IntKind.signed] at h; omega
theorem wf_u32 {a : Int} (h : (Lit.int .u32 a).wf = true) : 0 ≤ a ∧ a ≤ 4294967295 := by
  simp [Lit.wf, IntKind.min, IntKind.max, IntKind.bits, IntKind.signed] at h; omega
theorem wf_i64 {a : Int} (h : (Lit.int .i64 a).wf = true) : -9223372036854775808 ≤ a ∧ a ≤ 9223372036854775807 := by
  simp [Lit.wf, IntKind.min, IntKind.max, IntKind.bits, IntKind.signed] at h; omega
/-- A number drawn out of another one. -/
theorem pick_in {a n : Int} (h0 : 0 ≤ a) (h1 : a ≤ 4294967295) (hn : 1 ≤ n) (hn2 : n ≤ 4294967295) : 0 ≤ (IntKind.i64.wrap a).tmod n ∧ (IntKind.i64.wrap a).tmod n < n ∧ IntKind.i64.wrap (1 + (IntKind.i64.wrap a).tmod n) = 1 + (IntKind.i64.wrap a).tmod n := by
  rw [wrap_in (by omega) (by omega)]
  have h2 := Int.tmod_nonneg n h0
  have h3 := Int.tmod_lt_of_pos a (show 0 < n by omega)
  exact ⟨h2, h3, wrap_in (by omega) (by omega)⟩
theorem sqS_le {p : api_Lot → Bool} : ∀ {ls : List api_Lot}, (∀ l ∈ ls, LotOK l) → sqS p ls ≤ sumL ls
  | [], _ => Int.le_refl _
  | x :: r, h => by
    have h1 := sqS_le (p := p) (ls := r) (fun l hl => h l (by simp [hl]))
    have h2 := h x (by simp)
    unfold LotOK at h2
    unfold sqS sumL
    split <;> omega
theorem held_eq {x : api_Entitlements} (h : chkE x = 0) (n : Int) : heldS x n = (ownS n x.Lots, useS n x.Lots) := by
  unfold heldS; rw [if_pos h]
theorem held_in {x : api_Entitlements} (h : chkE x = 0) (n : Int) : 0 ≤ ownS n x.Lots ∧ 0 ≤ useS n x.Lots ∧ ownS n x.Lots ≤ 1099511627776 ∧ useS n x.Lots ≤ 1099511627776 := by
  obtain ⟨c1, c2, c3, c4, c5, c6, c7⟩ := chkE_iff.1 h
  have hl : ∀ l ∈ x.Lots, LotOK l := fun l hl => (c6.1 l hl).1
  rw [ownS_sq, useS_sq]
  have h1 := sqS_nonneg (p := fun l => decide (l.Owner = n)) hl
  have h2 := sqS_nonneg (p := fun l => decide (l.User = n)) hl
  have h3 := sqS_le (p := fun l => decide (l.Owner = n)) hl
  have h4 := sqS_le (p := fun l => decide (l.User = n)) hl
  exact ⟨h1, h2, by omega, by omega⟩
/-! ### finding a lot -/
theorem seek_at : ∀ {ls : List api_Lot} {k : Nat} {b : Int}, ls.Pairwise (fun a b => a.Number < b.Number) → k < ls.length → seekS (ix ls (k : Int)).Number b ls = b + k
  | [], k, b, _, h => by simp at h
  | x :: r, 0, b, _, _ => by
    have e : ix (x :: r) ((0 : Nat) : Int) = x := rfl
    unfold seekS
    rw [e, if_pos rfl]; simp
  | x :: r, k + 1, b, hp, h => by
    rw [List.pairwise_cons] at hp
    have hk : k < r.length := by simpa using h
    have hr : ix (x :: r) ((k + 1 : Nat) : Int) = ix r (k : Int) := by simp [ix, List.getD]
    have hm := hp.1 _ (get_mem (l := r) (i := (k : Int)) (by omega) (by omega))
    unfold seekS
    rw [hr, if_neg (by omega), seek_at hp.2 hk]
    push_cast; omega
theorem seek_none {n : Int} : ∀ {ls : List api_Lot} {b : Int}, (∀ l ∈ ls, l.Number ≠ n) → seekS n b ls = -1
  | [], _, _ => rfl
  | x :: r, b, h => by
    unfold seekS
    rw [if_neg (h x (by simp)), seek_none (fun l hl => h l (by simp [hl]))]
theorem seek_app {n : Int} : ∀ {ls : List api_Lot} {b : Int} {v : api_Lot}, (∀ l ∈ ls, l.Number ≠ n) → v.Number = n → seekS n b (ls ++ [v]) = b + ls.length
  | [], b, v, _, h => by show (if v.Number = n then b else _) = _; rw [if_pos h]; simp
  | x :: r, b, v, h, hv => by
    show (if x.Number = n then b else seekS n (b + 1) (r ++ [v])) = _
    rw [if_neg (h x (by simp)), seek_app (fun l hl => h l (by simp [hl])) hv]
    simp; omega
/-! ### acts on a register that is valid and not full -/
structure Fit (x : api_Entitlements) (i : Nat) (l : api_Lot) : Prop where
  c : chkE x = 0
  v : Vld x.Next x.Lots
  len : x.Lots.length < 60
  nx : x.Next < 1000
  nx1 : 1 ≤ x.Next
  re : 0 ≤ x.Reserve
  tot : sumL x.Lots + x.Reserve ≤ 1099511627776
  il : i < x.Lots.length
  el : ix x.Lots (i : Int) = l
  lo : LotOK l
theorem Fit.of {k : Int} {x : api_Entitlements} (h : EInv k x) (hk : k ≤ 50) {i : Nat} (hi : i < x.Lots.length) : Fit x i (ix x.Lots (i : Int)) := by
  obtain ⟨c1, c2, c3, c4, c5, c6, c7⟩ := chkE_iff.1 h.1
  have h1 := h.2.1
  have h2 := h.2.2.1
  exact ⟨h.1, c6, by omega, by omega, c2, c4, c7, hi, rfl, (c6.1 _ (get_mem (l := x.Lots) (i := (i : Int)) (by omega) (by omega))).1⟩
theorem apply_err {x : api_Entitlements} {a : api_Act} {e : Int} (hx : chkE x = 0) (h : (actS x.Lots x.Reserve x.Next a).2.2.2 = e) (he : e ≠ 0) : applyS x a = (x, e) := by
  unfold applyS
  rw [if_neg (by simp [hx]), if_pos (by rw [h]; exact he), h]
theorem apply_ok {x : api_Entitlements} {a : api_Act} {l : List api_Lot} {re nx : Int} (hx : chkE x = 0) (h : actS x.Lots x.Reserve x.Next a = (l, re, nx, 0)) : applyS x a = (⟨l, re, nx⟩, 0) := by
  unfold applyS
  rw [if_neg (by simp [hx]), h, if_neg (by simp)]
theorem addS_ok {ls : List api_Lot} {re nx : Int} {l : api_Lot} (h1 : ls.length < 80) (h2 : nx < 1073741824) : addS ls re nx l = (ls ++ [{ l with Number := nx }], re, nx + 1, 0) := by
  unfold addS
  rw [if_neg (by omega)]
theorem Fit.seek {x : api_Entitlements} {i : Nat} {l : api_Lot} (h : Fit x i l) : seekS l.Number 0 x.Lots = (i : Int) := by
  have := seek_at (b := 0) h.v.2 h.il
  rw [h.el] at this
  omega
/-- A sale or a lease. -/
theorem Fit.move {x : api_Entitlements} {i : Nat} {l : api_Lot} (h : Fit x i l) {k t n kp q : Int} (hk : k = 2 ∨ k = 3) (ht : 1 ≤ t ∧ t ≤ 60) (hn : 1 ≤ n ∧ n ≤ l.Squares) (hkp : 0 ≤ kp ∧ kp ≤ 1000000) (hl : l.Owner = l.User) (ho : t ≠ l.Owner) (hq : q = if k = 2 then n * kp / 1000000 else 0) :
    (n - q = 0 → applyS x ⟨k, 0, t, l.Number, n, 0, kp, 0⟩ = (⟨takeS x.Lots i n, x.Reserve + q, x.Next⟩, 0)) ∧
    (n - q ≠ 0 → applyS x ⟨k, 0, t, l.Number, n, 0, kp, 0⟩ = (⟨takeS x.Lots i n ++ [⟨x.Next, if k = 2 then t else l.Owner, t, n - q, l.Value, l.Used⟩], x.Reserve + q, x.Next + 1⟩, 0)) := by
  have hs := h.seek
  have hlo := h.lo
  unfold LotOK at hlo
  have hlen := h.len
  have hnx := h.nx
  have htl : (takeS x.Lots i n).length ≤ x.Lots.length := takeS_len
  have hm : moveS x.Lots x.Reserve x.Next ⟨k, 0, t, l.Number, n, 0, kp, 0⟩ = (
      if n - q = 0 then (takeS x.Lots i n, x.Reserve + q, x.Next, 0) else (takeS x.Lots i n ++ [⟨x.Next, if k = 2 then t else l.Owner, t, n - q, l.Value, l.Used⟩], x.Reserve + q, x.Next + 1, 0)) := by
    rw [hq]
    unfold moveS keptS
    dsimp only
    rw [hs, h.el, if_neg (by omega), if_neg (by unfold farmP; omega), if_neg (by omega), if_neg (by omega)]
    simp only [Int.toNat_natCast]
    rw [addS_ok (by omega) (by omega)]
  have ha : actS x.Lots x.Reserve x.Next ⟨k, 0, t, l.Number, n, 0, kp, 0⟩ = moveS x.Lots x.Reserve x.Next ⟨k, 0, t, l.Number, n, 0, kp, 0⟩ := by
    unfold actS
    dsimp only
    rw [if_neg (by omega), if_pos hk]
  refine ⟨fun hq => ?_, fun hq => ?_⟩
  · rw [if_pos hq] at hm
    exact apply_ok h.c (ha.trans hm)
  · rw [if_neg hq] at hm
    exact apply_ok h.c (ha.trans hm)
theorem Fit.move_err {x : api_Entitlements} {i : Nat} {l : api_Lot} (h : Fit x i l) {k t n kp : Int} (hk : k = 2 ∨ k = 3) (ht : 1 ≤ t ∧ t ≤ 60) (ho : l.Owner ≠ l.User ∨ t = l.Owner) :
    applyS x ⟨k, 0, t, l.Number, n, 0, kp, 0⟩ = (x, 22) := by
  have hs := h.seek
  refine apply_err h.c ?_ (by omega)
  unfold actS
  dsimp only
  rw [if_neg (by omega), if_pos hk]
  unfold moveS
  dsimp only
  rw [hs, h.el, if_neg (by omega), if_neg (by unfold farmP; omega), if_pos (by omega)]
/-- Squares given to the reserve. -/
theorem Fit.give {x : api_Entitlements} {i : Nat} {l : api_Lot} (h : Fit x i l) {n : Int} (hn : 1 ≤ n ∧ n ≤ l.Squares) (hl : l.Owner = l.User) :
    applyS x ⟨8, 0, 0, l.Number, n, 0, 0, 0⟩ = (⟨takeS x.Lots i n, x.Reserve + n, x.Next⟩, 0) := by
  have hs := h.seek
  refine apply_ok h.c ?_
  unfold actS
  dsimp only
  rw [hs, h.el, if_neg (by omega), if_neg (by omega), if_neg (by omega), if_neg (by omega), if_neg (by omega), if_neg (by omega), if_pos rfl, if_neg (by omega), if_neg (by omega), if_neg (by omega)]
  simp
theorem Fit.give_err {x : api_Entitlements} {i : Nat} {l : api_Lot} (h : Fit x i l) {n : Int} (hn : 1 ≤ n ∧ n ≤ l.Squares) (hl : l.Owner ≠ l.User) :
    applyS x ⟨8, 0, 0, l.Number, n, 0, 0, 0⟩ = (x, 22) := by
  have hs := h.seek
  refine apply_err h.c ?_ (by omega)
  unfold actS
  dsimp only
  rw [hs, h.el, if_neg (by omega), if_neg (by omega), if_neg (by omega), if_neg (by omega), if_neg (by omega), if_neg (by omega), if_pos rfl, if_neg (by omega), if_neg (by omega), if_pos (by omega)]
theorem give_none {x : api_Entitlements} (hx : chkE x = 0) {m n : Int} (hs : ∀ l ∈ x.Lots, l.Number ≠ m) : applyS x ⟨8, 0, 0, m, n, 0, 0, 0⟩ = (x, 19) := by
  refine apply_err hx ?_ (by omega)
  unfold actS
  dsimp only
  rw [seek_none hs, if_neg (by omega), if_neg (by omega), if_neg (by omega), if_neg (by omega), if_neg (by omega), if_neg (by omega), if_pos rfl, if_pos (by omega)]
/-- The end of a lease. -/
theorem Fit.back {x : api_Entitlements} {i : Nat} {l : api_Lot} (h : Fit x i l) (hl : l.Owner ≠ l.User) :
    applyS x ⟨4, 0, 0, l.Number, 0, 0, 0, 0⟩ = (⟨x.Lots.set i { l with User := l.Owner }, x.Reserve, x.Next⟩, 0) := by
  have hs := h.seek
  refine apply_ok h.c ?_
  unfold actS
  dsimp only
  rw [hs, h.el, if_neg (by omega), if_neg (by omega), if_pos rfl, if_neg (by omega), if_neg hl]
  simp
theorem inherit_ok {x : api_Entitlements} (hx : chkE x = 0) {f t : Int} (hf : 1 ≤ f ∧ f ≤ 60) (ht : 1 ≤ t ∧ t ≤ 60) (h : f ≠ t) : applyS x ⟨5, f, t, 0, 0, 0, 0, 0⟩ = (⟨x.Lots.map (heirS f t), x.Reserve, x.Next⟩, 0) := by
  refine apply_ok hx ?_
  unfold actS
  dsimp only
  rw [if_neg (by omega), if_neg (by omega), if_neg (by omega), if_pos rfl, if_neg (by unfold farmP; omega)]
theorem inherit_err {x : api_Entitlements} (hx : chkE x = 0) {f : Int} : applyS x ⟨5, f, f, 0, 0, 0, 0, 0⟩ = (x, 20) := by
  refine apply_err hx ?_ (by omega)
  unfold actS
  dsimp only
  rw [if_neg (by omega), if_neg (by omega), if_neg (by omega), if_pos rfl, if_pos (by simp)]
theorem own_heir {k f t : Int} (h : f ≠ t) : ∀ {ls : List api_Lot}, ownS k (ls.map (heirS f t)) = (if k = f then 0 else if k = t then ownS t ls + ownS f ls else ownS k ls)
  | [] => by simp [ownS]
  | x :: r => by
    have ih := own_heir (k := k) h (ls := r)
    simp only [List.map_cons, ownS, heirS, ih]
    grind
theorem use_heir {k f t : Int} (h : f ≠ t) : ∀ {ls : List api_Lot}, useS k (ls.map (heirS f t)) = (if k = f then 0 else if k = t then useS t ls + useS f ls else useS k ls)
  | [] => by simp [useS]
  | x :: r => by
    have ih := use_heir (k := k) h (ls := r)
    simp only [List.map_cons, useS, heirS, ih]
    grind
/-- A loop from 1 on. -/
theorem loopTo {N : Int} (hN : N ≤ 1000) (hN1 : 0 ≤ N) {B : (Int → Prop) → Int → Prop} {K : Prop} (hB : ∀ (rec : Int → Prop) (z : Int), 1 ≤ z → z ≤ N → rec (IntKind.i64.wrap (z + 1)) → B rec z) (hK : K) : LOOP [Ty.int IntKind.i64] (fun (rec : Int → Prop) (z : Int) => IFB (decide (z ≤ N)) (B rec z) K) ((1 : Int), PUnit.unit) := by
  refine LOOP.fuel (fun u => LE.le (α := Int) 1 u.1 ∧ LE.le (α := Int) u.1 (N + 1)) (fun u => 1001 - Int.toNat u.1) ⟨Int.le_refl _, by show (1 : Int) ≤ N + 1; omega⟩ ?_
  rintro rec ⟨(z : Int), ⟨⟩⟩ ⟨h1, h2⟩ hrec
  have h1 : 1 ≤ z := h1
  have h2 : z ≤ N + 1 := h2
  refine IFB.mk (fun hb => ?_) (fun _ => hK)
  have hb : z ≤ N := of_decide_eq_true hb
  refine hB rec z h1 hb ?_
  rw [wrap_in (by omega) (by omega)]
  exact hrec (z + 1, ()) ⟨by show 1 ≤ z + 1; omega, by show z + 1 ≤ N + 1; omega⟩ (by show 1001 - (z + 1).toNat < 1001 - z.toNat; omega)
/-- A loop over the numbers of a list. -/
theorem loopIx {n : Nat} (hn : n ≤ 1000000) {B : (Int → Prop) → Int → Prop} {K : Prop} (hB : ∀ (rec : Int → Prop) (k : Nat), k < n → rec (IntKind.i64.wrap ((k : Int) + 1)) → B rec (k : Int)) (hK : K) : LOOP [Ty.int IntKind.i64] (fun (rec : Int → Prop) (z : Int) => IFB (decide (z < (n : Int))) (B rec z) K) ((0 : Int), PUnit.unit) := by
  refine LOOP.fuel (fun u => LE.le (α := Int) 0 u.1 ∧ LE.le (α := Int) u.1 n) (fun u => n - Int.toNat u.1) ⟨Int.le_refl _, by show (0 : Int) ≤ n; omega⟩ ?_
  rintro rec ⟨(z : Int), ⟨⟩⟩ ⟨h1, h2⟩ hrec
  have h1 : 0 ≤ z := h1
  have h2 : z ≤ n := h2
  refine IFB.mk (fun hb => ?_) (fun _ => hK)
  have hb : z < n := of_decide_eq_true hb
  obtain ⟨k, rfl⟩ : ∃ k : Nat, z = (k : Int) := ⟨z.toNat, by omega⟩
  refine hB rec k (by omega) ?_
  rw [wrap_in (by omega) (by omega)]
  exact hrec ((k : Int) + 1, ()) ⟨by show (0 : Int) ≤ k + 1; omega, by show (k : Int) + 1 ≤ n; omega⟩ (by show n - ((k : Int) + 1).toNat < n - (k : Int).toNat; omega)
end RE
end Go.Proofs.Ytpnmiieohdkenaa
set_option maxRecDepth 100000
set_option linter.unusedVariables false
namespace Go.Proofs.Ytpnmiieohdkenaa
open Go.RowKit
namespace RE
open PL
def kspoil_P (by_ : Int) (post : api_Entitlements → Prop) : Prop := ∀ x : api_Entitlements, x.Lots.length ≤ 10 → post x
def kspoil_sp : Spec := ⟨13, true, true, [.int .i64], .dat (.st .api_Entitlements), fun x post => kspoil_P (x.1 : Int) (fun y0 => post (y0, ()))⟩
def kspoil_C : Ctx := ⟨tau, [kents_sp, knext_sp, kmod_sp], lookJ [(0, 46, ⟨[], [(1, [.rf 5, .dat (.int .i64), .dat (.int .i64)])], [86, 85, 87, 88, 82, 81, 83, 84, 72, 71, 73, 74, 75, 76, 77, 78, 79, 80, 64, 63, 65, 66, 67, 68, 69, 70, 56, 55, 57, 58, 59, 60, 61, 62, 46, 45, 47, 48, 49, 50, 51, 52, 53, 54, 36, 35, 37, 38, 39, 40, 41, 42, 43, 44, 25, 26, 28, 27, 29, 30, 31, 32, 33, 34], [], [(5, 45, (.st .api_Lot))]⟩)]⟩
def kspoil_W (by_ : Int) (post : api_Entitlements → Prop) : Prop := (Int.NonNeg (6 : Int) ∧ (6 : Int) ≤ (6 : Int)) ∧ ∀ (v1 : api_Entitlements) (v2 : List api_Act), EInv (11 : Int) v1 → ((0 : Nat) + v1.1.length) * (48 : Nat) ≤ (140737488355328 : Nat) ∧ ((↑([] ++ v1.1).length : Int) ≤ (9223372036854775807 : Int) → IFB (decide ((↑([] ++ v1.1).length : Int) = (0 : Int))) (post { Lots := [] ++ v1.1, Reserve := v1.2, Next := v1.3 : api_Entitlements }) ((↑([] ++ v1.1).length : Int) ≤ (9223372036854775807 : Int) → (↑([] ++ v1.1).length : Int) ≤ (9223372036854775807 : Int) ∧ ∀ (v3 : Int), (0 : Int) ≤ v3 → v3 < (↑([] ++ v1.1).length : Int) ∨ v3 = (0 : Int) → JOIN [Ty.int IntKind.i64, Ty.int IntKind.i64, (Ty.st Sn.api_Lot).sl] (fun (y4 y5 : Int) (y6 : List api_Lot) ↦ post { Lots := y6, Reserve := y4, Next := y5 : api_Entitlements }) fun (J7 : Int → Int → List api_Lot → Prop) ↦ Int.NonNeg (9223372036854775795 : Int) ∧ ∀ (v8 : Int), (0 : Int) ≤ v8 → v8 < (12 : Int) ∨ v8 = (0 : Int) → IFB (decide (v8 = (0 : Int))) (((0 : Int) ≤ v3 ∧ v3 < (↑([] ++ v1.1).length : Int)) ∧ J7 v1.2 v1.3 (([] ++ v1.1).set v3.toNat { Number := by_, Owner := (ix ([] ++ v1.1) v3).2, User := (ix ([] ++ v1.1) v3).3, Squares := (ix ([] ++ v1.1) v3).4, Value := (ix ([] ++ v1.1) v3).5, Used := (ix ([] ++ v1.1) v3).6 : api_Lot })) (IFB (decide (v8 = (1 : Int))) ((64 : Int) ≤ (9223372036854775807 : Int) ∧ ((0 : Int) ≤ v3 ∧ v3 < (↑([] ++ v1.1).length : Int)) ∧ J7 v1.2 v1.3 (([] ++ v1.1).set v3.toNat { Number := (ix ([] ++ v1.1) v3).1, Owner := IntKind.i64.wrap (modS by_ (64 : Int) - (2 : Int)), User := (ix ([] ++ v1.1) v3).3, Squares := (ix ([] ++ v1.1) v3).4, Value := (ix ([] ++ v1.1) v3).5, Used := (ix ([] ++ v1.1) v3).6 : api_Lot })) (IFB (decide (v8 = (2 : Int))) ((64 : Int) ≤ (9223372036854775807 : Int) ∧ ((0 : Int) ≤ v3 ∧ v3 < (↑([] ++ v1.1).length : Int)) ∧ J7 v1.2 v1.3 (([] ++ v1.1).set v3.toNat { Number := (ix ([] ++ v1.1) v3).1, Owner := (ix ([] ++ v1.1) v3).2, User := IntKind.i64.wrap (modS by_ (64 : Int) - (2 : Int)), Squares := (ix ([] ++ v1.1) v3).4, Value := (ix ([] ++ v1.1) v3).5, Used := (ix ([] ++ v1.1) v3).6 : api_Lot })) (IFB (decide (v8 = (3 : Int))) (((0 : Int) ≤ v3 ∧ v3 < (↑([] ++ v1.1).length : Int)) ∧ J7 v1.2 v1.3 (([] ++ v1.1).set v3.toNat { Number := (ix ([] ++ v1.1) v3).1, Owner := (ix ([] ++ v1.1) v3).2, User := (ix ([] ++ v1.1) v3).3, Squares := by_, Value := (ix ([] ++ v1.1) v3).5, Used := (ix ([] ++ v1.1) v3).6 : api_Lot })) (IFB (decide (v8 = (4 : Int))) (((0 : Int) ≤ v3 ∧ v3 < (↑([] ++ v1.1).length : Int)) ∧ J7 v1.2 v1.3 (([] ++ v1.1).set v3.toNat { Number := (ix ([] ++ v1.1) v3).1, Owner := (ix ([] ++ v1.1) v3).2, User := (ix ([] ++ v1.1) v3).3, Squares := (ix ([] ++ v1.1) v3).4, Value := by_, Used := (ix ([] ++ v1.1) v3).6 : api_Lot })) (IFB (decide (v8 = (5 : Int))) ((105 : Int) ≤ (9223372036854775807 : Int) ∧ ((0 : Int) ≤ v3 ∧ v3 < (↑([] ++ v1.1).length : Int)) ∧ J7 v1.2 v1.3 (([] ++ v1.1).set v3.toNat { Number := (ix ([] ++ v1.1) v3).1, Owner := (ix ([] ++ v1.1) v3).2, User := (ix ([] ++ v1.1) v3).3, Squares := (ix ([] ++ v1.1) v3).4, Value := (ix ([] ++ v1.1) v3).5, Used := IntKind.i64.wrap (modS by_ (105 : Int) - (3 : Int)) : api_Lot })) (IFB (decide (v8 = (6 : Int))) (J7 by_ v1.3 ([] ++ v1.1)) (IFB (decide (v8 = (7 : Int))) (J7 v1.2 by_ ([] ++ v1.1)) (J7 v1.2 v1.3 ([] ++ v1.1)))))))))))
theorem kspoil_w (by_ : Int) (post : dens (shT kspoil_sp.rs []) → Prop) : kspoil_W by_ (fun y0 => post (y0, ())) = walk Try.prog kspoil_C (drawR Try.prog tau) 10 0 13 true [tv (.int .i64) by_] kspoil_sp.rs post := by kernel_rfl
theorem kspoil_of (h : ∀ (by_ : Int) (post : api_Entitlements → Prop), kspoil_P by_ post → kspoil_W by_ post) : SpecOK Try.prog kspoil_sp := SpecOK.of_walkH (C := kspoil_C) (dr := drawR Try.prog tau) (n := 10) (fk := 0) (.cons kents_ok (.cons knext_ok (.cons kmod_ok .nil))) (drawR_ok tau) fun x post hp => HoldW.of (kspoil_w x.1 post) (h x.1 (fun y0 => post (y0, ())) hp)
theorem kspoil_ok : SpecOK Try.prog kspoil_sp := kspoil_of fun by_ post hp => by
  unfold kspoil_W
  refine ⟨⟨Int.NonNeg.mk _, by omega⟩, fun v1 v2 hv => ?_⟩
  have hl : v1.1.length ≤ 10 := by have := hv.2.2.1; omega
  simp only [List.nil_append]
  refine ⟨by omega, fun _ => IFB.mk (fun _ => hp _ hl) (fun h0 => fun _ => ⟨by omega, fun v3 a1 a2 => ?_⟩)⟩
  have h0 : ¬ ((v1.1.length : Int) = 0) := of_decide_eq_false h0
  refine JOIN.opq fun (J : Int → Int → List api_Lot → Prop) hJ => ?_
  have hJ : ∀ a b l, l.length ≤ 10 → J a b l := by
    rw [hJ]
    exact fun a b l h => hp ⟨l, a, b⟩ h
  refine ⟨Int.NonNeg.mk _, fun v8 c1 c2 => ?_⟩
  repeat' (first | (refine hJ _ _ _ ?_; (try simp only [List.length_set]); omega) | (refine IFB.mk (fun hb => ?_) (fun hb => ?_)) | (with_reducible refine And.intro ?_ ?_) | omega)

end RE
end Go.Proofs.Ytpnmiieohdkenaa
set_option linter.unusedVariables false
namespace Go.Proofs.Ytpnmiieohdkenaa
open Go.RowKit
namespace RE
open PL

namespace PL
def runS : List api_Act → api_Entitlements → Int → api_Entitlements × Int × Int
  | [], x, k => (x, k, 0)
  | a :: r, x, k => if (applyS x a).2 = 0 then runS r (applyS x a).1 (k + 1) else (x, k, (applyS x a).2)
def runF (x : api_Entitlements) (l : List api_Act) : api_Entitlements × Int × Int := if 120 < l.length then (x, 0, 1) else runS l x 0
end PL
theorem app_lots {x : api_Entitlements} {a : api_Act} (h : (applyS x a).2 = 0) : chkE x = 0 ∧ (applyS x a).1.Lots.length ≤ 80 := by
  have hx : chkE x = 0 := Classical.byContradiction fun hne => by
    unfold applyS at h
    rw [if_pos (by simp [hne])] at h
    exact hne h
  have := (chkE_iff.1 (apply_kept (a := a) hx).1).1
  exact ⟨hx, by omega⟩
end RE
end Go.Proofs.Ytpnmiieohdkenaa
set_option maxRecDepth 100000
set_option linter.unusedVariables false
namespace Go.Proofs.Ytpnmiieohdkenaa
open Go.RowKit
namespace RE
open PL

def runI (x : api_Entitlements) (l : List api_Act) (z : Int) (b : List api_Lot) (r nx : Int) : Prop := ∃ k : Nat, z = (k : Int) ∧ k ≤ l.length ∧ b.length ≤ 100 ∧ runS (l.drop k) ⟨b, r, nx⟩ (k : Int) = runS l x 0
theorem run_step {x : api_Entitlements} {l : List api_Act} {k : Nat} {b : List api_Lot} {r nx : Int} (hk : k < l.length) (h : runS (l.drop k) ⟨b, r, nx⟩ (k : Int) = runS l x 0) :
    ((applyS ⟨b, r, nx⟩ (ix l (k : Int))).2 ≠ 0 → runS l x 0 = (⟨b, r, nx⟩, (k : Int), (applyS ⟨b, r, nx⟩ (ix l (k : Int))).2)) ∧
    ((applyS ⟨b, r, nx⟩ (ix l (k : Int))).2 = 0 → runI x l ((k + 1 : Nat) : Int) (applyS ⟨b, r, nx⟩ (ix l (k : Int))).1.1 (applyS ⟨b, r, nx⟩ (ix l (k : Int))).1.2 (applyS ⟨b, r, nx⟩ (ix l (k : Int))).1.3) := by
  have hd : l.drop k = ix l (k : Int) :: l.drop (k + 1) := by rw [ix_lt hk]; exact List.drop_eq_getElem_cons hk
  rw [hd, runS] at h
  refine ⟨fun hne => ?_, fun he => ?_⟩
  · rw [if_neg hne] at h; exact h.symm
  · rw [if_pos he] at h
    have := (app_lots he).2
    exact ⟨k + 1, rfl, hk, by omega, h⟩
def erun_P (x : api_Entitlements) (l : List (api_Act)) (post : api_Entitlements → Int → Int → Prop) : Prop := (x.1.length ≤ 100 ∧ l.length ≤ 1000) ∧ post (runF x l).1 (runF x l).2.1 (runF x l).2.2
def erun_sp : Spec := ⟨27, false, true, [.st .api_Entitlements, .sl (.st .api_Act)], .tup [.dat (.st .api_Entitlements), .dat (.int .i64), .dat (.int .i64)], fun x post => erun_P (x.1 : api_Entitlements) (x.2.1 : List (api_Act)) (fun y0 y1 y2 => post (y0, y1, y2, ()))⟩
def erun_C : CtxR := ⟨tau, [rule1 eapl_sp], lookJ [(0, 11, ⟨[(20, .dat (.int .i64))], [(5, [.dat (.sl (.st .api_Lot)), .dat (.int .i64), .dat (.int .i64)])], [21, 22, 23, 24, 9, 8, 26, 27, 28, 25, 29, 30, 10, 11, 31, 32, 36, 37], [4], []⟩), (1066418167, 0, ⟨[(0, .own 45 (.st .api_Lot))], [], [], [], []⟩)]⟩
def erun_W (x : api_Entitlements) (l : List (api_Act)) (post : api_Entitlements → Int → Int → Prop) : Prop := JOIN [(Ty.st Sn.api_Lot).sl] (fun (y1 : List api_Lot) ↦ (↑l.length : Int) ≤ (9223372036854775807 : Int) → IFB (decide ((120 : Int) < (↑l.length : Int))) (post { Lots := y1, Reserve := x.2, Next := x.3 : api_Entitlements } (0 : Int) (1 : Int)) ((↑l.length : Int) ≤ (9223372036854775807 : Int) → LOOP [Ty.int IntKind.i64, (Ty.st Sn.api_Lot).sl, Ty.int IntKind.i64, Ty.int IntKind.i64] (fun (rec2 : Int → List api_Lot → Int → Int → Prop) (z3 : Int) (z4 : List api_Lot) (z5 z6 : Int) ↦ IFB (decide (z3 < (↑l.length : Int))) (((0 : Int) ≤ z3 ∧ z3 < (↑l.length : Int)) ∧ z4.length ≤ (200 : Nat) ∧ IFB (!decide ((applyS { Lots := z4, Reserve := z5, Next := z6 : api_Entitlements } { Kind := (ix l z3).1, Farm := (ix l z3).2, To := (ix l z3).3, Lot := (ix l z3).4, Squares := (ix l z3).5, Value := (ix l z3).6, Keep := (ix l z3).7, Year := (ix l z3).8 : api_Act }).2 = (0 : Int))) (post { Lots := z4, Reserve := z5, Next := z6 : api_Entitlements } z3 (applyS { Lots := z4, Reserve := z5, Next := z6 : api_Entitlements } { Kind := (ix l z3).1, Farm := (ix l z3).2, To := (ix l z3).3, Lot := (ix l z3).4, Squares := (ix l z3).5, Value := (ix l z3).6, Keep := (ix l z3).7, Year := (ix l z3).8 : api_Act }).2) (rec2 (IntKind.i64.wrap (z3 + (1 : Int))) (applyS { Lots := z4, Reserve := z5, Next := z6 : api_Entitlements } { Kind := (ix l z3).1, Farm := (ix l z3).2, To := (ix l z3).3, Lot := (ix l z3).4, Squares := (ix l z3).5, Value := (ix l z3).6, Keep := (ix l z3).7, Year := (ix l z3).8 : api_Act }).1.1 (applyS { Lots := z4, Reserve := z5, Next := z6 : api_Entitlements } { Kind := (ix l z3).1, Farm := (ix l z3).2, To := (ix l z3).3, Lot := (ix l z3).4, Squares := (ix l z3).5, Value := (ix l z3).6, Keep := (ix l z3).7, Year := (ix l z3).8 : api_Act }).1.2 (applyS { Lots := z4, Reserve := z5, Next := z6 : api_Entitlements } { Kind := (ix l z3).1, Farm := (ix l z3).2, To := (ix l z3).3, Lot := (ix l z3).4, Squares := (ix l z3).5, Value := (ix l z3).6, Keep := (ix l z3).7, Year := (ix l z3).8 : api_Act }).1.3)) ((↑l.length : Int) ≤ (9223372036854775807 : Int) → post { Lots := z4, Reserve := z5, Next := z6 : api_Entitlements } (↑l.length : Int) (0 : Int))) ((0 : Int), y1, x.2, x.3, PUnit.unit))) fun (J7 : List api_Lot → Prop) ↦ ∀ (v8 : Bool), (v8 = true → x.1 = []) → IFB v8 (J7 []) (((0 : Nat) + x.1.length) * (48 : Nat) ≤ (140737488355328 : Nat) ∧ J7 ([] ++ x.1))
theorem erun_w (x : api_Entitlements) (l : List (api_Act)) (post : dens (shT erun_sp.rs []) → Prop) : erun_W x l (fun y0 y1 y2 => post (y0, y1, y2, ())) = walkG (callR Try.prog erun_C (drawF Try.prog tau) 8 0) 27 false [tv (.st .api_Entitlements) x, tv (.sl (.st .api_Act)) l] erun_sp.rs post := by kernel_rfl
theorem erun_of (h : ∀ (x : api_Entitlements) (l : List (api_Act)) (post : api_Entitlements → Int → Int → Prop), erun_P x l post → erun_W x l post) : SpecOK Try.prog erun_sp := SpecOK.of_rules (C := erun_C) (dr := drawF Try.prog tau) (n := 8) (fk := 0) (.cons (rule1_ok eapl_ok) .nil) (drawF_ok tau) fun x post hp => HoldW.of (erun_w x.1 x.2.1 post) (h x.1 x.2.1 (fun y0 y1 y2 => post (y0, y1, y2, ())) hp)

theorem erun_ok : SpecOK Try.prog erun_sp := erun_of fun x l post hp => by
  obtain ⟨⟨hx, hl⟩, hp⟩ := hp
  unfold erun_W
  refine JOIN.opqL fun (J : List api_Lot → Prop) hJ v8 hv => ?_
  have key : J x.1 := by
    rw [hJ]
    refine fun _ => IFB.mk (fun hc => ?_) (fun hc => fun _ => ?_)
    · have hc : (120 : Int) < l.length := of_decide_eq_true hc
      have e : runF x l = (x, 0, 1) := by unfold runF; rw [if_pos (by omega)]
      rw [e] at hp; exact hp
    have hc : ¬ (120 : Int) < l.length := of_decide_eq_false hc
    have e : runF x l = runS l x 0 := by unfold runF; rw [if_neg (by omega)]
    rw [e] at hp
    refine LOOP.fuel (fun u => runI x l u.1 u.2.1 u.2.2.1 u.2.2.2.1) (fun u => l.length - Int.toNat u.1) ⟨0, rfl, Nat.zero_le _, hx, rfl⟩ ?_
    rintro rec ⟨(z : Int), (b : List api_Lot), (r : Int), (nx : Int), ⟨⟩⟩ ⟨k, k1, k2, k3, k4⟩ hrec
    have j1 : z = (k : Int) := k1
    have j3 : b.length ≤ 100 := k3
    have j4 : runS (l.drop k) ⟨b, r, nx⟩ (k : Int) = runS l x 0 := k4
    clear k1 k3 k4
    subst j1
    refine IFB.mk (fun hb => ?_) (fun hb => ?_)
    · have hb : (k : Int) < l.length := of_decide_eq_true hb
      have hk : k < l.length := by omega
      obtain ⟨s1, s2⟩ := run_step hk j4
      dsimp only
      refine ⟨⟨by omega, hb⟩, by omega, ?_⟩
      show IFB (!decide ((applyS ⟨b, r, nx⟩ (ix l (k : Int))).2 = 0)) (post ⟨b, r, nx⟩ (k : Int) (applyS ⟨b, r, nx⟩ (ix l (k : Int))).2) (rec (IntKind.i64.wrap ((k : Int) + 1)) (applyS ⟨b, r, nx⟩ (ix l (k : Int))).1.1 (applyS ⟨b, r, nx⟩ (ix l (k : Int))).1.2 (applyS ⟨b, r, nx⟩ (ix l (k : Int))).1.3)
      refine IFB.mk (fun he => ?_) (fun he => ?_)
      · have he : (applyS ⟨b, r, nx⟩ (ix l (k : Int))).2 ≠ 0 := by simpa using he
        rw [s1 he] at hp; exact hp
      · have he : (applyS ⟨b, r, nx⟩ (ix l (k : Int))).2 = 0 := by simpa using he
        rw [wrapS (by omega)]
        exact hrec (((k + 1 : Nat) : Int), _, _, _, ()) (s2 he) (by show l.length - ((k + 1 : Nat) : Int).toNat < l.length - (k : Int).toNat; omega)
    · have hb : ¬ (k : Int) < l.length := of_decide_eq_false hb
      have hk : k = l.length := by omega
      rw [hk, List.drop_length, runS] at j4
      rw [← j4] at hp
      exact fun _ => hp
  refine IFB.mk (fun hb => ?_) (fun _ => ⟨by omega, by rw [List.nil_append]; exact key⟩)
  have := hv hb
  rw [this] at key; exact key
def rrun_P (x : api_Entitlements) (l : List (api_Act)) (post : api_Entitlements → Int → Int → Prop) : Prop := (x.1.length ≤ 100 ∧ l.length ≤ 1000) ∧ post (runF x l).1 (runF x l).2.1 (runF x l).2.2
def rrun_sp : Spec := ⟨28, false, true, [.st .api_Entitlements, .sl (.st .api_Act)], .tup [.dat (.st .api_Entitlements), .dat (.int .i64), .dat (.int .i64)], fun x post => rrun_P (x.1 : api_Entitlements) (x.2.1 : List (api_Act)) (fun y0 y1 y2 => post (y0, y1, y2, ()))⟩
def rrun_C : CtxR := ⟨tau, [rule1 rapl_sp], lookJ [(0, 9, ⟨[(18, .dat (.int .i64))], [(0, [.dat (.sl (.st .api_Lot)), .dat (.int .i64), .dat (.int .i64)])], [19, 20, 21, 22, 8, 7, 24, 25, 26, 23, 27, 28, 9, 10, 29, 30, 35, 36], [], []⟩)]⟩
def rrun_W (x : api_Entitlements) (l : List (api_Act)) (post : api_Entitlements → Int → Int → Prop) : Prop := (↑l.length : Int) ≤ (9223372036854775807 : Int) → IFB (decide ((120 : Int) < (↑l.length : Int))) (((0 : Nat) + x.1.length) * (48 : Nat) ≤ (140737488355328 : Nat) ∧ post { Lots := [] ++ x.1, Reserve := x.2, Next := x.3 : api_Entitlements } (0 : Int) (1 : Int)) ((↑l.length : Int) ≤ (9223372036854775807 : Int) → LOOP [Ty.int IntKind.i64, (Ty.st Sn.api_Lot).sl, Ty.int IntKind.i64, Ty.int IntKind.i64] (fun (rec1 : Int → List api_Lot → Int → Int → Prop) (z2 : Int) (z3 : List api_Lot) (z4 z5 : Int) ↦ IFB (decide (z2 < (↑l.length : Int))) (((0 : Int) ≤ z2 ∧ z2 < (↑l.length : Int)) ∧ z3.length ≤ (1000 : Nat) ∧ IFB (!decide ((applyS { Lots := z3, Reserve := z4, Next := z5 : api_Entitlements } { Kind := (ix l z2).1, Farm := (ix l z2).2, To := (ix l z2).3, Lot := (ix l z2).4, Squares := (ix l z2).5, Value := (ix l z2).6, Keep := (ix l z2).7, Year := (ix l z2).8 : api_Act }).2 = (0 : Int))) (((0 : Nat) + z3.length) * (48 : Nat) ≤ (140737488355328 : Nat) ∧ post { Lots := [] ++ z3, Reserve := z4, Next := z5 : api_Entitlements } z2 (applyS { Lots := z3, Reserve := z4, Next := z5 : api_Entitlements } { Kind := (ix l z2).1, Farm := (ix l z2).2, To := (ix l z2).3, Lot := (ix l z2).4, Squares := (ix l z2).5, Value := (ix l z2).6, Keep := (ix l z2).7, Year := (ix l z2).8 : api_Act }).2) (rec1 (IntKind.i64.wrap (z2 + (1 : Int))) (applyS { Lots := z3, Reserve := z4, Next := z5 : api_Entitlements } { Kind := (ix l z2).1, Farm := (ix l z2).2, To := (ix l z2).3, Lot := (ix l z2).4, Squares := (ix l z2).5, Value := (ix l z2).6, Keep := (ix l z2).7, Year := (ix l z2).8 : api_Act }).1.1 (applyS { Lots := z3, Reserve := z4, Next := z5 : api_Entitlements } { Kind := (ix l z2).1, Farm := (ix l z2).2, To := (ix l z2).3, Lot := (ix l z2).4, Squares := (ix l z2).5, Value := (ix l z2).6, Keep := (ix l z2).7, Year := (ix l z2).8 : api_Act }).1.2 (applyS { Lots := z3, Reserve := z4, Next := z5 : api_Entitlements } { Kind := (ix l z2).1, Farm := (ix l z2).2, To := (ix l z2).3, Lot := (ix l z2).4, Squares := (ix l z2).5, Value := (ix l z2).6, Keep := (ix l z2).7, Year := (ix l z2).8 : api_Act }).1.3)) (((0 : Nat) + z3.length) * (48 : Nat) ≤ (140737488355328 : Nat) ∧ ((↑l.length : Int) ≤ (9223372036854775807 : Int) → post { Lots := [] ++ z3, Reserve := z4, Next := z5 : api_Entitlements } (↑l.length : Int) (0 : Int)))) ((0 : Int), x.1, x.2, x.3, PUnit.unit))
theorem rrun_w (x : api_Entitlements) (l : List (api_Act)) (post : dens (shT rrun_sp.rs []) → Prop) : rrun_W x l (fun y0 y1 y2 => post (y0, y1, y2, ())) = walkG (callR Try.prog rrun_C (drawF Try.prog tau) 8 0) 28 false [tv (.st .api_Entitlements) x, tv (.sl (.st .api_Act)) l] rrun_sp.rs post := by kernel_rfl
theorem rrun_of (h : ∀ (x : api_Entitlements) (l : List (api_Act)) (post : api_Entitlements → Int → Int → Prop), rrun_P x l post → rrun_W x l post) : SpecOK Try.prog rrun_sp := SpecOK.of_rules (C := rrun_C) (dr := drawF Try.prog tau) (n := 8) (fk := 0) (.cons (rule1_ok rapl_ok) .nil) (drawF_ok tau) fun x post hp => HoldW.of (rrun_w x.1 x.2.1 post) (h x.1 x.2.1 (fun y0 y1 y2 => post (y0, y1, y2, ())) hp)
theorem rrun_ok : SpecOK Try.prog rrun_sp := rrun_of fun x l post hp => by
  obtain ⟨⟨hx, hl⟩, hp⟩ := hp
  unfold rrun_W
  refine fun _ => IFB.mk (fun hc => ?_) (fun hc => fun _ => ?_)
  · have hc : (120 : Int) < l.length := of_decide_eq_true hc
    have e : runF x l = (x, 0, 1) := by unfold runF; rw [if_pos (by omega)]
    rw [e] at hp
    exact ⟨by omega, by rw [List.nil_append]; exact hp⟩
  have hc : ¬ (120 : Int) < l.length := of_decide_eq_false hc
  have e : runF x l = runS l x 0 := by unfold runF; rw [if_neg (by omega)]
  rw [e] at hp
  refine LOOP.fuel (fun u => runI x l u.1 u.2.1 u.2.2.1 u.2.2.2.1) (fun u => l.length - Int.toNat u.1) ⟨0, rfl, Nat.zero_le _, hx, rfl⟩ ?_
  rintro rec ⟨(z : Int), (b : List api_Lot), (r : Int), (nx : Int), ⟨⟩⟩ ⟨k, k1, k2, k3, k4⟩ hrec
  have j1 : z = (k : Int) := k1
  have j3 : b.length ≤ 100 := k3
  have j4 : runS (l.drop k) ⟨b, r, nx⟩ (k : Int) = runS l x 0 := k4
  clear k1 k3 k4
  subst j1
  refine IFB.mk (fun hb => ?_) (fun hb => ?_)
  · have hb : (k : Int) < l.length := of_decide_eq_true hb
    have hk : k < l.length := by omega
    obtain ⟨s1, s2⟩ := run_step hk j4
    dsimp only
    refine ⟨⟨by omega, hb⟩, by omega, ?_⟩
    refine IFB.mk (fun he => ?_) (fun he => ?_)
    · have he : (applyS ⟨b, r, nx⟩ (ix l (k : Int))).2 ≠ 0 := by simpa using he
      rw [s1 he] at hp
      refine ⟨by omega, ?_⟩
      show post ⟨[] ++ b, r, nx⟩ (k : Int) (applyS ⟨b, r, nx⟩ (ix l (k : Int))).2
      rw [List.nil_append]; exact hp
    · have he : (applyS ⟨b, r, nx⟩ (ix l (k : Int))).2 = 0 := by simpa using he
      rw [wrapS (by omega)]
      exact hrec (((k + 1 : Nat) : Int), _, _, _, ()) (s2 he) (by show l.length - ((k + 1 : Nat) : Int).toNat < l.length - (k : Int).toNat; omega)
  · have hb : ¬ (k : Int) < l.length := of_decide_eq_false hb
    have hk : k = l.length := by omega
    rw [hk, List.drop_length, runS] at j4
    rw [← j4] at hp
    dsimp only
    refine ⟨by omega, fun _ => ?_⟩
    show post ⟨[] ++ b, r, nx⟩ (l.length : Int) 0
    rw [List.nil_append]; exact hp

end RE
end Go.Proofs.Ytpnmiieohdkenaa
set_option maxRecDepth 100000
set_option linter.unusedVariables false
namespace Go.Proofs.Ytpnmiieohdkenaa
open Go.RowKit
namespace RE
open PL

def eusD_P (x : api_Entitlements) (n : Int) (post : List (Int) → Prop) : Prop := (x.1.length ≤ 200) ∧ post (if chkE x = 0 then usableS x.1 n else [])
def eusD_sp : Spec := ⟨31, false, true, [.st .api_Entitlements, .int .i64], .dat (.sl (.int .i64)), fun x post => eusD_P (x.1 : api_Entitlements) (x.2.1 : Int) (fun y0 => post (y0, ()))⟩
def eusD_C : CtxR := ⟨tau, [rule1 echk_sp, rule1 usab_sp], lookJ []⟩
def eusD_W (x : api_Entitlements) (n : Int) (post : List (Int) → Prop) : Prop := True ∧ IFB (!decide (chkE { Lots := x.1, Reserve := x.2, Next := x.3 : api_Entitlements } = (0 : Int))) (post []) (x.1.length ≤ (1000 : Nat) ∧ post (usableS x.1 n))
theorem eusD_w (x : api_Entitlements) (n : Int) (post : dens (shT eusD_sp.rs []) → Prop) : eusD_W x n (fun y0 => post (y0, ())) = walkG (callR Try.prog eusD_C (drawR Try.prog tau) 8 0) 31 false [tv (.st .api_Entitlements) x, tv (.int .i64) n] eusD_sp.rs post := by kernel_rfl
theorem eusD_of (h : ∀ (x : api_Entitlements) (n : Int) (post : List (Int) → Prop), eusD_P x n post → eusD_W x n post) : SpecOK Try.prog eusD_sp := SpecOK.of_rules (C := eusD_C) (dr := drawR Try.prog tau) (n := 8) (fk := 0) (.cons (rule1_ok echk_ok) (.cons (rule1_ok usab_ok) .nil)) (drawR_ok tau) fun x post hp => HoldW.of (eusD_w x.1 x.2.1 post) (h x.1 x.2.1 (fun y0 => post (y0, ())) hp)
theorem eusD_ok : SpecOK Try.prog eusD_sp := eusD_of fun x n post hp => by
  obtain ⟨hl, hp⟩ := hp
  unfold eusD_W
  refine ⟨trivial, IFB.mk (fun h => ?_) (fun h => ?_)⟩
  · have h : ¬ chkE x = 0 := by simpa using h
    rw [if_neg h] at hp; exact hp
  · have h : chkE x = 0 := by simpa using h
    rw [if_pos h] at hp; exact ⟨(by omega), hp⟩

def rusD_P (x : api_Entitlements) (n : Int) (post : List (Int) → Prop) : Prop := (x.Lots.length ≤ 80) ∧ post (if chkE x = 0 then usableS x.Lots n else [])
def rusD_sp : Spec := ⟨32, false, true, [.st .api_Entitlements, .int .i64], .dat (.sl (.int .i64)), fun x post => rusD_P (x.1 : api_Entitlements) (x.2.1 : Int) (fun y0 => post (y0, ()))⟩
def rusD_C : CtxR := ⟨tau, [rule1 rchk_sp], lookJ [(0, 11, ⟨[(15, .dat (.int .i64)), (5, .own 3 (.int .i64))], [], [16, 23, 22, 21, 20, 6, 7, 19, 18, 17, 45, 46, 47, 48, 49, 50, 51, 52, 53, 54, 55, 56, 41, 40, 39, 38, 37, 36, 35, 34, 33, 32, 31, 30, 29, 42, 28, 27, 26, 8, 43, 44, 25, 24, 57], [], []⟩), (0, 24, ⟨[(5, .own 3 (.int .i64))], [], [24, 25, 44, 43, 8, 26, 27, 28, 42, 29, 30, 31, 32, 33, 34, 35, 36, 37, 38, 39, 40, 41, 56, 55, 54, 53, 52, 51, 50, 49, 48, 47, 46, 45, 17, 18, 19, 7, 6, 20, 21, 22, 23], [1], []⟩), (0, 1000011, ⟨[(5, .own 3 (.int .i64))], [], [45, 46, 47, 48, 49, 50, 51, 52, 53, 54, 55, 56], [], []⟩), (0, 19, ⟨[(8, .dat (.int .i64))], [], [26, 27, 28, 42, 29, 30, 31, 32, 33, 34, 35, 36, 37, 38, 39, 40, 41, 43, 44], [], []⟩)]⟩
def rusD_W (x : api_Entitlements) (n : Int) (post : List (Int) → Prop) : Prop := True ∧ IFB (!decide (chkE { Lots := x.1, Reserve := x.2, Next := x.3 : api_Entitlements } = (0 : Int))) (post []) ((↑x.1.length : Int) ≤ (9223372036854775807 : Int) → LOOP [Ty.int IntKind.i64, (Ty.int IntKind.i64).sl] (fun (rec1 : Int → List Int → Prop) (z2 : Int) (z3 : List Int) ↦ IFB (decide (z2 < (↑x.1.length : Int))) (JOIN [(Ty.int IntKind.i64).sl] (fun (y4 : List Int) ↦ rec1 (IntKind.i64.wrap (z2 + (1 : Int))) y4) fun (J5 : List Int → Prop) ↦ ((0 : Int) ≤ z2 ∧ z2 < (↑x.1.length : Int)) ∧ IFB (!decide ((ix x.1 z2).3 = n)) (J5 z3) ((↑z3.length : Int) ≤ (9223372036854775807 : Int) → LOOP [Ty.int IntKind.i64] (fun (rec6 : Int → Prop) (z7 : Int) ↦ (gx true (decide ((0 : Int) < z7)) = true → (0 : Int) ≤ IntKind.i64.wrap (z7 - (1 : Int)) ∧ IntKind.i64.wrap (z7 - (1 : Int)) < (↑z3.length : Int)) ∧ (gx true (decide ((0 : Int) < z7)) = true → (0 : Int) ≤ ix z3 (IntKind.i64.wrap (z7 - (1 : Int))) ∧ ix z3 (IntKind.i64.wrap (z7 - (1 : Int))) < (↑x.1.length : Int)) ∧ IFB (decide ((0 : Int) < z7) && decide ((ix x.1 (ix z3 (IntKind.i64.wrap (z7 - (1 : Int))))).5 < (ix x.1 z2).5)) (rec6 (IntKind.i64.wrap (z7 - (1 : Int)))) (JOIN [(Ty.int IntKind.i64).sl] (fun (y8 : List Int) ↦ J5 y8) fun (J9 : List Int → Prop) ↦ (Int.NonNeg (0 : Int) ∧ (0 : Int) ≤ z7 ∧ z7 ≤ (↑z3.length : Int)) ∧ ((0 : Int) ≤ z7 ∧ z7 ≤ (↑z3.length : Int) ∧ (↑z3.length : Int) ≤ (↑z3.length : Int)) ∧ ((((0 : Nat) + (sub z3 (0 : Int) z7).length) * (8 : Nat) ≤ (140737488355328 : Nat) ∧ (([] ++ sub z3 (0 : Int) z7).length + [z2].length) * (8 : Nat) ≤ (140737488355328 : Nat) ∧ (([] ++ sub z3 (0 : Int) z7 ++ [z2]).length + (sub z3 z7 (↑z3.length : Int)).length) * (8 : Nat) ≤ (140737488355328 : Nat) ∧ J9 ([] ++ sub z3 (0 : Int) z7 ++ [z2] ++ sub z3 z7 (↑z3.length : Int))) ∧ ((0 : Nat) + (sub z3 (0 : Int) z7).length) * (8 : Nat) ≤ (140737488355328 : Nat) ∧ (([] ++ sub z3 (0 : Int) z7).length + [z2].length) * (8 : Nat) ≤ (140737488355328 : Nat) ∧ (([] ++ sub z3 (0 : Int) z7 ++ [z2]).length + (sub z3 z7 (↑z3.length : Int)).length) * (8 : Nat) ≤ (140737488355328 : Nat) ∧ J9 ([] ++ sub z3 (0 : Int) z7 ++ [z2] ++ sub z3 z7 (↑z3.length : Int))) ∧ ((0 : Nat) + (sub z3 (0 : Int) z7).length) * (8 : Nat) ≤ (140737488355328 : Nat) ∧ (([] ++ sub z3 (0 : Int) z7).length + [z2].length) * (8 : Nat) ≤ (140737488355328 : Nat) ∧ (([] ++ sub z3 (0 : Int) z7 ++ [z2]).length + (sub z3 z7 (↑z3.length : Int)).length) * (8 : Nat) ≤ (140737488355328 : Nat) ∧ J9 ([] ++ sub z3 (0 : Int) z7 ++ [z2] ++ sub z3 z7 (↑z3.length : Int)))) ((↑z3.length : Int), PUnit.unit))) (post z3)) ((0 : Int), [], PUnit.unit))
theorem rusD_w (x : api_Entitlements) (n : Int) (post : dens (shT rusD_sp.rs []) → Prop) : rusD_W x n (fun y0 => post (y0, ())) = walkG (callR Try.prog rusD_C (drawR Try.prog tau) 8 0) 32 false [tv (.st .api_Entitlements) x, tv (.int .i64) n] rusD_sp.rs post := by kernel_rfl
theorem rusD_of (h : ∀ (x : api_Entitlements) (n : Int) (post : List (Int) → Prop), rusD_P x n post → rusD_W x n post) : SpecOK Try.prog rusD_sp := SpecOK.of_rules (C := rusD_C) (dr := drawR Try.prog tau) (n := 8) (fk := 0) (.cons (rule1_ok rchk_ok) .nil) (drawR_ok tau) fun x post hp => HoldW.of (rusD_w x.1 x.2.1 post) (h x.1 x.2.1 (fun y0 => post (y0, ())) hp)
theorem rusD_ok : SpecOK Try.prog rusD_sp := rusD_of fun x n post hp => by
  obtain ⟨hl, hp⟩ := hp
  unfold rusD_W
  refine ⟨trivial, fun h => ?_, fun h1 => ?_⟩
  · rw [if_neg (by grind)] at hp; exact hp
  rw [if_pos (by grind)] at hp
  intro _
  refine LOOP.list (x.Lots) (fun k (s : List Int) => ((k : Int), s, ())) (fun u => (u.1.toNat)) (fun k r (s : List Int) => sortS (lotV x.Lots) s (idxS n k r) = usableS x.Lots n ∧ s.length ≤ k ∧ ∀ d ∈ s, 0 ≤ d ∧ d < k) ([]) rfl (⟨rfl, by simp, fun d hd => by cases hd⟩) (fun k s h => by simp) ?_ ?_
  · intro rec k y r s hd hk hkl hG hrec
    have hx := ix_of hk
    have w1 : IntKind.i64.wrap ((k : Int) + 1) = k + 1 := wrap_in (by grind) (by grind)
    obtain ⟨q1, q2, q3⟩ := hG
    have hrec : ∀ s' : List Int, (sortS (lotV x.Lots) s' (idxS n ((k + 1 : Nat) : Int) r) = usableS x.Lots n ∧ s'.length ≤ k + 1 ∧ ∀ d ∈ s', 0 ≤ d ∧ d < ((k + 1 : Nat) : Int)) → rec ((k : Int) + 1) s' := hrec
    rw [idxS] at q1
    show IFB _ _ _
    simp only [w1, hx]
    refine ⟨fun _ => ?_, fun h => absurd (of_decide_eq_false h) (by omega)⟩
    refine JOIN.mk ⟨by omega, fun hu => ?_, fun hu => ?_⟩
    · have hu : y.User ≠ n := by simpa using hu
      exact hrec s ⟨by rw [if_neg hu] at q1; exact q1, by omega, fun d hd => by have := q3 d hd; omega⟩
    have hu : y.User = n := by simpa using hu
    rw [if_pos hu] at q1
    intro _
    have hfin : ∀ A B : List Int, A ++ B = s → (∀ z ∈ B, lotV x.Lots z < lotV x.Lots k) → (∀ A' p, A = A' ++ [p] → ¬ lotV x.Lots p < lotV x.Lots k) → rec ((k : Int) + 1) (A ++ (k : Int) :: B) := fun A B hAB hB hA => by
      refine hrec _ ⟨?_, ?_, ?_⟩
      · rw [← q1]
        show _ = sortS _ (insR (lotV x.Lots) k s.reverse).reverse _
        rw [← hAB, insR_parts hB hA]; rfl
      · have : A.length + B.length = s.length := by rw [← hAB]; simp
        simp; omega
      · intro d hd
        have : d = k ∨ d ∈ s := by
          rw [← hAB]
          simp at hd ⊢
          grind
        rcases this with rfl | h
        · omega
        · have := q3 d h; omega
    refine LOOP.fuel (fun u => ∃ A B : List Int, A ++ B = s ∧ u.1 = (A.length : Int) ∧ ∀ z ∈ B, lotV x.Lots z < lotV x.Lots k) (fun u => (u.1 : Int).toNat) ⟨s, [], by simp, rfl, fun z hz => by cases hz⟩ ?_
    rintro rec2 ⟨z7, ⟨⟩⟩ ⟨A, B, hAB, h1, hB⟩ hrec2
    have h1 : z7 = (A.length : Int) := h1
    subst h1
    have hAl : A.length + B.length = s.length := by rw [← hAB]; simp
    have wj : IntKind.i64.wrap ((A.length : Int) - 1) = A.length - 1 := wrap_in (by omega) (by omega)
    have hk80 : k < 80 := by omega
    have hsub1 : sub s 0 (A.length : Int) = A := by
      unfold sub; rw [← hAB]; simp
    have hsub2 : sub s (A.length : Int) (s.length : Int) = B := by
      unfold sub; rw [Int.toNat_natCast, Int.toNat_natCast, List.take_of_length_le (Nat.le_refl _), ← hAB]; simp
    show _ ∧ _ ∧ _
    simp only [wj, hsub1, hsub2]
    have hlA : (([] : List Int) ++ A).length = A.length := by simp
    have happ : ∀ j : Int, ([] ++ A ++ [j] ++ B : List Int) = A ++ j :: B := fun j => by simp
    rcases List.eq_nil_or_concat A with hA0 | ⟨A', p, hA0⟩
    · have hf := hfin A B hAB hB (fun A' p e => by rw [hA0] at e; have := congrArg List.length e; simp at this)
      have hz : (A.length : Int) = 0 := by rw [hA0]; rfl
      have hz2 : A.length = 0 := by rw [hA0]; rfl
      clear hrec hrec2 hfin q1
      repeat' (first | (refine JOIN.mk ?_) | (refine IFB.mk (fun hb => ?_) (fun hb => ?_)) | (with_reducible refine And.intro ?_ ?_) | intro hh)
      all_goals (try simp only [gx_t, hz, happ] at *)
      all_goals first | exact Int.NonNeg.mk _ | exact hf | omega | (simp at *; done) | (simp; omega) | grind
    · have hA1 : A = A' ++ [p] := by simpa using hA0
      have hAl' : A.length = A'.length + 1 := by rw [hA1]; simp
      have hj : (A.length : Int) - 1 = (A'.length : Int) := by omega
      have hixp : ix s ((A.length : Int) - 1) = p := by
        rw [hj, ← hAB, hA1, List.append_assoc]; exact ix_app rfl
      have hp2 := q3 p (by rw [← hAB, hA1]; simp)
      have hgo : lotV x.Lots p < lotV x.Lots k → rec2 ((A.length : Int) - 1) := fun hv => by
        have := hrec2 (((A.length : Int) - 1 : Int), ()) ⟨A', p :: B, by rw [← hAB, hA1]; simp, hj, fun z hz => by
          rcases List.mem_cons.1 hz with rfl | hz
          · exact hv
          · exact hB z hz⟩ (by show ((A.length : Int) - 1).toNat < (A.length : Int).toNat; omega)
        exact this
      have hst : ¬ lotV x.Lots p < lotV x.Lots k → rec ((k : Int) + 1) (A ++ (k : Int) :: B) := fun hv => hfin A B hAB hB (fun A2 p2 e => by
        rw [hA1] at e
        have := List.append_inj' e rfl
        have e2 : p = p2 := by simpa using this.2
        rw [← e2]; exact hv)
      simp only [hixp]
      unfold lotV at hgo hst
      simp only [hx] at hgo hst
      clear hrec hrec2 hfin q1 q3
      have hpos : (0 : Int) < A.length := by omega
      repeat' (first | (refine JOIN.mk ?_) | (refine IFB.mk (fun hb => ?_) (fun hb => ?_)) | (with_reducible refine And.intro ?_ ?_) | intro hh)
      all_goals (try simp only [gx_t, happ, decide_eq_true_eq, decide_eq_false_iff_not, Bool.and_eq_true, Bool.and_eq_false_iff, Bool.not_eq_true', Bool.not_eq_false'] at *)
      all_goals first | exact Int.NonNeg.mk _ | omega | (simp; omega) | grind
  · intro rec s hG
    obtain ⟨q1, q2, q3⟩ := hG
    have q1 : s = usableS x.Lots n := q1
    show IFB _ _ _
    refine ⟨fun h => absurd (of_decide_eq_true h) (by omega), fun _ => ?_⟩
    rw [← q1] at hp; exact hp
end RE
end Go.Proofs.Ytpnmiieohdkenaa
set_option maxRecDepth 100000
set_option linter.unusedVariables false
namespace Go.Proofs.Ytpnmiieohdkenaa
open Go.RowKit
namespace RE
open PL

def lLooks_C : CtxR := ⟨tau, [ruleN 12, rule1 kspoil_sp, rule1 kact_sp, rule1 kmod_sp, rule1 knext_sp, rule1 rapl_sp, rule1 erun_sp, rule1 rrun_sp, rule1 rsame_sp, rule1 eheld_sp, rule1 rheld_sp, rule1 ewhole_sp, rule1 rwhole_sp, rule1 eusD_sp, rule1 rusD_sp, rule1 evalue_sp, rule1 rvalue_sp, rule1 rints_sp, rule1 awake_sp], lookJ [(0, 45, ⟨[(109, .dat (.int .i64))], [], [110, 111, 112, 26, 113, 114, 115, 116, 117, 191, 165, 164, 166, 167, 34, 169, 170, 171, 172, 168, 173, 174, 35, 36, 176, 177, 178, 179, 175, 180, 181, 37, 38, 182, 183, 184, 185, 189, 186, 187, 188, 190, 163, 162, 161, 160, 159, 158, 134, 135, 136, 137, 141, 142, 148, 149, 138, 139, 140, 143, 144, 145, 146, 147, 150, 151, 152, 153, 154, 155, 156, 157, 32, 31, 133, 132, 128, 131, 130, 129, 30, 29, 127, 126, 122, 125, 124, 123, 28, 121, 120, 118, 119, 192], [], []⟩), (0, 51, ⟨[(118, .dat (.int .i64))], [], [119, 120, 121, 28, 123, 124, 125, 122, 126, 127, 29, 30, 129, 130, 131, 128, 132, 133, 31, 32, 157, 156, 155, 154, 153, 152, 151, 150, 147, 146, 145, 144, 143, 140, 139, 138, 149, 148, 142, 141, 137, 136, 135, 134, 158, 159, 160, 161, 162, 163, 190, 188, 187, 186, 189, 185, 184, 183, 182, 38, 37, 181, 180, 175, 179, 178, 177, 176, 36, 35, 174, 173, 168, 172, 171, 170, 169, 34, 167, 166, 164, 165, 191], [], []⟩), (0, 65, ⟨[(164, .dat (.int .i64))], [], [165, 166, 167, 34, 169, 170, 171, 172, 168, 173, 174, 35, 36, 176, 177, 178, 179, 175, 180, 181, 37, 38, 182, 183, 184, 185, 189, 186, 187, 188, 190], [], []⟩), (0, 1000029, ⟨[(158, .dat .bool)], [], [134, 135, 136, 137, 141, 142, 148, 149, 138, 139, 140, 143, 144, 145, 146, 147, 150, 151, 152, 153, 154, 155, 156, 157], [], []⟩), (0, 29, ⟨[(72, .dat (.int .i64))], [], [73, 74, 75, 18, 77, 78, 79, 76, 80, 81, 82, 19, 20, 21, 84, 85, 86, 83, 87, 88, 89, 22, 23, 24, 90, 91, 92, 93, 94, 98, 99, 103, 95, 96, 97, 100, 101, 102, 104], [], []⟩), (0, 17, ⟨[(15, .dat (.int .i64)), (13, .own 23 (.st .api_Act))], [(1, [.dat (.sl (.st .api_Lot)), .dat (.int .i64), .dat (.int .i64)])], [51, 52, 55, 56, 57, 16, 58, 59, 60, 61, 63, 64, 65, 62, 66, 67, 53, 54], [], []⟩)]⟩
def lLooks_W (raw : List (api_Act)) (farm : Int) (sq : Int) (by_ : Int) (l : List (Int)) (post : Bool → Prop) : Prop := (↑raw.length : Int) ≤ (9223372036854775807 : Int) → IFB (decide ((130 : Int) < (↑raw.length : Int))) (post true) (∀ (v1 : api_Entitlements), v1.1.length ≤ (10 : Nat) → Int.NonNeg (9223372036854775801 : Int) ∧ ∀ (v2 : Int), (0 : Int) ≤ v2 → v2 < (6 : Int) ∨ v2 = (0 : Int) → LOOP [Ty.int IntKind.i64, (Ty.st Sn.api_Act).sl, (Ty.st Sn.api_Lot).sl, Ty.int IntKind.i64, Ty.int IntKind.i64] (fun (rec3 : Int → List api_Act → List api_Lot → Int → Int → Prop) (z4 : Int) (z5 : List api_Act) (z6 : List api_Lot) (z7 z8 : Int) ↦ IFB (decide ((0 : Int) < z4)) (∀ (v9 : api_Act), (0 : Int) ≤ v9.8 → v9.8 ≤ (5 : Int) → (z5.length + [{ Kind := v9.1, Farm := v9.2, To := v9.3, Lot := v9.4, Squares := v9.5, Value := v9.6, Keep := v9.7, Year := v9.8 : api_Act }].length) * (64 : Nat) ≤ (140737488355328 : Nat) ∧ z6.length ≤ (1000 : Nat) ∧ rec3 (IntKind.i64.wrap (z4 - (1 : Int))) (z5 ++ [{ Kind := v9.1, Farm := v9.2, To := v9.3, Lot := v9.4, Squares := v9.5, Value := v9.6, Keep := v9.7, Year := v9.8 : api_Act }]) (applyS { Lots := z6, Reserve := z7, Next := z8 : api_Entitlements } { Kind := v9.1, Farm := v9.2, To := v9.3, Lot := v9.4, Squares := v9.5, Value := v9.6, Keep := v9.7, Year := v9.8 : api_Act }).1.1 (applyS { Lots := z6, Reserve := z7, Next := z8 : api_Entitlements } { Kind := v9.1, Farm := v9.2, To := v9.3, Lot := v9.4, Squares := v9.5, Value := v9.6, Keep := v9.7, Year := v9.8 : api_Act }).1.2 (applyS { Lots := z6, Reserve := z7, Next := z8 : api_Entitlements } { Kind := v9.1, Farm := v9.2, To := v9.3, Lot := v9.4, Squares := v9.5, Value := v9.6, Keep := v9.7, Year := v9.8 : api_Act }).1.3) ((↑[raw, z5].length : Int) ≤ (9223372036854775807 : Int) → LOOP [Ty.int IntKind.i64] (fun (rec10 : Int → Prop) (z11 : Int) ↦ IFB (decide (z11 < (↑[raw, z5].length : Int))) (((0 : Int) ≤ z11 ∧ z11 < (↑[raw, z5].length : Int)) ∧ (v1.1.length ≤ (100 : Nat) ∧ (ix [raw, z5] z11).length ≤ (1000 : Nat)) ∧ (v1.1.length ≤ (100 : Nat) ∧ (ix [raw, z5] z11).length ≤ (1000 : Nat)) ∧ ∀ (v12 : Bool), (v12 = true ↔ { Lots := (runF { Lots := v1.1, Reserve := v1.2, Next := v1.3 : api_Entitlements } (ix [raw, z5] z11)).1.1, Reserve := (runF { Lots := v1.1, Reserve := v1.2, Next := v1.3 : api_Entitlements } (ix [raw, z5] z11)).1.2, Next := (runF { Lots := v1.1, Reserve := v1.2, Next := v1.3 : api_Entitlements } (ix [raw, z5] z11)).1.3 : api_Entitlements } = { Lots := (runF { Lots := v1.1, Reserve := v1.2, Next := v1.3 : api_Entitlements } (ix [raw, z5] z11)).1.1, Reserve := (runF { Lots := v1.1, Reserve := v1.2, Next := v1.3 : api_Entitlements } (ix [raw, z5] z11)).1.2, Next := (runF { Lots := v1.1, Reserve := v1.2, Next := v1.3 : api_Entitlements } (ix [raw, z5] z11)).1.3 : api_Entitlements }) → IFB (!v12 || !decide ((runF { Lots := v1.1, Reserve := v1.2, Next := v1.3 : api_Entitlements } (ix [raw, z5] z11)).2.1 = (runF { Lots := v1.1, Reserve := v1.2, Next := v1.3 : api_Entitlements } (ix [raw, z5] z11)).2.1) || !decide ((runF { Lots := v1.1, Reserve := v1.2, Next := v1.3 : api_Entitlements } (ix [raw, z5] z11)).2.2 = (runF { Lots := v1.1, Reserve := v1.2, Next := v1.3 : api_Entitlements } (ix [raw, z5] z11)).2.2)) (post false) (rec10 (IntKind.i64.wrap (z11 + (1 : Int))))) ((↑[{ Lots := v1.1, Reserve := v1.2, Next := v1.3 : api_Entitlements }, { Lots := z6, Reserve := z7, Next := z8 : api_Entitlements }].length : Int) ≤ (9223372036854775807 : Int) → LOOP [Ty.int IntKind.i64] (fun (rec13 : Int → Prop) (z14 : Int) ↦ IFB (decide (z14 < (↑[{ Lots := v1.1, Reserve := v1.2, Next := v1.3 : api_Entitlements }, { Lots := z6, Reserve := z7, Next := z8 : api_Entitlements }].length : Int))) (((0 : Int) ≤ z14 ∧ z14 < (↑[{ Lots := v1.1, Reserve := v1.2, Next := v1.3 : api_Entitlements }, { Lots := z6, Reserve := z7, Next := z8 : api_Entitlements }].length : Int)) ∧ (5 : Int) ≤ (9223372036854775807 : Int) ∧ ((↑[farm, modS farm (5 : Int)].length : Int) ≤ (9223372036854775807 : Int) → LOOP [Ty.int IntKind.i64] (fun (rec15 : Int → Prop) (z16 : Int) ↦ IFB (decide (z16 < (↑[farm, modS farm (5 : Int)].length : Int))) (((0 : Int) ≤ z16 ∧ z16 < (↑[farm, modS farm (5 : Int)].length : Int)) ∧ True ∧ True ∧ JOIN [Ty.bool] (fun (y17 : Bool) ↦ IFB y17 (post false) ((90 : Int) ≤ (9223372036854775807 : Int) ∧ ((↑[sq, modS sq (90 : Int)].length : Int) ≤ (9223372036854775807 : Int) → LOOP [Ty.int IntKind.i64] (fun (rec18 : Int → Prop) (z19 : Int) ↦ IFB (decide (z19 < (↑[sq, modS sq (90 : Int)].length : Int))) (((0 : Int) ≤ z19 ∧ z19 < (↑[sq, modS sq (90 : Int)].length : Int)) ∧ (ix [{ Lots := v1.1, Reserve := v1.2, Next := v1.3 : api_Entitlements }, { Lots := z6, Reserve := z7, Next := z8 : api_Entitlements }] z14).1.length ≤ (200 : Nat) ∧ True ∧ IFB (!decide ((valueS { Lots := (ix [{ Lots := v1.1, Reserve := v1.2, Next := v1.3 : api_Entitlements }, { Lots := z6, Reserve := z7, Next := z8 : api_Entitlements }] z14).1, Reserve := (ix [{ Lots := v1.1, Reserve := v1.2, Next := v1.3 : api_Entitlements }, { Lots := z6, Reserve := z7, Next := z8 : api_Entitlements }] z14).2, Next := (ix [{ Lots := v1.1, Reserve := v1.2, Next := v1.3 : api_Entitlements }, { Lots := z6, Reserve := z7, Next := z8 : api_Entitlements }] z14).3 : api_Entitlements } (ix [farm, modS farm (5 : Int)] z16) (ix [sq, modS sq (90 : Int)] z19)).1 = (valueS { Lots := (ix [{ Lots := v1.1, Reserve := v1.2, Next := v1.3 : api_Entitlements }, { Lots := z6, Reserve := z7, Next := z8 : api_Entitlements }] z14).1, Reserve := (ix [{ Lots := v1.1, Reserve := v1.2, Next := v1.3 : api_Entitlements }, { Lots := z6, Reserve := z7, Next := z8 : api_Entitlements }] z14).2, Next := (ix [{ Lots := v1.1, Reserve := v1.2, Next := v1.3 : api_Entitlements }, { Lots := z6, Reserve := z7, Next := z8 : api_Entitlements }] z14).3 : api_Entitlements } (ix [farm, modS farm (5 : Int)] z16) (ix [sq, modS sq (90 : Int)] z19)).1) || !decide ((valueS { Lots := (ix [{ Lots := v1.1, Reserve := v1.2, Next := v1.3 : api_Entitlements }, { Lots := z6, Reserve := z7, Next := z8 : api_Entitlements }] z14).1, Reserve := (ix [{ Lots := v1.1, Reserve := v1.2, Next := v1.3 : api_Entitlements }, { Lots := z6, Reserve := z7, Next := z8 : api_Entitlements }] z14).2, Next := (ix [{ Lots := v1.1, Reserve := v1.2, Next := v1.3 : api_Entitlements }, { Lots := z6, Reserve := z7, Next := z8 : api_Entitlements }] z14).3 : api_Entitlements } (ix [farm, modS farm (5 : Int)] z16) (ix [sq, modS sq (90 : Int)] z19)).2 = (valueS { Lots := (ix [{ Lots := v1.1, Reserve := v1.2, Next := v1.3 : api_Entitlements }, { Lots := z6, Reserve := z7, Next := z8 : api_Entitlements }] z14).1, Reserve := (ix [{ Lots := v1.1, Reserve := v1.2, Next := v1.3 : api_Entitlements }, { Lots := z6, Reserve := z7, Next := z8 : api_Entitlements }] z14).2, Next := (ix [{ Lots := v1.1, Reserve := v1.2, Next := v1.3 : api_Entitlements }, { Lots := z6, Reserve := z7, Next := z8 : api_Entitlements }] z14).3 : api_Entitlements } (ix [farm, modS farm (5 : Int)] z16) (ix [sq, modS sq (90 : Int)] z19)).2)) (post false) (rec18 (IntKind.i64.wrap (z19 + (1 : Int))))) (rec15 (IntKind.i64.wrap (z16 + (1 : Int))))) ((0 : Int), PUnit.unit)))) fun (J20 : Bool → Prop) ↦ JOIN [Ty.int IntKind.i64] (fun (y21 : Int) ↦ JOIN [Ty.int IntKind.i64] (fun (y22 : Int) ↦ ((JOIN [(Ty.int IntKind.i64).sl] (fun (y23 : List Int) ↦ JOIN [(Ty.int IntKind.i64).sl] (fun (y24 : List Int) ↦ JOIN [Ty.bool] (fun (y25 : Bool) ↦ J20 (!decide ((heldS { Lots := (ix [{ Lots := v1.1, Reserve := v1.2, Next := v1.3 : api_Entitlements }, { Lots := z6, Reserve := z7, Next := z8 : api_Entitlements }] z14).1, Reserve := (ix [{ Lots := v1.1, Reserve := v1.2, Next := v1.3 : api_Entitlements }, { Lots := z6, Reserve := z7, Next := z8 : api_Entitlements }] z14).2, Next := (ix [{ Lots := v1.1, Reserve := v1.2, Next := v1.3 : api_Entitlements }, { Lots := z6, Reserve := z7, Next := z8 : api_Entitlements }] z14).3 : api_Entitlements } (ix [farm, modS farm (5 : Int)] z16)).1 = (heldS { Lots := (ix [{ Lots := v1.1, Reserve := v1.2, Next := v1.3 : api_Entitlements }, { Lots := z6, Reserve := z7, Next := z8 : api_Entitlements }] z14).1, Reserve := (ix [{ Lots := v1.1, Reserve := v1.2, Next := v1.3 : api_Entitlements }, { Lots := z6, Reserve := z7, Next := z8 : api_Entitlements }] z14).2, Next := (ix [{ Lots := v1.1, Reserve := v1.2, Next := v1.3 : api_Entitlements }, { Lots := z6, Reserve := z7, Next := z8 : api_Entitlements }] z14).3 : api_Entitlements } (ix [farm, modS farm (5 : Int)] z16)).1) || !decide ((heldS { Lots := (ix [{ Lots := v1.1, Reserve := v1.2, Next := v1.3 : api_Entitlements }, { Lots := z6, Reserve := z7, Next := z8 : api_Entitlements }] z14).1, Reserve := (ix [{ Lots := v1.1, Reserve := v1.2, Next := v1.3 : api_Entitlements }, { Lots := z6, Reserve := z7, Next := z8 : api_Entitlements }] z14).2, Next := (ix [{ Lots := v1.1, Reserve := v1.2, Next := v1.3 : api_Entitlements }, { Lots := z6, Reserve := z7, Next := z8 : api_Entitlements }] z14).3 : api_Entitlements } (ix [farm, modS farm (5 : Int)] z16)).2 = (heldS { Lots := (ix [{ Lots := v1.1, Reserve := v1.2, Next := v1.3 : api_Entitlements }, { Lots := z6, Reserve := z7, Next := z8 : api_Entitlements }] z14).1, Reserve := (ix [{ Lots := v1.1, Reserve := v1.2, Next := v1.3 : api_Entitlements }, { Lots := z6, Reserve := z7, Next := z8 : api_Entitlements }] z14).2, Next := (ix [{ Lots := v1.1, Reserve := v1.2, Next := v1.3 : api_Entitlements }, { Lots := z6, Reserve := z7, Next := z8 : api_Entitlements }] z14).3 : api_Entitlements } (ix [farm, modS farm (5 : Int)] z16)).2) || !decide (y21 = y22) || !y25)) fun (J26 : Bool → Prop) ↦ IFB (gx false (!decide ((heldS { Lots := (ix [{ Lots := v1.1, Reserve := v1.2, Next := v1.3 : api_Entitlements }, { Lots := z6, Reserve := z7, Next := z8 : api_Entitlements }] z14).1, Reserve := (ix [{ Lots := v1.1, Reserve := v1.2, Next := v1.3 : api_Entitlements }, { Lots := z6, Reserve := z7, Next := z8 : api_Entitlements }] z14).2, Next := (ix [{ Lots := v1.1, Reserve := v1.2, Next := v1.3 : api_Entitlements }, { Lots := z6, Reserve := z7, Next := z8 : api_Entitlements }] z14).3 : api_Entitlements } (ix [farm, modS farm (5 : Int)] z16)).1 = (heldS { Lots := (ix [{ Lots := v1.1, Reserve := v1.2, Next := v1.3 : api_Entitlements }, { Lots := z6, Reserve := z7, Next := z8 : api_Entitlements }] z14).1, Reserve := (ix [{ Lots := v1.1, Reserve := v1.2, Next := v1.3 : api_Entitlements }, { Lots := z6, Reserve := z7, Next := z8 : api_Entitlements }] z14).2, Next := (ix [{ Lots := v1.1, Reserve := v1.2, Next := v1.3 : api_Entitlements }, { Lots := z6, Reserve := z7, Next := z8 : api_Entitlements }] z14).3 : api_Entitlements } (ix [farm, modS farm (5 : Int)] z16)).1) || !decide ((heldS { Lots := (ix [{ Lots := v1.1, Reserve := v1.2, Next := v1.3 : api_Entitlements }, { Lots := z6, Reserve := z7, Next := z8 : api_Entitlements }] z14).1, Reserve := (ix [{ Lots := v1.1, Reserve := v1.2, Next := v1.3 : api_Entitlements }, { Lots := z6, Reserve := z7, Next := z8 : api_Entitlements }] z14).2, Next := (ix [{ Lots := v1.1, Reserve := v1.2, Next := v1.3 : api_Entitlements }, { Lots := z6, Reserve := z7, Next := z8 : api_Entitlements }] z14).3 : api_Entitlements } (ix [farm, modS farm (5 : Int)] z16)).2 = (heldS { Lots := (ix [{ Lots := v1.1, Reserve := v1.2, Next := v1.3 : api_Entitlements }, { Lots := z6, Reserve := z7, Next := z8 : api_Entitlements }] z14).1, Reserve := (ix [{ Lots := v1.1, Reserve := v1.2, Next := v1.3 : api_Entitlements }, { Lots := z6, Reserve := z7, Next := z8 : api_Entitlements }] z14).2, Next := (ix [{ Lots := v1.1, Reserve := v1.2, Next := v1.3 : api_Entitlements }, { Lots := z6, Reserve := z7, Next := z8 : api_Entitlements }] z14).3 : api_Entitlements } (ix [farm, modS farm (5 : Int)] z16)).2) || !decide (y21 = y22))) (∀ (v27 : Bool), (v27 = true ↔ y23 = y24) → J26 v27) (J26 false)) fun (J28 : List Int → Prop) ↦ IFB (gx false (!decide ((heldS { Lots := (ix [{ Lots := v1.1, Reserve := v1.2, Next := v1.3 : api_Entitlements }, { Lots := z6, Reserve := z7, Next := z8 : api_Entitlements }] z14).1, Reserve := (ix [{ Lots := v1.1, Reserve := v1.2, Next := v1.3 : api_Entitlements }, { Lots := z6, Reserve := z7, Next := z8 : api_Entitlements }] z14).2, Next := (ix [{ Lots := v1.1, Reserve := v1.2, Next := v1.3 : api_Entitlements }, { Lots := z6, Reserve := z7, Next := z8 : api_Entitlements }] z14).3 : api_Entitlements } (ix [farm, modS farm (5 : Int)] z16)).1 = (heldS { Lots := (ix [{ Lots := v1.1, Reserve := v1.2, Next := v1.3 : api_Entitlements }, { Lots := z6, Reserve := z7, Next := z8 : api_Entitlements }] z14).1, Reserve := (ix [{ Lots := v1.1, Reserve := v1.2, Next := v1.3 : api_Entitlements }, { Lots := z6, Reserve := z7, Next := z8 : api_Entitlements }] z14).2, Next := (ix [{ Lots := v1.1, Reserve := v1.2, Next := v1.3 : api_Entitlements }, { Lots := z6, Reserve := z7, Next := z8 : api_Entitlements }] z14).3 : api_Entitlements } (ix [farm, modS farm (5 : Int)] z16)).1) || !decide ((heldS { Lots := (ix [{ Lots := v1.1, Reserve := v1.2, Next := v1.3 : api_Entitlements }, { Lots := z6, Reserve := z7, Next := z8 : api_Entitlements }] z14).1, Reserve := (ix [{ Lots := v1.1, Reserve := v1.2, Next := v1.3 : api_Entitlements }, { Lots := z6, Reserve := z7, Next := z8 : api_Entitlements }] z14).2, Next := (ix [{ Lots := v1.1, Reserve := v1.2, Next := v1.3 : api_Entitlements }, { Lots := z6, Reserve := z7, Next := z8 : api_Entitlements }] z14).3 : api_Entitlements } (ix [farm, modS farm (5 : Int)] z16)).2 = (heldS { Lots := (ix [{ Lots := v1.1, Reserve := v1.2, Next := v1.3 : api_Entitlements }, { Lots := z6, Reserve := z7, Next := z8 : api_Entitlements }] z14).1, Reserve := (ix [{ Lots := v1.1, Reserve := v1.2, Next := v1.3 : api_Entitlements }, { Lots := z6, Reserve := z7, Next := z8 : api_Entitlements }] z14).2, Next := (ix [{ Lots := v1.1, Reserve := v1.2, Next := v1.3 : api_Entitlements }, { Lots := z6, Reserve := z7, Next := z8 : api_Entitlements }] z14).3 : api_Entitlements } (ix [farm, modS farm (5 : Int)] z16)).2) || !decide (y21 = y22))) ((ix [{ Lots := v1.1, Reserve := v1.2, Next := v1.3 : api_Entitlements }, { Lots := z6, Reserve := z7, Next := z8 : api_Entitlements }] z14).1.length ≤ (80 : Nat) ∧ J28 (if chkE { Lots := (ix [{ Lots := v1.1, Reserve := v1.2, Next := v1.3 : api_Entitlements }, { Lots := z6, Reserve := z7, Next := z8 : api_Entitlements }] z14).1, Reserve := (ix [{ Lots := v1.1, Reserve := v1.2, Next := v1.3 : api_Entitlements }, { Lots := z6, Reserve := z7, Next := z8 : api_Entitlements }] z14).2, Next := (ix [{ Lots := v1.1, Reserve := v1.2, Next := v1.3 : api_Entitlements }, { Lots := z6, Reserve := z7, Next := z8 : api_Entitlements }] z14).3 : api_Entitlements } = (0 : Int) then usableS (ix [{ Lots := v1.1, Reserve := v1.2, Next := v1.3 : api_Entitlements }, { Lots := z6, Reserve := z7, Next := z8 : api_Entitlements }] z14).1 (ix [farm, modS farm (5 : Int)] z16) else [])) (J28 [])) fun (J29 : List Int → Prop) ↦ IFB (gx false (!decide ((heldS { Lots := (ix [{ Lots := v1.1, Reserve := v1.2, Next := v1.3 : api_Entitlements }, { Lots := z6, Reserve := z7, Next := z8 : api_Entitlements }] z14).1, Reserve := (ix [{ Lots := v1.1, Reserve := v1.2, Next := v1.3 : api_Entitlements }, { Lots := z6, Reserve := z7, Next := z8 : api_Entitlements }] z14).2, Next := (ix [{ Lots := v1.1, Reserve := v1.2, Next := v1.3 : api_Entitlements }, { Lots := z6, Reserve := z7, Next := z8 : api_Entitlements }] z14).3 : api_Entitlements } (ix [farm, modS farm (5 : Int)] z16)).1 = (heldS { Lots := (ix [{ Lots := v1.1, Reserve := v1.2, Next := v1.3 : api_Entitlements }, { Lots := z6, Reserve := z7, Next := z8 : api_Entitlements }] z14).1, Reserve := (ix [{ Lots := v1.1, Reserve := v1.2, Next := v1.3 : api_Entitlements }, { Lots := z6, Reserve := z7, Next := z8 : api_Entitlements }] z14).2, Next := (ix [{ Lots := v1.1, Reserve := v1.2, Next := v1.3 : api_Entitlements }, { Lots := z6, Reserve := z7, Next := z8 : api_Entitlements }] z14).3 : api_Entitlements } (ix [farm, modS farm (5 : Int)] z16)).1) || !decide ((heldS { Lots := (ix [{ Lots := v1.1, Reserve := v1.2, Next := v1.3 : api_Entitlements }, { Lots := z6, Reserve := z7, Next := z8 : api_Entitlements }] z14).1, Reserve := (ix [{ Lots := v1.1, Reserve := v1.2, Next := v1.3 : api_Entitlements }, { Lots := z6, Reserve := z7, Next := z8 : api_Entitlements }] z14).2, Next := (ix [{ Lots := v1.1, Reserve := v1.2, Next := v1.3 : api_Entitlements }, { Lots := z6, Reserve := z7, Next := z8 : api_Entitlements }] z14).3 : api_Entitlements } (ix [farm, modS farm (5 : Int)] z16)).2 = (heldS { Lots := (ix [{ Lots := v1.1, Reserve := v1.2, Next := v1.3 : api_Entitlements }, { Lots := z6, Reserve := z7, Next := z8 : api_Entitlements }] z14).1, Reserve := (ix [{ Lots := v1.1, Reserve := v1.2, Next := v1.3 : api_Entitlements }, { Lots := z6, Reserve := z7, Next := z8 : api_Entitlements }] z14).2, Next := (ix [{ Lots := v1.1, Reserve := v1.2, Next := v1.3 : api_Entitlements }, { Lots := z6, Reserve := z7, Next := z8 : api_Entitlements }] z14).3 : api_Entitlements } (ix [farm, modS farm (5 : Int)] z16)).2) || !decide (y21 = y22))) ((ix [{ Lots := v1.1, Reserve := v1.2, Next := v1.3 : api_Entitlements }, { Lots := z6, Reserve := z7, Next := z8 : api_Entitlements }] z14).1.length ≤ (200 : Nat) ∧ J29 (if chkE { Lots := (ix [{ Lots := v1.1, Reserve := v1.2, Next := v1.3 : api_Entitlements }, { Lots := z6, Reserve := z7, Next := z8 : api_Entitlements }] z14).1, Reserve := (ix [{ Lots := v1.1, Reserve := v1.2, Next := v1.3 : api_Entitlements }, { Lots := z6, Reserve := z7, Next := z8 : api_Entitlements }] z14).2, Next := (ix [{ Lots := v1.1, Reserve := v1.2, Next := v1.3 : api_Entitlements }, { Lots := z6, Reserve := z7, Next := z8 : api_Entitlements }] z14).3 : api_Entitlements } = (0 : Int) then usableS (ix [{ Lots := v1.1, Reserve := v1.2, Next := v1.3 : api_Entitlements }, { Lots := z6, Reserve := z7, Next := z8 : api_Entitlements }] z14).1 (ix [farm, modS farm (5 : Int)] z16) else [])) (J29 [])) ∧ JOIN [(Ty.int IntKind.i64).sl] (fun (y30 : List Int) ↦ JOIN [(Ty.int IntKind.i64).sl] (fun (y31 : List Int) ↦ JOIN [Ty.bool] (fun (y32 : Bool) ↦ J20 (!decide ((heldS { Lots := (ix [{ Lots := v1.1, Reserve := v1.2, Next := v1.3 : api_Entitlements }, { Lots := z6, Reserve := z7, Next := z8 : api_Entitlements }] z14).1, Reserve := (ix [{ Lots := v1.1, Reserve := v1.2, Next := v1.3 : api_Entitlements }, { Lots := z6, Reserve := z7, Next := z8 : api_Entitlements }] z14).2, Next := (ix [{ Lots := v1.1, Reserve := v1.2, Next := v1.3 : api_Entitlements }, { Lots := z6, Reserve := z7, Next := z8 : api_Entitlements }] z14).3 : api_Entitlements } (ix [farm, modS farm (5 : Int)] z16)).1 = (heldS { Lots := (ix [{ Lots := v1.1, Reserve := v1.2, Next := v1.3 : api_Entitlements }, { Lots := z6, Reserve := z7, Next := z8 : api_Entitlements }] z14).1, Reserve := (ix [{ Lots := v1.1, Reserve := v1.2, Next := v1.3 : api_Entitlements }, { Lots := z6, Reserve := z7, Next := z8 : api_Entitlements }] z14).2, Next := (ix [{ Lots := v1.1, Reserve := v1.2, Next := v1.3 : api_Entitlements }, { Lots := z6, Reserve := z7, Next := z8 : api_Entitlements }] z14).3 : api_Entitlements } (ix [farm, modS farm (5 : Int)] z16)).1) || !decide ((heldS { Lots := (ix [{ Lots := v1.1, Reserve := v1.2, Next := v1.3 : api_Entitlements }, { Lots := z6, Reserve := z7, Next := z8 : api_Entitlements }] z14).1, Reserve := (ix [{ Lots := v1.1, Reserve := v1.2, Next := v1.3 : api_Entitlements }, { Lots := z6, Reserve := z7, Next := z8 : api_Entitlements }] z14).2, Next := (ix [{ Lots := v1.1, Reserve := v1.2, Next := v1.3 : api_Entitlements }, { Lots := z6, Reserve := z7, Next := z8 : api_Entitlements }] z14).3 : api_Entitlements } (ix [farm, modS farm (5 : Int)] z16)).2 = (heldS { Lots := (ix [{ Lots := v1.1, Reserve := v1.2, Next := v1.3 : api_Entitlements }, { Lots := z6, Reserve := z7, Next := z8 : api_Entitlements }] z14).1, Reserve := (ix [{ Lots := v1.1, Reserve := v1.2, Next := v1.3 : api_Entitlements }, { Lots := z6, Reserve := z7, Next := z8 : api_Entitlements }] z14).2, Next := (ix [{ Lots := v1.1, Reserve := v1.2, Next := v1.3 : api_Entitlements }, { Lots := z6, Reserve := z7, Next := z8 : api_Entitlements }] z14).3 : api_Entitlements } (ix [farm, modS farm (5 : Int)] z16)).2) || !decide (y21 = y22) || !y32)) fun (J33 : Bool → Prop) ↦ IFB (gx false (!decide ((heldS { Lots := (ix [{ Lots := v1.1, Reserve := v1.2, Next := v1.3 : api_Entitlements }, { Lots := z6, Reserve := z7, Next := z8 : api_Entitlements }] z14).1, Reserve := (ix [{ Lots := v1.1, Reserve := v1.2, Next := v1.3 : api_Entitlements }, { Lots := z6, Reserve := z7, Next := z8 : api_Entitlements }] z14).2, Next := (ix [{ Lots := v1.1, Reserve := v1.2, Next := v1.3 : api_Entitlements }, { Lots := z6, Reserve := z7, Next := z8 : api_Entitlements }] z14).3 : api_Entitlements } (ix [farm, modS farm (5 : Int)] z16)).1 = (heldS { Lots := (ix [{ Lots := v1.1, Reserve := v1.2, Next := v1.3 : api_Entitlements }, { Lots := z6, Reserve := z7, Next := z8 : api_Entitlements }] z14).1, Reserve := (ix [{ Lots := v1.1, Reserve := v1.2, Next := v1.3 : api_Entitlements }, { Lots := z6, Reserve := z7, Next := z8 : api_Entitlements }] z14).2, Next := (ix [{ Lots := v1.1, Reserve := v1.2, Next := v1.3 : api_Entitlements }, { Lots := z6, Reserve := z7, Next := z8 : api_Entitlements }] z14).3 : api_Entitlements } (ix [farm, modS farm (5 : Int)] z16)).1) || !decide ((heldS { Lots := (ix [{ Lots := v1.1, Reserve := v1.2, Next := v1.3 : api_Entitlements }, { Lots := z6, Reserve := z7, Next := z8 : api_Entitlements }] z14).1, Reserve := (ix [{ Lots := v1.1, Reserve := v1.2, Next := v1.3 : api_Entitlements }, { Lots := z6, Reserve := z7, Next := z8 : api_Entitlements }] z14).2, Next := (ix [{ Lots := v1.1, Reserve := v1.2, Next := v1.3 : api_Entitlements }, { Lots := z6, Reserve := z7, Next := z8 : api_Entitlements }] z14).3 : api_Entitlements } (ix [farm, modS farm (5 : Int)] z16)).2 = (heldS { Lots := (ix [{ Lots := v1.1, Reserve := v1.2, Next := v1.3 : api_Entitlements }, { Lots := z6, Reserve := z7, Next := z8 : api_Entitlements }] z14).1, Reserve := (ix [{ Lots := v1.1, Reserve := v1.2, Next := v1.3 : api_Entitlements }, { Lots := z6, Reserve := z7, Next := z8 : api_Entitlements }] z14).2, Next := (ix [{ Lots := v1.1, Reserve := v1.2, Next := v1.3 : api_Entitlements }, { Lots := z6, Reserve := z7, Next := z8 : api_Entitlements }] z14).3 : api_Entitlements } (ix [farm, modS farm (5 : Int)] z16)).2) || !decide (y21 = y22))) (∀ (v34 : Bool), (v34 = true ↔ y30 = y31) → J33 v34) (J33 false)) fun (J35 : List Int → Prop) ↦ IFB (gx false (!decide ((heldS { Lots := (ix [{ Lots := v1.1, Reserve := v1.2, Next := v1.3 : api_Entitlements }, { Lots := z6, Reserve := z7, Next := z8 : api_Entitlements }] z14).1, Reserve := (ix [{ Lots := v1.1, Reserve := v1.2, Next := v1.3 : api_Entitlements }, { Lots := z6, Reserve := z7, Next := z8 : api_Entitlements }] z14).2, Next := (ix [{ Lots := v1.1, Reserve := v1.2, Next := v1.3 : api_Entitlements }, { Lots := z6, Reserve := z7, Next := z8 : api_Entitlements }] z14).3 : api_Entitlements } (ix [farm, modS farm (5 : Int)] z16)).1 = (heldS { Lots := (ix [{ Lots := v1.1, Reserve := v1.2, Next := v1.3 : api_Entitlements }, { Lots := z6, Reserve := z7, Next := z8 : api_Entitlements }] z14).1, Reserve := (ix [{ Lots := v1.1, Reserve := v1.2, Next := v1.3 : api_Entitlements }, { Lots := z6, Reserve := z7, Next := z8 : api_Entitlements }] z14).2, Next := (ix [{ Lots := v1.1, Reserve := v1.2, Next := v1.3 : api_Entitlements }, { Lots := z6, Reserve := z7, Next := z8 : api_Entitlements }] z14).3 : api_Entitlements } (ix [farm, modS farm (5 : Int)] z16)).1) || !decide ((heldS { Lots := (ix [{ Lots := v1.1, Reserve := v1.2, Next := v1.3 : api_Entitlements }, { Lots := z6, Reserve := z7, Next := z8 : api_Entitlements }] z14).1, Reserve := (ix [{ Lots := v1.1, Reserve := v1.2, Next := v1.3 : api_Entitlements }, { Lots := z6, Reserve := z7, Next := z8 : api_Entitlements }] z14).2, Next := (ix [{ Lots := v1.1, Reserve := v1.2, Next := v1.3 : api_Entitlements }, { Lots := z6, Reserve := z7, Next := z8 : api_Entitlements }] z14).3 : api_Entitlements } (ix [farm, modS farm (5 : Int)] z16)).2 = (heldS { Lots := (ix [{ Lots := v1.1, Reserve := v1.2, Next := v1.3 : api_Entitlements }, { Lots := z6, Reserve := z7, Next := z8 : api_Entitlements }] z14).1, Reserve := (ix [{ Lots := v1.1, Reserve := v1.2, Next := v1.3 : api_Entitlements }, { Lots := z6, Reserve := z7, Next := z8 : api_Entitlements }] z14).2, Next := (ix [{ Lots := v1.1, Reserve := v1.2, Next := v1.3 : api_Entitlements }, { Lots := z6, Reserve := z7, Next := z8 : api_Entitlements }] z14).3 : api_Entitlements } (ix [farm, modS farm (5 : Int)] z16)).2) || !decide (y21 = y22))) ((ix [{ Lots := v1.1, Reserve := v1.2, Next := v1.3 : api_Entitlements }, { Lots := z6, Reserve := z7, Next := z8 : api_Entitlements }] z14).1.length ≤ (80 : Nat) ∧ J35 (if chkE { Lots := (ix [{ Lots := v1.1, Reserve := v1.2, Next := v1.3 : api_Entitlements }, { Lots := z6, Reserve := z7, Next := z8 : api_Entitlements }] z14).1, Reserve := (ix [{ Lots := v1.1, Reserve := v1.2, Next := v1.3 : api_Entitlements }, { Lots := z6, Reserve := z7, Next := z8 : api_Entitlements }] z14).2, Next := (ix [{ Lots := v1.1, Reserve := v1.2, Next := v1.3 : api_Entitlements }, { Lots := z6, Reserve := z7, Next := z8 : api_Entitlements }] z14).3 : api_Entitlements } = (0 : Int) then usableS (ix [{ Lots := v1.1, Reserve := v1.2, Next := v1.3 : api_Entitlements }, { Lots := z6, Reserve := z7, Next := z8 : api_Entitlements }] z14).1 (ix [farm, modS farm (5 : Int)] z16) else [])) (J35 [])) fun (J36 : List Int → Prop) ↦ IFB (gx false (!decide ((heldS { Lots := (ix [{ Lots := v1.1, Reserve := v1.2, Next := v1.3 : api_Entitlements }, { Lots := z6, Reserve := z7, Next := z8 : api_Entitlements }] z14).1, Reserve := (ix [{ Lots := v1.1, Reserve := v1.2, Next := v1.3 : api_Entitlements }, { Lots := z6, Reserve := z7, Next := z8 : api_Entitlements }] z14).2, Next := (ix [{ Lots := v1.1, Reserve := v1.2, Next := v1.3 : api_Entitlements }, { Lots := z6, Reserve := z7, Next := z8 : api_Entitlements }] z14).3 : api_Entitlements } (ix [farm, modS farm (5 : Int)] z16)).1 = (heldS { Lots := (ix [{ Lots := v1.1, Reserve := v1.2, Next := v1.3 : api_Entitlements }, { Lots := z6, Reserve := z7, Next := z8 : api_Entitlements }] z14).1, Reserve := (ix [{ Lots := v1.1, Reserve := v1.2, Next := v1.3 : api_Entitlements }, { Lots := z6, Reserve := z7, Next := z8 : api_Entitlements }] z14).2, Next := (ix [{ Lots := v1.1, Reserve := v1.2, Next := v1.3 : api_Entitlements }, { Lots := z6, Reserve := z7, Next := z8 : api_Entitlements }] z14).3 : api_Entitlements } (ix [farm, modS farm (5 : Int)] z16)).1) || !decide ((heldS { Lots := (ix [{ Lots := v1.1, Reserve := v1.2, Next := v1.3 : api_Entitlements }, { Lots := z6, Reserve := z7, Next := z8 : api_Entitlements }] z14).1, Reserve := (ix [{ Lots := v1.1, Reserve := v1.2, Next := v1.3 : api_Entitlements }, { Lots := z6, Reserve := z7, Next := z8 : api_Entitlements }] z14).2, Next := (ix [{ Lots := v1.1, Reserve := v1.2, Next := v1.3 : api_Entitlements }, { Lots := z6, Reserve := z7, Next := z8 : api_Entitlements }] z14).3 : api_Entitlements } (ix [farm, modS farm (5 : Int)] z16)).2 = (heldS { Lots := (ix [{ Lots := v1.1, Reserve := v1.2, Next := v1.3 : api_Entitlements }, { Lots := z6, Reserve := z7, Next := z8 : api_Entitlements }] z14).1, Reserve := (ix [{ Lots := v1.1, Reserve := v1.2, Next := v1.3 : api_Entitlements }, { Lots := z6, Reserve := z7, Next := z8 : api_Entitlements }] z14).2, Next := (ix [{ Lots := v1.1, Reserve := v1.2, Next := v1.3 : api_Entitlements }, { Lots := z6, Reserve := z7, Next := z8 : api_Entitlements }] z14).3 : api_Entitlements } (ix [farm, modS farm (5 : Int)] z16)).2) || !decide (y21 = y22))) ((ix [{ Lots := v1.1, Reserve := v1.2, Next := v1.3 : api_Entitlements }, { Lots := z6, Reserve := z7, Next := z8 : api_Entitlements }] z14).1.length ≤ (200 : Nat) ∧ J36 (if chkE { Lots := (ix [{ Lots := v1.1, Reserve := v1.2, Next := v1.3 : api_Entitlements }, { Lots := z6, Reserve := z7, Next := z8 : api_Entitlements }] z14).1, Reserve := (ix [{ Lots := v1.1, Reserve := v1.2, Next := v1.3 : api_Entitlements }, { Lots := z6, Reserve := z7, Next := z8 : api_Entitlements }] z14).2, Next := (ix [{ Lots := v1.1, Reserve := v1.2, Next := v1.3 : api_Entitlements }, { Lots := z6, Reserve := z7, Next := z8 : api_Entitlements }] z14).3 : api_Entitlements } = (0 : Int) then usableS (ix [{ Lots := v1.1, Reserve := v1.2, Next := v1.3 : api_Entitlements }, { Lots := z6, Reserve := z7, Next := z8 : api_Entitlements }] z14).1 (ix [farm, modS farm (5 : Int)] z16) else [])) (J36 [])) ∧ JOIN [(Ty.int IntKind.i64).sl] (fun (y37 : List Int) ↦ JOIN [(Ty.int IntKind.i64).sl] (fun (y38 : List Int) ↦ JOIN [Ty.bool] (fun (y39 : Bool) ↦ J20 (!decide ((heldS { Lots := (ix [{ Lots := v1.1, Reserve := v1.2, Next := v1.3 : api_Entitlements }, { Lots := z6, Reserve := z7, Next := z8 : api_Entitlements }] z14).1, Reserve := (ix [{ Lots := v1.1, Reserve := v1.2, Next := v1.3 : api_Entitlements }, { Lots := z6, Reserve := z7, Next := z8 : api_Entitlements }] z14).2, Next := (ix [{ Lots := v1.1, Reserve := v1.2, Next := v1.3 : api_Entitlements }, { Lots := z6, Reserve := z7, Next := z8 : api_Entitlements }] z14).3 : api_Entitlements } (ix [farm, modS farm (5 : Int)] z16)).1 = (heldS { Lots := (ix [{ Lots := v1.1, Reserve := v1.2, Next := v1.3 : api_Entitlements }, { Lots := z6, Reserve := z7, Next := z8 : api_Entitlements }] z14).1, Reserve := (ix [{ Lots := v1.1, Reserve := v1.2, Next := v1.3 : api_Entitlements }, { Lots := z6, Reserve := z7, Next := z8 : api_Entitlements }] z14).2, Next := (ix [{ Lots := v1.1, Reserve := v1.2, Next := v1.3 : api_Entitlements }, { Lots := z6, Reserve := z7, Next := z8 : api_Entitlements }] z14).3 : api_Entitlements } (ix [farm, modS farm (5 : Int)] z16)).1) || !decide ((heldS { Lots := (ix [{ Lots := v1.1, Reserve := v1.2, Next := v1.3 : api_Entitlements }, { Lots := z6, Reserve := z7, Next := z8 : api_Entitlements }] z14).1, Reserve := (ix [{ Lots := v1.1, Reserve := v1.2, Next := v1.3 : api_Entitlements }, { Lots := z6, Reserve := z7, Next := z8 : api_Entitlements }] z14).2, Next := (ix [{ Lots := v1.1, Reserve := v1.2, Next := v1.3 : api_Entitlements }, { Lots := z6, Reserve := z7, Next := z8 : api_Entitlements }] z14).3 : api_Entitlements } (ix [farm, modS farm (5 : Int)] z16)).2 = (heldS { Lots := (ix [{ Lots := v1.1, Reserve := v1.2, Next := v1.3 : api_Entitlements }, { Lots := z6, Reserve := z7, Next := z8 : api_Entitlements }] z14).1, Reserve := (ix [{ Lots := v1.1, Reserve := v1.2, Next := v1.3 : api_Entitlements }, { Lots := z6, Reserve := z7, Next := z8 : api_Entitlements }] z14).2, Next := (ix [{ Lots := v1.1, Reserve := v1.2, Next := v1.3 : api_Entitlements }, { Lots := z6, Reserve := z7, Next := z8 : api_Entitlements }] z14).3 : api_Entitlements } (ix [farm, modS farm (5 : Int)] z16)).2) || !decide (y21 = y22) || !y39)) fun (J40 : Bool → Prop) ↦ IFB (gx false (!decide ((heldS { Lots := (ix [{ Lots := v1.1, Reserve := v1.2, Next := v1.3 : api_Entitlements }, { Lots := z6, Reserve := z7, Next := z8 : api_Entitlements }] z14).1, Reserve := (ix [{ Lots := v1.1, Reserve := v1.2, Next := v1.3 : api_Entitlements }, { Lots := z6, Reserve := z7, Next := z8 : api_Entitlements }] z14).2, Next := (ix [{ Lots := v1.1, Reserve := v1.2, Next := v1.3 : api_Entitlements }, { Lots := z6, Reserve := z7, Next := z8 : api_Entitlements }] z14).3 : api_Entitlements } (ix [farm, modS farm (5 : Int)] z16)).1 = (heldS { Lots := (ix [{ Lots := v1.1, Reserve := v1.2, Next := v1.3 : api_Entitlements }, { Lots := z6, Reserve := z7, Next := z8 : api_Entitlements }] z14).1, Reserve := (ix [{ Lots := v1.1, Reserve := v1.2, Next := v1.3 : api_Entitlements }, { Lots := z6, Reserve := z7, Next := z8 : api_Entitlements }] z14).2, Next := (ix [{ Lots := v1.1, Reserve := v1.2, Next := v1.3 : api_Entitlements }, { Lots := z6, Reserve := z7, Next := z8 : api_Entitlements }] z14).3 : api_Entitlements } (ix [farm, modS farm (5 : Int)] z16)).1) || !decide ((heldS { Lots := (ix [{ Lots := v1.1, Reserve := v1.2, Next := v1.3 : api_Entitlements }, { Lots := z6, Reserve := z7, Next := z8 : api_Entitlements }] z14).1, Reserve := (ix [{ Lots := v1.1, Reserve := v1.2, Next := v1.3 : api_Entitlements }, { Lots := z6, Reserve := z7, Next := z8 : api_Entitlements }] z14).2, Next := (ix [{ Lots := v1.1, Reserve := v1.2, Next := v1.3 : api_Entitlements }, { Lots := z6, Reserve := z7, Next := z8 : api_Entitlements }] z14).3 : api_Entitlements } (ix [farm, modS farm (5 : Int)] z16)).2 = (heldS { Lots := (ix [{ Lots := v1.1, Reserve := v1.2, Next := v1.3 : api_Entitlements }, { Lots := z6, Reserve := z7, Next := z8 : api_Entitlements }] z14).1, Reserve := (ix [{ Lots := v1.1, Reserve := v1.2, Next := v1.3 : api_Entitlements }, { Lots := z6, Reserve := z7, Next := z8 : api_Entitlements }] z14).2, Next := (ix [{ Lots := v1.1, Reserve := v1.2, Next := v1.3 : api_Entitlements }, { Lots := z6, Reserve := z7, Next := z8 : api_Entitlements }] z14).3 : api_Entitlements } (ix [farm, modS farm (5 : Int)] z16)).2) || !decide (y21 = y22))) (∀ (v41 : Bool), (v41 = true ↔ y37 = y38) → J40 v41) (J40 false)) fun (J42 : List Int → Prop) ↦ IFB (gx false (!decide ((heldS { Lots := (ix [{ Lots := v1.1, Reserve := v1.2, Next := v1.3 : api_Entitlements }, { Lots := z6, Reserve := z7, Next := z8 : api_Entitlements }] z14).1, Reserve := (ix [{ Lots := v1.1, Reserve := v1.2, Next := v1.3 : api_Entitlements }, { Lots := z6, Reserve := z7, Next := z8 : api_Entitlements }] z14).2, Next := (ix [{ Lots := v1.1, Reserve := v1.2, Next := v1.3 : api_Entitlements }, { Lots := z6, Reserve := z7, Next := z8 : api_Entitlements }] z14).3 : api_Entitlements } (ix [farm, modS farm (5 : Int)] z16)).1 = (heldS { Lots := (ix [{ Lots := v1.1, Reserve := v1.2, Next := v1.3 : api_Entitlements }, { Lots := z6, Reserve := z7, Next := z8 : api_Entitlements }] z14).1, Reserve := (ix [{ Lots := v1.1, Reserve := v1.2, Next := v1.3 : api_Entitlements }, { Lots := z6, Reserve := z7, Next := z8 : api_Entitlements }] z14).2, Next := (ix [{ Lots := v1.1, Reserve := v1.2, Next := v1.3 : api_Entitlements }, { Lots := z6, Reserve := z7, Next := z8 : api_Entitlements }] z14).3 : api_Entitlements } (ix [farm, modS farm (5 : Int)] z16)).1) || !decide ((heldS { Lots := (ix [{ Lots := v1.1, Reserve := v1.2, Next := v1.3 : api_Entitlements }, { Lots := z6, Reserve := z7, Next := z8 : api_Entitlements }] z14).1, Reserve := (ix [{ Lots := v1.1, Reserve := v1.2, Next := v1.3 : api_Entitlements }, { Lots := z6, Reserve := z7, Next := z8 : api_Entitlements }] z14).2, Next := (ix [{ Lots := v1.1, Reserve := v1.2, Next := v1.3 : api_Entitlements }, { Lots := z6, Reserve := z7, Next := z8 : api_Entitlements }] z14).3 : api_Entitlements } (ix [farm, modS farm (5 : Int)] z16)).2 = (heldS { Lots := (ix [{ Lots := v1.1, Reserve := v1.2, Next := v1.3 : api_Entitlements }, { Lots := z6, Reserve := z7, Next := z8 : api_Entitlements }] z14).1, Reserve := (ix [{ Lots := v1.1, Reserve := v1.2, Next := v1.3 : api_Entitlements }, { Lots := z6, Reserve := z7, Next := z8 : api_Entitlements }] z14).2, Next := (ix [{ Lots := v1.1, Reserve := v1.2, Next := v1.3 : api_Entitlements }, { Lots := z6, Reserve := z7, Next := z8 : api_Entitlements }] z14).3 : api_Entitlements } (ix [farm, modS farm (5 : Int)] z16)).2) || !decide (y21 = y22))) ((ix [{ Lots := v1.1, Reserve := v1.2, Next := v1.3 : api_Entitlements }, { Lots := z6, Reserve := z7, Next := z8 : api_Entitlements }] z14).1.length ≤ (80 : Nat) ∧ J42 (if chkE { Lots := (ix [{ Lots := v1.1, Reserve := v1.2, Next := v1.3 : api_Entitlements }, { Lots := z6, Reserve := z7, Next := z8 : api_Entitlements }] z14).1, Reserve := (ix [{ Lots := v1.1, Reserve := v1.2, Next := v1.3 : api_Entitlements }, { Lots := z6, Reserve := z7, Next := z8 : api_Entitlements }] z14).2, Next := (ix [{ Lots := v1.1, Reserve := v1.2, Next := v1.3 : api_Entitlements }, { Lots := z6, Reserve := z7, Next := z8 : api_Entitlements }] z14).3 : api_Entitlements } = (0 : Int) then usableS (ix [{ Lots := v1.1, Reserve := v1.2, Next := v1.3 : api_Entitlements }, { Lots := z6, Reserve := z7, Next := z8 : api_Entitlements }] z14).1 (ix [farm, modS farm (5 : Int)] z16) else [])) (J42 [])) fun (J43 : List Int → Prop) ↦ IFB (gx false (!decide ((heldS { Lots := (ix [{ Lots := v1.1, Reserve := v1.2, Next := v1.3 : api_Entitlements }, { Lots := z6, Reserve := z7, Next := z8 : api_Entitlements }] z14).1, Reserve := (ix [{ Lots := v1.1, Reserve := v1.2, Next := v1.3 : api_Entitlements }, { Lots := z6, Reserve := z7, Next := z8 : api_Entitlements }] z14).2, Next := (ix [{ Lots := v1.1, Reserve := v1.2, Next := v1.3 : api_Entitlements }, { Lots := z6, Reserve := z7, Next := z8 : api_Entitlements }] z14).3 : api_Entitlements } (ix [farm, modS farm (5 : Int)] z16)).1 = (heldS { Lots := (ix [{ Lots := v1.1, Reserve := v1.2, Next := v1.3 : api_Entitlements }, { Lots := z6, Reserve := z7, Next := z8 : api_Entitlements }] z14).1, Reserve := (ix [{ Lots := v1.1, Reserve := v1.2, Next := v1.3 : api_Entitlements }, { Lots := z6, Reserve := z7, Next := z8 : api_Entitlements }] z14).2, Next := (ix [{ Lots := v1.1, Reserve := v1.2, Next := v1.3 : api_Entitlements }, { Lots := z6, Reserve := z7, Next := z8 : api_Entitlements }] z14).3 : api_Entitlements } (ix [farm, modS farm (5 : Int)] z16)).1) || !decide ((heldS { Lots := (ix [{ Lots := v1.1, Reserve := v1.2, Next := v1.3 : api_Entitlements }, { Lots := z6, Reserve := z7, Next := z8 : api_Entitlements }] z14).1, Reserve := (ix [{ Lots := v1.1, Reserve := v1.2, Next := v1.3 : api_Entitlements }, { Lots := z6, Reserve := z7, Next := z8 : api_Entitlements }] z14).2, Next := (ix [{ Lots := v1.1, Reserve := v1.2, Next := v1.3 : api_Entitlements }, { Lots := z6, Reserve := z7, Next := z8 : api_Entitlements }] z14).3 : api_Entitlements } (ix [farm, modS farm (5 : Int)] z16)).2 = (heldS { Lots := (ix [{ Lots := v1.1, Reserve := v1.2, Next := v1.3 : api_Entitlements }, { Lots := z6, Reserve := z7, Next := z8 : api_Entitlements }] z14).1, Reserve := (ix [{ Lots := v1.1, Reserve := v1.2, Next := v1.3 : api_Entitlements }, { Lots := z6, Reserve := z7, Next := z8 : api_Entitlements }] z14).2, Next := (ix [{ Lots := v1.1, Reserve := v1.2, Next := v1.3 : api_Entitlements }, { Lots := z6, Reserve := z7, Next := z8 : api_Entitlements }] z14).3 : api_Entitlements } (ix [farm, modS farm (5 : Int)] z16)).2) || !decide (y21 = y22))) ((ix [{ Lots := v1.1, Reserve := v1.2, Next := v1.3 : api_Entitlements }, { Lots := z6, Reserve := z7, Next := z8 : api_Entitlements }] z14).1.length ≤ (200 : Nat) ∧ J43 (if chkE { Lots := (ix [{ Lots := v1.1, Reserve := v1.2, Next := v1.3 : api_Entitlements }, { Lots := z6, Reserve := z7, Next := z8 : api_Entitlements }] z14).1, Reserve := (ix [{ Lots := v1.1, Reserve := v1.2, Next := v1.3 : api_Entitlements }, { Lots := z6, Reserve := z7, Next := z8 : api_Entitlements }] z14).2, Next := (ix [{ Lots := v1.1, Reserve := v1.2, Next := v1.3 : api_Entitlements }, { Lots := z6, Reserve := z7, Next := z8 : api_Entitlements }] z14).3 : api_Entitlements } = (0 : Int) then usableS (ix [{ Lots := v1.1, Reserve := v1.2, Next := v1.3 : api_Entitlements }, { Lots := z6, Reserve := z7, Next := z8 : api_Entitlements }] z14).1 (ix [farm, modS farm (5 : Int)] z16) else [])) (J43 [])) fun (J44 : Int → Prop) ↦ IFB (gx false (!decide ((heldS { Lots := (ix [{ Lots := v1.1, Reserve := v1.2, Next := v1.3 : api_Entitlements }, { Lots := z6, Reserve := z7, Next := z8 : api_Entitlements }] z14).1, Reserve := (ix [{ Lots := v1.1, Reserve := v1.2, Next := v1.3 : api_Entitlements }, { Lots := z6, Reserve := z7, Next := z8 : api_Entitlements }] z14).2, Next := (ix [{ Lots := v1.1, Reserve := v1.2, Next := v1.3 : api_Entitlements }, { Lots := z6, Reserve := z7, Next := z8 : api_Entitlements }] z14).3 : api_Entitlements } (ix [farm, modS farm (5 : Int)] z16)).1 = (heldS { Lots := (ix [{ Lots := v1.1, Reserve := v1.2, Next := v1.3 : api_Entitlements }, { Lots := z6, Reserve := z7, Next := z8 : api_Entitlements }] z14).1, Reserve := (ix [{ Lots := v1.1, Reserve := v1.2, Next := v1.3 : api_Entitlements }, { Lots := z6, Reserve := z7, Next := z8 : api_Entitlements }] z14).2, Next := (ix [{ Lots := v1.1, Reserve := v1.2, Next := v1.3 : api_Entitlements }, { Lots := z6, Reserve := z7, Next := z8 : api_Entitlements }] z14).3 : api_Entitlements } (ix [farm, modS farm (5 : Int)] z16)).1) || !decide ((heldS { Lots := (ix [{ Lots := v1.1, Reserve := v1.2, Next := v1.3 : api_Entitlements }, { Lots := z6, Reserve := z7, Next := z8 : api_Entitlements }] z14).1, Reserve := (ix [{ Lots := v1.1, Reserve := v1.2, Next := v1.3 : api_Entitlements }, { Lots := z6, Reserve := z7, Next := z8 : api_Entitlements }] z14).2, Next := (ix [{ Lots := v1.1, Reserve := v1.2, Next := v1.3 : api_Entitlements }, { Lots := z6, Reserve := z7, Next := z8 : api_Entitlements }] z14).3 : api_Entitlements } (ix [farm, modS farm (5 : Int)] z16)).2 = (heldS { Lots := (ix [{ Lots := v1.1, Reserve := v1.2, Next := v1.3 : api_Entitlements }, { Lots := z6, Reserve := z7, Next := z8 : api_Entitlements }] z14).1, Reserve := (ix [{ Lots := v1.1, Reserve := v1.2, Next := v1.3 : api_Entitlements }, { Lots := z6, Reserve := z7, Next := z8 : api_Entitlements }] z14).2, Next := (ix [{ Lots := v1.1, Reserve := v1.2, Next := v1.3 : api_Entitlements }, { Lots := z6, Reserve := z7, Next := z8 : api_Entitlements }] z14).3 : api_Entitlements } (ix [farm, modS farm (5 : Int)] z16)).2))) (True ∧ J44 (wholeS { Lots := (ix [{ Lots := v1.1, Reserve := v1.2, Next := v1.3 : api_Entitlements }, { Lots := z6, Reserve := z7, Next := z8 : api_Entitlements }] z14).1, Reserve := (ix [{ Lots := v1.1, Reserve := v1.2, Next := v1.3 : api_Entitlements }, { Lots := z6, Reserve := z7, Next := z8 : api_Entitlements }] z14).2, Next := (ix [{ Lots := v1.1, Reserve := v1.2, Next := v1.3 : api_Entitlements }, { Lots := z6, Reserve := z7, Next := z8 : api_Entitlements }] z14).3 : api_Entitlements })) (J44 (0 : Int))) fun (J45 : Int → Prop) ↦ IFB (gx false (!decide ((heldS { Lots := (ix [{ Lots := v1.1, Reserve := v1.2, Next := v1.3 : api_Entitlements }, { Lots := z6, Reserve := z7, Next := z8 : api_Entitlements }] z14).1, Reserve := (ix [{ Lots := v1.1, Reserve := v1.2, Next := v1.3 : api_Entitlements }, { Lots := z6, Reserve := z7, Next := z8 : api_Entitlements }] z14).2, Next := (ix [{ Lots := v1.1, Reserve := v1.2, Next := v1.3 : api_Entitlements }, { Lots := z6, Reserve := z7, Next := z8 : api_Entitlements }] z14).3 : api_Entitlements } (ix [farm, modS farm (5 : Int)] z16)).1 = (heldS { Lots := (ix [{ Lots := v1.1, Reserve := v1.2, Next := v1.3 : api_Entitlements }, { Lots := z6, Reserve := z7, Next := z8 : api_Entitlements }] z14).1, Reserve := (ix [{ Lots := v1.1, Reserve := v1.2, Next := v1.3 : api_Entitlements }, { Lots := z6, Reserve := z7, Next := z8 : api_Entitlements }] z14).2, Next := (ix [{ Lots := v1.1, Reserve := v1.2, Next := v1.3 : api_Entitlements }, { Lots := z6, Reserve := z7, Next := z8 : api_Entitlements }] z14).3 : api_Entitlements } (ix [farm, modS farm (5 : Int)] z16)).1) || !decide ((heldS { Lots := (ix [{ Lots := v1.1, Reserve := v1.2, Next := v1.3 : api_Entitlements }, { Lots := z6, Reserve := z7, Next := z8 : api_Entitlements }] z14).1, Reserve := (ix [{ Lots := v1.1, Reserve := v1.2, Next := v1.3 : api_Entitlements }, { Lots := z6, Reserve := z7, Next := z8 : api_Entitlements }] z14).2, Next := (ix [{ Lots := v1.1, Reserve := v1.2, Next := v1.3 : api_Entitlements }, { Lots := z6, Reserve := z7, Next := z8 : api_Entitlements }] z14).3 : api_Entitlements } (ix [farm, modS farm (5 : Int)] z16)).2 = (heldS { Lots := (ix [{ Lots := v1.1, Reserve := v1.2, Next := v1.3 : api_Entitlements }, { Lots := z6, Reserve := z7, Next := z8 : api_Entitlements }] z14).1, Reserve := (ix [{ Lots := v1.1, Reserve := v1.2, Next := v1.3 : api_Entitlements }, { Lots := z6, Reserve := z7, Next := z8 : api_Entitlements }] z14).2, Next := (ix [{ Lots := v1.1, Reserve := v1.2, Next := v1.3 : api_Entitlements }, { Lots := z6, Reserve := z7, Next := z8 : api_Entitlements }] z14).3 : api_Entitlements } (ix [farm, modS farm (5 : Int)] z16)).2))) (True ∧ J45 (wholeS { Lots := (ix [{ Lots := v1.1, Reserve := v1.2, Next := v1.3 : api_Entitlements }, { Lots := z6, Reserve := z7, Next := z8 : api_Entitlements }] z14).1, Reserve := (ix [{ Lots := v1.1, Reserve := v1.2, Next := v1.3 : api_Entitlements }, { Lots := z6, Reserve := z7, Next := z8 : api_Entitlements }] z14).2, Next := (ix [{ Lots := v1.1, Reserve := v1.2, Next := v1.3 : api_Entitlements }, { Lots := z6, Reserve := z7, Next := z8 : api_Entitlements }] z14).3 : api_Entitlements })) (J45 (0 : Int))) (rec13 (IntKind.i64.wrap (z14 + (1 : Int))))) ((0 : Int), PUnit.unit))) (post true)) ((0 : Int), PUnit.unit))) ((0 : Int), PUnit.unit))) (v2, [], v1.1, v1.2, v1.3, PUnit.unit))
theorem lLooks_w (raw : List (api_Act)) (farm : Int) (sq : Int) (by_ : Int) (l : List (Int)) (post : Bool → Prop) : lLooks_W raw farm sq by_ l post = lawG (callR Try.prog lLooks_C (drawF Try.prog tau) 12 0) 10 [tv (.sl (.st .api_Act)) raw, tv (.int .i64) farm, tv (.int .i64) sq, tv (.int .i64) by_, tv (.sl (.int .i64)) l] post := by kernel_rfl
theorem lLooks_calls (raw : List (api_Act)) (farm : Int) (sq : Int) (by_ : Int) (l : List (Int)) (h : lLooks_W raw farm sq by_ l fun b => b = true) {w : World} {S : Cells} {us : List Value} (h1 : ∀ b o, S b o → b < w.heap.size) (h3 : us.length = 5) (h4 : ∀ (i : Nat) (d : D) (u : Value), [tv (.sl (.st .api_Act)) raw, tv (.int .i64) farm, tv (.int .i64) sq, tv (.int .i64) by_, tv (.sl (.int .i64)) l][i]? = some d → us[i]? = some u → Rd S w d u) : Calls Try.prog 10 us.toArray w fun e w' => (∃ b, e = .returned (.bool b) ∧ b = true) ∧ Below w.heap.size w w' := lawG_okH (cp := callR Try.prog lLooks_C (drawF Try.prog tau) 12 0) (callR_ok (C := lLooks_C) (dr := drawF Try.prog tau) (.cons (ruleN_ok knew_ok) (.cons (rule1_ok kspoil_ok) (.cons (rule1_ok kact_ok) (.cons (rule1_ok kmod_ok) (.cons (rule1_ok knext_ok) (.cons (rule1_ok rapl_ok) (.cons (rule1_ok erun_ok) (.cons (rule1_ok rrun_ok) (.cons (rule1_ok rsame_ok) (.cons (rule1_ok eheld_ok) (.cons (rule1_ok rheld_ok) (.cons (rule1_ok ewhole_ok) (.cons (rule1_ok rwhole_ok) (.cons (rule1_ok eusD_ok) (.cons (rule1_ok rusD_ok) (.cons (rule1_ok evalue_ok) (.cons (rule1_ok rvalue_ok) (.cons (rule1_ok rints_ok) (.cons (rule1_ok awake_ok) .nil))))))))))))))))))) (drawF_ok tau) 12 0) (HoldW.of (lLooks_w raw farm sq by_ l fun b => b = true) h) h1 h3 h4
theorem app_len {x : api_Entitlements} {a : api_Act} (h : x.Lots.length ≤ 80) : (applyS x a).1.Lots.length ≤ 80 := by
  by_cases he : (applyS x a).2 = 0
  · exact (app_lots he).2
  · have : (applyS x a).1 = x := by
      unfold applyS at he ⊢
      grind
    rw [this]; exact h
def lkI (z : Int) (s : List api_Act) (b : List api_Lot) : Prop := 0 ≤ z ∧ z + s.length ≤ 5 ∧ b.length ≤ 80
set_option maxHeartbeats 4000000 in
theorem lLooks_h (raw : List api_Act) (farm sq by_ : Int) (l : List Int) (w1 : (Lit.int .i64 farm).wf = true) (w2 : (Lit.int .i64 sq).wf = true) (w3 : (Lit.int .i64 by_).wf = true) : lLooks_W raw farm sq by_ l fun b => b = true := by
  unfold lLooks_W
  refine fun _ => IFB.mk (fun _ => rfl) (fun h130 => fun v1 h1 => ⟨Int.NonNeg.mk _, fun v2 h2 h3 => ?_⟩)
  have h130 : ¬ (130 : Int) < raw.length := of_decide_eq_false h130
  have h1 : v1.1.length ≤ 10 := h1
  refine LOOP.fuel (fun u => lkI u.1 u.2.1 u.2.2.1) (fun u => Int.toNat u.1) ⟨h2, by show v2 + (([] : List api_Act).length : Int) ≤ 5; simp; omega, by show v1.1.length ≤ 80; omega⟩ ?_
  rintro rec ⟨(z4 : Int), (z5 : List api_Act), (z6 : List api_Lot), (z7 : Int), (z8 : Int), ⟨⟩⟩ ⟨i1, i2, i3⟩ hrec
  have j1 : 0 ≤ z4 := i1
  have j2 : z4 + (z5.length : Int) ≤ 5 := i2
  have j3 : z6.length ≤ 80 := i3
  clear i1 i2 i3
  refine IFB.mk (fun hb => ?_) (fun hb => ?_)
  · have hb : 0 < z4 := of_decide_eq_true hb
    dsimp only
    rw [wrap_in (z := z4 - 1) (by omega) (by omega)]
    refine fun v9 _ _ => ⟨by simp only [List.length_cons, List.length_nil]; omega, by omega, ?_⟩
    show rec (z4 - 1) (z5 ++ [v9]) (applyS ⟨z6, z7, z8⟩ v9).1.1 (applyS ⟨z6, z7, z8⟩ v9).1.2 (applyS ⟨z6, z7, z8⟩ v9).1.3
    refine hrec (z4 - 1, z5 ++ [v9], _, _, _, ()) ⟨by show 0 ≤ z4 - 1; omega, ?_, app_len (x := ⟨z6, z7, z8⟩) j3⟩ (by show (z4 - 1).toNat < z4.toNat; omega)
    show z4 - 1 + ((z5 ++ [v9]).length : Int) ≤ 5
    rw [List.length_append]; simp only [List.length_cons, List.length_nil]; omega
  · dsimp only
    refine fun _ => loopIx (n := 2) (by omega) (fun rec2 k hk hrec2 => ?_) (fun _ => loopIx (n := 2) (by omega) (fun rec2 k hk hrec2 => ?_) rfl)
    · have hlen : (ix [raw, z5] (k : Int)).length ≤ 1000 := by
        match k, hk with
        | 0, _ => show raw.length ≤ 1000; omega
        | 1, _ => show z5.length ≤ 1000; omega
      refine ⟨⟨by omega, by show (k : Int) < 2; omega⟩, ⟨by omega, hlen⟩, ⟨by omega, hlen⟩, fun v12 h12 => ?_⟩
      have h12 : v12 = true := h12.2 rfl
      rw [h12]
      exact IFB.noL (by simp) hrec2
    · have hlen : (ix [v1, (⟨z6, z7, z8⟩ : api_Entitlements)] (k : Int)).1.length ≤ 80 := by
        match k, hk with
        | 0, _ => show v1.1.length ≤ 80; omega
        | 1, _ => show z6.length ≤ 80; omega
      obtain ⟨x, hx⟩ : ∃ x, ix [v1, (⟨z6, z7, z8⟩ : api_Entitlements)] (k : Int) = x := ⟨_, rfl⟩
      rw [hx] at hlen ⊢
      refine ⟨⟨by omega, by show (k : Int) < 2; omega⟩, by decide, fun _ => loopIx (n := 2) (by omega) (fun rec3 j hj hrec3 => ?_) hrec2⟩
      obtain ⟨f, hf⟩ : ∃ f, ix [farm, modS farm 5] (j : Int) = f := ⟨_, rfl⟩
      rw [hf]
      refine ⟨⟨by omega, by show (j : Int) < 2; omega⟩, trivial, trivial, JOIN.opqL fun (J20 : Bool → Prop) hJ20 => ?_⟩
      have hJ : J20 false := by
        rw [hJ20]
        refine IFB.noL rfl ⟨by decide, fun _ => loopIx (n := 2) (by omega) (fun rec4 i hi hrec4 => ⟨⟨by omega, by show (i : Int) < 2; omega⟩, by omega, trivial, IFB.noL (by simp) hrec4⟩) hrec3⟩
      have fin : ∀ b : Bool, b = false → J20 b := fun b hb => by rw [hb]; exact hJ
      clear hJ20
      refine JOIN.opqL fun (J45 : Int → Prop) hJ45 => IFB.yesL (by simp [gx_f]) ⟨trivial, ?_⟩
      rw [hJ45]
      refine JOIN.opqL fun (J44 : Int → Prop) hJ44 => IFB.yesL (by simp [gx_f]) ⟨trivial, ?_⟩
      rw [hJ44]
      refine ⟨⟨?_, ?_⟩, ?_⟩ <;>
      · refine JOIN.opqL fun (A : List Int → Prop) hA => IFB.yesL (by simp [gx_f]) ⟨by omega, ?_⟩
        rw [hA]
        refine JOIN.opqL fun (B : List Int → Prop) hB => IFB.yesL (by simp [gx_f]) ⟨by omega, ?_⟩
        rw [hB]
        refine JOIN.opqL fun (C : Bool → Prop) hC => IFB.yesL (by simp [gx_f]) fun v hv => ?_
        have hv : v = true := hv.2 rfl
        rw [hC, hv]
        exact fin _ (by simp)

end RE
end Go.Proofs.Ytpnmiieohdkenaa
