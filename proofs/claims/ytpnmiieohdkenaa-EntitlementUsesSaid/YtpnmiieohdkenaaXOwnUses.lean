/-
  Chapter 21, in plain words: what single acts do.
-/
import Derived.Test.YtpnmiieohdkenaaXPlain
import Derived.Test.YtpnmiieohdkenaaXTape
set_option linter.unusedVariables false
set_option maxRecDepth 100000
namespace Go.Proofs.Ytpnmiieohdkenaa
open Go.RowKit
namespace RE
open PL
theorem wf_u8 {a : Int} (h : (Lit.int .u8 a).wf = true) : 0 ≤ a ∧ a ≤ 255 := by
  simp [Lit.wf, IntKind.min, IntKind.max, IntKind.bits, IntKind.signed] at h; omega
theorem wf_u16 {a : Int} (h : (Lit.int .u16 a).wf = true) : 0 ≤ a ∧ a ≤ 65535 := by
  simp [Lit.wf, IntKind.min, IntKind.max, IntKind.bits, IntKind.signed] at h; omega
theorem wf_u32 {a : Int} (h : (Lit.int .u32 a).wf = true) : 0 ≤ a ∧ a ≤ 4294967295 := by
  simp [Lit.wf, IntKind.min, IntKind.max, IntKind.bits, IntKind.signed] at h; omega
theorem wf_i64 {a : Int} (h : (Lit.int .i64 a).wf = true) : -9223372036854775808 ≤ a ∧ a ≤ 9223372036854775807 := by
  simp [Lit.wf, IntKind.min, IntKind.max, IntKind.bits, IntKind.signed] at h; omega
/-- A number drawn out of another one. -/
theorem pick_in {a n : Int} (h0 : 0 ≤ a) (h1 : a ≤ 4294967295) (hn : 1 ≤ n) (hn2 : n ≤ 4294967295) : 0 ≤ (IntKind.i64.wrap a).tmod n ∧ (IntKind.i64.wrap a).tmod n < n ∧ IntKind.i64.wrap (1 + (IntKind.i64.wrap a).tmod n) = 1 + (IntKind.i64.wrap a).tmod n := by
  rw [wrap_in (by omega) (by omega)]
  have h2 := Int.tmod_nonneg n h0
  have h3 := Int.tmod_lt_of_pos a (show 0 < n by omega)
  exact ⟨h2, h3, wrap_in (by omega) (by omega)⟩
theorem sqS_le {p : api_Lot → Bool} : ∀ {ls : List api_Lot}, (∀ l ∈ ls, LotOK l) → sqS p ls ≤ sumL ls
  | [], _ => Int.le_refl _
  | x :: r, h => by
    have h1 := sqS_le (p := p) (ls := r) (fun l hl => h l (by simp [hl]))
    have h2 := h x (by simp)
    unfold LotOK at h2
    unfold sqS sumL
    split <;> omega
theorem held_eq {x : api_Entitlements} (h : chkE x = 0) (n : Int) : heldS x n = (ownS n x.Lots, useS n x.Lots) := by
  unfold heldS; rw [if_pos h]
theorem held_in {x : api_Entitlements} (h : chkE x = 0) (n : Int) : 0 ≤ ownS n x.Lots ∧ 0 ≤ useS n x.Lots ∧ ownS n x.Lots ≤ 1099511627776 ∧ useS n x.Lots ≤ 1099511627776 := by
  obtain ⟨c1, c2, c3, c4, c5, c6, c7⟩ := chkE_iff.1 h
  have hl : ∀ l ∈ x.Lots, LotOK l := fun l hl => (c6.1 l hl).1
  rw [ownS_sq, useS_sq]
  have h1 := sqS_nonneg (p := fun l => decide (l.Owner = n)) hl
  have h2 := sqS_nonneg (p := fun l => decide (l.User = n)) hl
  have h3 := sqS_le (p := fun l => decide (l.Owner = n)) hl
  have h4 := sqS_le (p := fun l => decide (l.User = n)) hl
  exact ⟨h1, h2, by omega, by omega⟩
/-! ### finding a lot -/
theorem seek_at : ∀ {ls : List api_Lot} {k : Nat} {b : Int}, ls.Pairwise (fun a b => a.Number < b.Number) → k < ls.length → seekS (ix ls (k : Int)).Number b ls = b + k
  | [], k, b, _, h => by simp at h
  | x :: r, 0, b, _, _ => by
    have e : ix (x :: r) ((0 : Nat) : Int) = x := rfl
    unfold seekS
    rw [e, if_pos rfl]; simp
  | x :: r, k + 1, b, hp, h => by
    rw [List.pairwise_cons] at hp
    have hk : k < r.length := by simpa using h
    have hr : ix (x :: r) ((k + 1 : Nat) : Int) = ix r (k : Int) := by simp [ix, List.getD]
    have hm := hp.1 _ (get_mem (l := r) (i := (k : Int)) (by omega) (by omega))
    unfold seekS
    rw [hr, if_neg (by omega), seek_at hp.2 hk]
    push_cast; omega
theorem seek_none {n : Int} : ∀ {ls : List api_Lot} {b : Int}, (∀ l ∈ ls, l.Number ≠ n) → seekS n b ls = -1
  | [], _, _ => rfl
  | x :: r, b, h => by
    unfold seekS
    rw [if_neg (h x (by simp)), seek_none (fun l hl => h l (by simp [hl]))]
theorem seek_app {n : Int} : ∀ {ls : List api_Lot} {b : Int} {v : api_Lot}, (∀ l ∈ ls, l.Number ≠ n) → v.Number = n → seekS n b (ls ++ [v]) = b + ls.length
  | [], b, v, _, h => by show (if v.Number = n then b else _) = _; rw [if_pos h]; simp
  | x :: r, b, v, h, hv => by
    show (if x.Number = n then b else seekS n (b + 1) (r ++ [v])) = _
    rw [if_neg (h x (by simp)), seek_app (fun l hl => h l (by simp [hl])) hv]
    simp; omega
/-! ### acts on a register that is valid and not full -/
structure Fit (x : api_Entitlements) (i : Nat) (l : api_Lot) : Prop where
  c : chkE x = 0
  v : Vld x.Next x.Lots
  len : x.Lots.length < 60
  nx : x.Next < 1000
  nx1 : 1 ≤ x.Next
  re : 0 ≤ x.Reserve
  tot : sumL x.Lots + x.Reserve ≤ 1099511627776
  il : i < x.Lots.length
  el : ix x.Lots (i : Int) = l
  lo : LotOK l
theorem Fit.of {k : Int} {x : api_Entitlements} (h : EInv k x) (hk : k ≤ 50) {i : Nat} (hi : i < x.Lots.length) : Fit x i (ix x.Lots (i : Int)) := by
  obtain ⟨c1, c2, c3, c4, c5, c6, c7⟩ := chkE_iff.1 h.1
  have h1 := h.2.1
  have h2 := h.2.2.1
  exact ⟨h.1, c6, by omega, by omega, c2, c4, c7, hi, rfl, (c6.1 _ (get_mem (l := x.Lots) (i := (i : Int)) (by omega) (by omega))).1⟩
theorem apply_err {x : api_Entitlements} {a : api_Act} {e : Int} (hx : chkE x = 0) (h : (actS x.Lots x.Reserve x.Next a).2.2.2 = e) (he : e ≠ 0) : applyS x a = (x, e) := by
  unfold applyS
  rw [if_neg (by simp [hx]), if_pos (by rw [h]; exact he), h]
theorem apply_ok {x : api_Entitlements} {a : api_Act} {l : List api_Lot} {re nx : Int} (hx : chkE x = 0) (h : actS x.Lots x.Reserve x.Next a = (l, re, nx, 0)) : applyS x a = (⟨l, re, nx⟩, 0) := by
  unfold applyS
  rw [if_neg (by simp [hx]), h, if_neg (by simp)]
theorem addS_ok {ls : List api_Lot} {re nx : Int} {l : api_Lot} (h1 : ls.length < 80) (h2 : nx < 1073741824) : addS ls re nx l = (ls ++ [{ l with Number := nx }], re, nx + 1, 0) := by
  unfold addS
  rw [if_neg (by omega)]
theorem Fit.seek {x : api_Entitlements} {i : Nat} {l : api_Lot} (h : Fit x i l) : seekS l.Number 0 x.Lots = (i : Int) := by
  have := seek_at (b := 0) h.v.2 h.il
  rw [h.el] at this
  omega
/-- A sale or a lease. -/
theorem Fit.move {x : api_Entitlements} {i : Nat} {l : api_Lot} (h : Fit x i l) {k t n kp q : Int} (hk : k = 2 ∨ k = 3) (ht : 1 ≤ t ∧ t ≤ 60) (hn : 1 ≤ n ∧ n ≤ l.Squares) (hkp : 0 ≤ kp ∧ kp ≤ 1000000) (hl : l.Owner = l.User) (ho : t ≠ l.Owner) (hq : q = if k = 2 then n * kp / 1000000 else 0) :
    (n - q = 0 → applyS x ⟨k, 0, t, l.Number, n, 0, kp, 0⟩ = (⟨takeS x.Lots i n, x.Reserve + q, x.Next⟩, 0)) ∧
    (n - q ≠ 0 → applyS x ⟨k, 0, t, l.Number, n, 0, kp, 0⟩ = (⟨takeS x.Lots i n ++ [⟨x.Next, if k = 2 then t else l.Owner, t, n - q, l.Value, l.Used⟩], x.Reserve + q, x.Next + 1⟩, 0)) := by
  have hs := h.seek
  have hlo := h.lo
  unfold LotOK at hlo
  have hlen := h.len
  have hnx := h.nx
  have htl : (takeS x.Lots i n).length ≤ x.Lots.length := takeS_len
  have hm : moveS x.Lots x.Reserve x.Next ⟨k, 0, t, l.Number, n, 0, kp, 0⟩ = (
      if n - q = 0 then (takeS x.Lots i n, x.Reserve + q, x.Next, 0) else (takeS x.Lots i n ++ [⟨x.Next, if k = 2 then t else l.Owner, t, n - q, l.Value, l.Used⟩], x.Reserve + q, x.Next + 1, 0)) := by
    rw [hq]
    unfold moveS keptS
    dsimp only
    rw [hs, h.el, if_neg (by omega), if_neg (by unfold farmP; omega), if_neg (by omega), if_neg (by omega)]
    simp only [Int.toNat_natCast]
    rw [addS_ok (by omega) (by omega)]
  have ha : actS x.Lots x.Reserve x.Next ⟨k, 0, t, l.Number, n, 0, kp, 0⟩ = moveS x.Lots x.Reserve x.Next ⟨k, 0, t, l.Number, n, 0, kp, 0⟩ := by
    unfold actS
    dsimp only
    rw [if_neg (by omega), if_pos hk]
  refine ⟨fun hq => ?_, fun hq => ?_⟩
  · rw [if_pos hq] at hm
    exact apply_ok h.c (ha.trans hm)
  · rw [if_neg hq] at hm
    exact apply_ok h.c (ha.trans hm)
theorem Fit.move_err {x : api_Entitlements} {i : Nat} {l : api_Lot} (h : Fit x i l) {k t n kp : Int} (hk : k = 2 ∨ k = 3) (ht : 1 ≤ t ∧ t ≤ 60) (ho : l.Owner ≠ l.User ∨ t = l.Owner) :
    applyS x ⟨k, 0, t, l.Number, n, 0, kp, 0⟩ = (x, 22) := by
  have hs := h.seek
  refine apply_err h.c ?_ (by omega)
  unfold actS
  dsimp only
  rw [if_neg (by omega), if_pos hk]
  unfold moveS
  dsimp only
  rw [hs, h.el, if_neg (by omega), if_neg (by unfold farmP; omega), if_pos (by omega)]
/-- Squares given to the reserve. -/
theorem Fit.give {x : api_Entitlements} {i : Nat} {l : api_Lot} (h : Fit x i l) {n : Int} (hn : 1 ≤ n ∧ n ≤ l.Squares) (hl : l.Owner = l.User) :
    applyS x ⟨8, 0, 0, l.Number, n, 0, 0, 0⟩ = (⟨takeS x.Lots i n, x.Reserve + n, x.Next⟩, 0) := by
  have hs := h.seek
  refine apply_ok h.c ?_
  unfold actS
  dsimp only
  rw [hs, h.el, if_neg (by omega), if_neg (by omega), if_neg (by omega), if_neg (by omega), if_neg (by omega), if_neg (by omega), if_pos rfl, if_neg (by omega), if_neg (by omega), if_neg (by omega)]
  simp
theorem Fit.give_err {x : api_Entitlements} {i : Nat} {l : api_Lot} (h : Fit x i l) {n : Int} (hn : 1 ≤ n ∧ n ≤ l.Squares) (hl : l.Owner ≠ l.User) :
    applyS x ⟨8, 0, 0, l.Number, n, 0, 0, 0⟩ = (x, 22) := by
  have hs := h.seek
  refine apply_err h.c ?_ (by omega)
  unfold actS
  dsimp only
  rw [hs, h.el, if_neg (by omega), if_neg (by omega), if_neg (by omega), if_neg (by omega), if_neg (by omega), if_neg (by omega), if_pos rfl, if_neg (by omega), if_neg (by omega), if_pos (by omega)]
theorem give_none {x : api_Entitlements} (hx : chkE x = 0) {m n : Int} (hs : ∀ l ∈ x.Lots, l.Number ≠ m) : applyS x ⟨8, 0, 0, m, n, 0, 0, 0⟩ = (x, 19) := by
  refine apply_err hx ?_ (by omega)
  unfold actS
  dsimp only
  rw [seek_none hs, if_neg (by omega), if_neg (by omega), if_neg (by omega), if_neg (by omega), if_neg (by omega), if_neg (by omega), if_pos rfl, if_pos (by omega)]
/-- The end of a lease. -/
theorem Fit.back {x : api_Entitlements} {i : Nat} {l : api_Lot} (h : Fit x i l) (hl : l.Owner ≠ l.User) :
    applyS x ⟨4, 0, 0, l.Number, 0, 0, 0, 0⟩ = (⟨x.Lots.set i { l with User := l.Owner }, x.Reserve, x.Next⟩, 0) := by
  have hs := h.seek
  refine apply_ok h.c ?_
  unfold actS
  dsimp only
  rw [hs, h.el, if_neg (by omega), if_neg (by omega), if_pos rfl, if_neg (by omega), if_neg hl]
  simp
theorem inherit_ok {x : api_Entitlements} (hx : chkE x = 0) {f t : Int} (hf : 1 ≤ f ∧ f ≤ 60) (ht : 1 ≤ t ∧ t ≤ 60) (h : f ≠ t) : applyS x ⟨5, f, t, 0, 0, 0, 0, 0⟩ = (⟨x.Lots.map (heirS f t), x.Reserve, x.Next⟩, 0) := by
  refine apply_ok hx ?_
  unfold actS
  dsimp only
  rw [if_neg (by omega), if_neg (by omega), if_neg (by omega), if_pos rfl, if_neg (by unfold farmP; omega)]
theorem inherit_err {x : api_Entitlements} (hx : chkE x = 0) {f : Int} : applyS x ⟨5, f, f, 0, 0, 0, 0, 0⟩ = (x, 20) := by
  refine apply_err hx ?_ (by omega)
  unfold actS
  dsimp only
  rw [if_neg (by omega), if_neg (by omega), if_neg (by omega), if_pos rfl, if_pos (by simp)]
theorem own_heir {k f t : Int} (h : f ≠ t) : ∀ {ls : List api_Lot}, ownS k (ls.map (heirS f t)) = (if k = f then 0 else if k = t then ownS t ls + ownS f ls else ownS k ls)
  | [] => by simp [ownS]
  | x :: r => by
    have ih := own_heir (k := k) h (ls := r)
    simp only [List.map_cons, ownS, heirS, ih]
    grind
theorem use_heir {k f t : Int} (h : f ≠ t) : ∀ {ls : List api_Lot}, useS k (ls.map (heirS f t)) = (if k = f then 0 else if k = t then useS t ls + useS f ls else useS k ls)
  | [] => by simp [useS]
  | x :: r => by
    have ih := use_heir (k := k) h (ls := r)
    simp only [List.map_cons, useS, heirS, ih]
    grind
/-- A loop from 1 on. -/
theorem loopTo {N : Int} (hN : N ≤ 1000) (hN1 : 0 ≤ N) {B : (Int → Prop) → Int → Prop} {K : Prop} (hB : ∀ (rec : Int → Prop) (z : Int), 1 ≤ z → z ≤ N → rec (IntKind.i64.wrap (z + 1)) → B rec z) (hK : K) : LOOP [Ty.int IntKind.i64] (fun (rec : Int → Prop) (z : Int) => IFB (decide (z ≤ N)) (B rec z) K) ((1 : Int), PUnit.unit) := by
  refine LOOP.fuel (fun u => LE.le (α := Int) 1 u.1 ∧ LE.le (α := Int) u.1 (N + 1)) (fun u => 1001 - Int.toNat u.1) ⟨Int.le_refl _, by show (1 : Int) ≤ N + 1; omega⟩ ?_
  rintro rec ⟨(z : Int), ⟨⟩⟩ ⟨h1, h2⟩ hrec
  have h1 : 1 ≤ z := h1
  have h2 : z ≤ N + 1 := h2
  refine IFB.mk (fun hb => ?_) (fun _ => hK)
  have hb : z ≤ N := of_decide_eq_true hb
  refine hB rec z h1 hb ?_
  rw [wrap_in (by omega) (by omega)]
  exact hrec (z + 1, ()) ⟨by show 1 ≤ z + 1; omega, by show z + 1 ≤ N + 1; omega⟩ (by show 1001 - (z + 1).toNat < 1001 - z.toNat; omega)
/-- A loop over the numbers of a list. -/
theorem loopIx {n : Nat} (hn : n ≤ 1000000) {B : (Int → Prop) → Int → Prop} {K : Prop} (hB : ∀ (rec : Int → Prop) (k : Nat), k < n → rec (IntKind.i64.wrap ((k : Int) + 1)) → B rec (k : Int)) (hK : K) : LOOP [Ty.int IntKind.i64] (fun (rec : Int → Prop) (z : Int) => IFB (decide (z < (n : Int))) (B rec z) K) ((0 : Int), PUnit.unit) := by
  refine LOOP.fuel (fun u => LE.le (α := Int) 0 u.1 ∧ LE.le (α := Int) u.1 n) (fun u => n - Int.toNat u.1) ⟨Int.le_refl _, by show (0 : Int) ≤ n; omega⟩ ?_
  rintro rec ⟨(z : Int), ⟨⟩⟩ ⟨h1, h2⟩ hrec
  have h1 : 0 ≤ z := h1
  have h2 : z ≤ n := h2
  refine IFB.mk (fun hb => ?_) (fun _ => hK)
  have hb : z < n := of_decide_eq_true hb
  obtain ⟨k, rfl⟩ : ∃ k : Nat, z = (k : Int) := ⟨z.toNat, by omega⟩
  refine hB rec k (by omega) ?_
  rw [wrap_in (by omega) (by omega)]
  exact hrec ((k : Int) + 1, ()) ⟨by show (0 : Int) ≤ k + 1; omega, by show (k : Int) + 1 ≤ n; omega⟩ (by show n - ((k : Int) + 1).toNat < n - (k : Int).toNat; omega)
end RE
end Go.Proofs.Ytpnmiieohdkenaa
set_option linter.unusedVariables false
set_option maxRecDepth 100000
namespace Go.Proofs.Ytpnmiieohdkenaa
open Go.RowKit
namespace RE
open PL
/-! ### the usable lots, in order -/
theorem insR_perm {v : Int → Int} {i : Int} : ∀ {l : List Int}, (insR v i l).Perm (i :: l)
  | [] => List.Perm.refl _
  | y :: r => by
    unfold insR
    split
    · exact (List.Perm.cons y insR_perm).trans (List.Perm.swap i y r)
    · exact List.Perm.refl _
theorem sortS_perm {v : Int → Int} : ∀ {l out : List Int}, (sortS v out l).Perm (out ++ l)
  | [], out => by simp [sortS]
  | i :: r, out => by
    have h1 : (insR v i out.reverse).reverse.Perm (i :: out) := by
      refine (List.reverse_perm _).trans (insR_perm.trans ?_)
      exact List.Perm.cons i (List.reverse_perm _)
    have h2 := sortS_perm (v := v) (l := r) (out := (insR v i out.reverse).reverse)
    refine h2.trans ((h1.append_right r).trans ?_)
    show (i :: (out ++ r)).Perm (out ++ i :: r)
    exact List.perm_middle.symm
theorem insR_sorted {v : Int → Int} {i : Int} : ∀ {l : List Int}, l.Pairwise (fun a b => v a ≤ v b) → (insR v i l).Pairwise (fun a b => v a ≤ v b)
  | [], _ => List.pairwise_singleton _ _
  | y :: r, h => by
    rw [List.pairwise_cons] at h
    unfold insR
    split
    · rename_i hlt
      rw [List.pairwise_cons]
      refine ⟨fun a ha => ?_, insR_sorted h.2⟩
      rcases insR_mem ha with rfl | ha
      · omega
      · exact h.1 a ha
    · rename_i hge
      rw [List.pairwise_cons, List.pairwise_cons]
      refine ⟨fun a ha => ?_, h⟩
      rcases List.mem_cons.1 ha with rfl | ha
      · omega
      · have := h.1 a ha; omega
theorem sortS_sorted {v : Int → Int} : ∀ {l out : List Int}, out.Pairwise (fun a b => v b ≤ v a) → (sortS v out l).Pairwise (fun a b => v b ≤ v a)
  | [], out, h => h
  | i :: r, out, h => by
    refine sortS_sorted (l := r) ?_
    rw [List.pairwise_reverse]
    exact insR_sorted (List.pairwise_reverse.2 h)
theorem idxS_iff {n j : Int} : ∀ {l : List api_Lot} {k : Int}, j ∈ idxS n k l ↔ ∃ m : Nat, ∃ x, l[m]? = some x ∧ j = k + m ∧ x.User = n
  | [], k => by simp [idxS]
  | y :: r, k => by
    have ih := idxS_iff (n := n) (j := j) (l := r) (k := k + 1)
    have hr : j ∈ idxS n (k + 1) r ↔ ∃ m : Nat, ∃ x, (y :: r)[m + 1]? = some x ∧ j = k + (m + 1 : Nat) ∧ x.User = n := by
      rw [ih]
      constructor
      · rintro ⟨m, x, h1, h2, h3⟩
        exact ⟨m, x, by simpa using h1, by push_cast; omega, h3⟩
      · rintro ⟨m, x, h1, h2, h3⟩
        exact ⟨m, x, by simpa using h1, by push_cast at h2; omega, h3⟩
    unfold idxS
    split
    · rename_i hy
      rw [List.mem_cons, hr]
      constructor
      · rintro (h | ⟨m, x, h⟩)
        · exact ⟨0, y, rfl, by simp [h], hy⟩
        · exact ⟨m + 1, x, h⟩
      · rintro ⟨m, x, h1, h2, h3⟩
        cases m with
        | zero => left; simpa using h2
        | succ m => exact .inr ⟨m, x, h1, h2, h3⟩
    · rename_i hy
      rw [hr]
      constructor
      · rintro ⟨m, x, h⟩
        exact ⟨m + 1, x, h⟩
      · rintro ⟨m, x, h1, h2, h3⟩
        cases m with
        | zero => simp at h1; subst h1; exact absurd h3 hy
        | succ m => exact ⟨m, x, h1, h2, h3⟩
theorem idxS_nodup {n : Int} : ∀ {l : List api_Lot} {k : Int}, (idxS n k l).Nodup
  | [], k => List.nodup_nil
  | y :: r, k => by
    unfold idxS
    split
    · rw [List.nodup_cons]
      refine ⟨fun h => ?_, idxS_nodup⟩
      have := (idxS_mem h).1
      omega
    · exact idxS_nodup
theorem usable_iff {ls : List api_Lot} {n j : Int} : j ∈ usableS ls n ↔ 0 ≤ j ∧ j < ls.length ∧ (ix ls j).User = n := by
  have h1 : j ∈ usableS ls n ↔ j ∈ idxS n 0 ls := by
    unfold usableS
    have := sortS_perm (v := lotV ls) (l := idxS n 0 ls) (out := [])
    exact this.mem_iff
  rw [h1, idxS_iff]
  constructor
  · rintro ⟨m, x, h2, h3, h4⟩
    have h5 := (List.getElem?_eq_some_iff.1 h2).1
    have h3 : j = (m : Int) := by omega
    subst h3
    exact ⟨by omega, by omega, by rw [ix_of h2]; exact h4⟩
  · rintro ⟨h2, h3, h4⟩
    refine ⟨j.toNat, ix ls j, ix_get ⟨h2, h3⟩, by omega, h4⟩
theorem usable_nodup {ls : List api_Lot} {n : Int} : (usableS ls n).Nodup := by
  unfold usableS
  have := sortS_perm (v := lotV ls) (l := idxS n 0 ls) (out := [])
  exact this.nodup_iff.2 idxS_nodup
theorem usable_sorted {ls : List api_Lot} {n : Int} : (usableS ls n).Pairwise (fun a b => (ix ls b).Value ≤ (ix ls a).Value) :=
  sortS_sorted (v := lotV ls) List.Pairwise.nil
namespace PL
/-- The value of the lots of a kind. -/
def vlS (p : api_Lot → Bool) : List api_Lot → Int
  | [] => 0
  | l :: r => (if p l = true then l.Squares * l.Value else 0) + vlS p r
def m50 (l : api_Lot) : Bool := decide (l.Used = 50)
end PL
theorem vlS_app {p : api_Lot → Bool} : ∀ {l m : List api_Lot}, vlS p (l ++ m) = vlS p l + vlS p m
  | [], m => by simp [vlS]
  | x :: r, m => by
    show _ + vlS p (r ++ m) = _ + vlS p r + vlS p m
    rw [vlS_app]; omega
theorem vlS_set {p : api_Lot → Bool} : ∀ {ls : List api_Lot} {i : Nat} {v : api_Lot}, i < ls.length → vlS p (ls.set i v) = vlS p ls - (if p (ix ls i) = true then (ix ls i).Squares * (ix ls i).Value else 0) + (if p v = true then v.Squares * v.Value else 0)
  | [], i, v, h => by simp at h
  | x :: r, 0, v, h => by
    have e : ix (x :: r) ((0 : Nat) : Int) = x := rfl
    simp only [List.set_cons_zero, vlS, e]; omega
  | x :: r, i + 1, v, h => by
    have hr : ix (x :: r) ((i + 1 : Nat) : Int) = ix r (i : Int) := by simp [ix, List.getD]
    have := vlS_set (p := p) (ls := r) (i := i) (v := v) (by simpa using h)
    simp only [List.set_cons_succ, vlS, hr]; omega
theorem valL_acc {ls : List api_Lot} : ∀ {us : List Int} {left t : Int}, (valL ls us left t).2 = t + (valL ls us left 0).2
  | [], left, t => by simp [valL]
  | i :: r, left, t => by
    show (valL ls r _ (t + _)).2 = t + (valL ls r _ (0 + _)).2
    rw [valL_acc (t := t + _), valL_acc (t := 0 + _)]; omega
theorem valL_zero {ls : List api_Lot} : ∀ {us : List Int} {t : Int}, (∀ j ∈ us, 1 ≤ (ix ls j).Squares) → (valL ls us 0 t).2 = t
  | [], t, _ => rfl
  | i :: r, t, h => by
    have h1 := h i (by simp)
    show (valL ls r (0 - min 0 (ix ls i).Squares) (t + min 0 (ix ls i).Squares * _)).2 = t
    rw [Int.min_eq_left (by omega), Int.zero_mul, Int.add_zero, Int.sub_zero]
    exact valL_zero (fun j hj => h j (by simp [hj]))
theorem valL_congr {ls ls' : List api_Lot} : ∀ {us : List Int} {left t : Int}, (∀ j ∈ us, ix ls' j = ix ls j) → valL ls' us left t = valL ls us left t
  | [], left, t, _ => rfl
  | i :: r, left, t, h => by
    show valL ls' r _ _ = valL ls r _ _
    rw [h i (by simp), valL_congr (fun j hj => h j (by simp [hj]))]
theorem SI_congr {ls ls' : List api_Lot} : ∀ {us : List Int}, (∀ j ∈ us, ix ls' j = ix ls j) → SI ls' us = SI ls us
  | [], _ => rfl
  | i :: r, h => by
    show (ix ls' i).4 + SI ls' r = (ix ls i).4 + SI ls r
    rw [h i (by simp), SI_congr (fun j hj => h j (by simp [hj]))]
structure UInv (f : Int) (ls : List api_Lot) (us : List Int) : Prop where
  nd : us.Nodup
  rg : ∀ j ∈ us, 0 ≤ j ∧ j < ls.length ∧ (ix ls j).User = f ∧ (ix ls j).Used ≠ 50
  cov : ∀ m : Nat, m < ls.length → (ix ls (m : Int)).User = f → (ix ls (m : Int)).Used ≠ 50 → (m : Int) ∈ us
  srt : us.Pairwise (fun a b => (ix ls b).Value ≤ (ix ls a).Value)
  top : ∀ q ∈ ls, q.Used = 50 → q.User = f ∧ ∀ j ∈ us, (ix ls j).Value ≤ q.Value
def fullU (N : Int) (r : List api_Lot × Option api_Lot) : List api_Lot := match r with
  | (ls, none) => ls
  | (ls, some v) => ls ++ [{ v with Number := N }]
structure URes (f N S V : Int) (r : List api_Lot × Option api_Lot) : Prop where
  s : sqS m50 (fullU N r) = S
  v : vlS m50 (fullU N r) = V
  u : ∀ q ∈ fullU N r, q.Used = 50 → q.User = f
  t : ∀ q ∈ fullU N r, ∀ p ∈ fullU N r, q.User = f → q.Used ≠ 50 → p.Used = 50 → q.Value ≤ p.Value
theorem UInv.cov' {f : Int} {ls : List api_Lot} {us : List Int} (h : UInv f ls us) {q : api_Lot} (hq : q ∈ ls) (h2 : q.User = f) (h3 : q.Used ≠ 50) : ∃ j ∈ us, ix ls j = q := by
  obtain ⟨m, hm, rfl⟩ := List.getElem_of_mem hq
  have e : ix ls (m : Int) = ls[m] := ix_of (List.getElem?_eq_getElem hm)
  exact ⟨m, h.cov m hm (by rw [e]; exact h2) (by rw [e]; exact h3), e⟩
theorem useL_res {f N : Int} : ∀ {us : List Int} {ls : List api_Lot} {left : Int}, UInv f ls us → (∀ q ∈ ls, LotOK q) → 0 ≤ left → left ≤ SI ls us → URes f N (sqS m50 ls + left) (vlS m50 ls + (valL ls us left 0).2) (useL 50 ls left us)
  | [], ls, left, h, ho, h0, h1 => by
    have h1 : left ≤ 0 := h1
    have e : left = 0 := by omega
    subst e
    refine ⟨by show sqS m50 ls = _; omega, by show vlS m50 ls = vlS m50 ls + 0; omega, fun q hq hu => (h.top q hq hu).1, fun q hq p hp h2 h3 h4 => ?_⟩
    obtain ⟨j, hj, _⟩ := h.cov' hq h2 h3
    cases hj
  | i :: r, ls, left, h, ho, h0, h1 => by
    obtain ⟨i1, i2, i3, i4⟩ := h.rg i (by simp)
    obtain ⟨k, rfl⟩ : ∃ k : Nat, i = (k : Int) := ⟨i.toNat, by omega⟩
    have hk : k < ls.length := by omega
    have hsq : ∀ j ∈ ((k : Int) :: r), 1 ≤ (ix ls j).Squares := fun j hj => by
      obtain ⟨j1, j2, _⟩ := h.rg j hj
      have := ho _ (get_mem j1 j2)
      unfold LotOK at this; omega
    have h1 : left ≤ (ix ls (k : Int)).4 + SI ls r := h1
    have hkm := get_mem (l := ls) (i := (k : Int)) i1 i2
    have hko := ho _ hkm
    have hnd := List.nodup_cons.1 h.nd
    have hne : ∀ j ∈ r, (k : Int) ≠ j := fun j hj e => hnd.1 (e ▸ hj)
    have hsrt := List.pairwise_cons.1 h.srt
    have hnm : m50 (ix ls (k : Int)) = false := by unfold m50; simpa using i4
    have hV : ∀ left, valL ls ((k : Int) :: r) left 0 = valL ls r (left - min left (ix ls (k : Int)).4) (0 + min left (ix ls (k : Int)).4 * (ix ls (k : Int)).5) := fun _ => rfl
    unfold useL
    simp only [Int.toNat_natCast]
    split
    · rename_i e
      subst e
      refine ⟨by show sqS m50 ls = _; omega, by rw [valL_zero hsq]; show vlS m50 ls = vlS m50 ls + 0; omega, fun q hq hu => (h.top q hq hu).1, fun q hq p hp h2 h3 h4 => ?_⟩
      obtain ⟨j, hj, e⟩ := h.cov' hq h2 h3
      rw [← e]
      exact (h.top p hp h4).2 j hj
    · split
      · rename_i hl0 hle
        have hat : ∀ j : Int, 0 ≤ j → (k : Int) ≠ j → ix (ls.set k { ix ls (k : Int) with Used := 50 }) j = ix ls j := fun j hj hjk => by
          have := ix_set_ne (l := ls) (i := (k : Int)) (j := j) (v := { ix ls (k : Int) with Used := 50 }) i1 hj hjk
          simpa using this
        have hself : ix (ls.set k { ix ls (k : Int) with Used := 50 }) (k : Int) = { ix ls (k : Int) with Used := 50 } := by
          have := ix_set (l := ls) (i := (k : Int)) (v := { ix ls (k : Int) with Used := 50 }) i1 i2
          simpa using this
        have hs1 : sqS m50 (ls.set k { ix ls (k : Int) with Used := 50 }) = sqS m50 ls + (ix ls (k : Int)).Squares := by
          rw [sqS_set hk, hnm]
          simp [m50]
        have hv1 : vlS m50 (ls.set k { ix ls (k : Int) with Used := 50 }) = vlS m50 ls + (ix ls (k : Int)).Squares * (ix ls (k : Int)).Value := by
          rw [vlS_set hk, hnm]
          simp [m50]
        have hlen : (ls.set k { ix ls (k : Int) with Used := 50 }).length = ls.length := by simp
        have ho1 : ∀ q ∈ ls.set k { ix ls (k : Int) with Used := 50 }, LotOK q := fun q hq => by
          rcases List.mem_or_eq_of_mem_set hq with hq | rfl
          · exact ho q hq
          · unfold LotOK at hko ⊢; dsimp only; omega
        have htop : ∀ q ∈ ls.set k { ix ls (k : Int) with Used := 50 }, q.Used = 50 → q.User = f ∧ ∀ j ∈ r, (ix ls j).Value ≤ q.Value := fun q hq h2 => by
          rcases List.mem_or_eq_of_mem_set hq with hq | rfl
          · obtain ⟨t1, t2⟩ := h.top q hq h2
            exact ⟨t1, fun j hj => t2 j (by simp [hj])⟩
          · exact ⟨i3, fun j hj => hsrt.1 j hj⟩
        generalize ls.set k { ix ls (k : Int) with Used := 50 } = ls1 at hat hself hs1 hv1 hlen ho1 htop ⊢
        have hatr : ∀ j ∈ r, ix ls1 j = ix ls j := fun j hj => hat j (h.rg j (by simp [hj])).1 (hne j hj)
        have hU : UInv f ls1 r := by
          refine ⟨hnd.2, fun j hj => ?_, fun m hm h2 h3 => ?_, ?_, fun q hq h2 => ?_⟩
          · rw [hatr j hj, hlen]; exact h.rg j (by simp [hj])
          · by_cases hmk : m = k
            · subst hmk
              rw [hself] at h3
              exact absurd rfl h3
            · rw [hat m (by omega) (by omega)] at h2 h3
              rcases List.mem_cons.1 (h.cov m (by omega) h2 h3) with e | e
              · exact absurd e (by omega)
              · exact e
          · refine hsrt.2.imp_of_mem fun {a b} ha hb hab => ?_
            rw [hatr a ha, hatr b hb]; exact hab
          · obtain ⟨t1, t2⟩ := htop q hq h2
            exact ⟨t1, fun j hj => by rw [hatr j hj]; exact t2 j hj⟩
        have ih := useL_res (f := f) (N := N) (left := left - (ix ls (k : Int)).Squares) hU ho1 (by omega) (by rw [SI_congr hatr]; omega)
        rw [hs1, hv1, valL_congr hatr] at ih
        rw [hV, Int.min_eq_right hle, valL_acc]
        have e1 : sqS m50 ls + (ix ls (k : Int)).Squares + (left - (ix ls (k : Int)).Squares) = sqS m50 ls + left := by omega
        rw [e1] at ih
        rw [show vlS m50 ls + (0 + (ix ls (k : Int)).4 * (ix ls (k : Int)).5 + (valL ls r (left - (ix ls (k : Int)).4) 0).2) = vlS m50 ls + (ix ls (k : Int)).Squares * (ix ls (k : Int)).Value + (valL ls r (left - (ix ls (k : Int)).Squares) 0).2 by omega]
        exact ih
      · rename_i hl0 hlt
        have hV2 : (valL ls ((k : Int) :: r) left 0).2 = left * (ix ls (k : Int)).5 := by
          rw [hV, Int.min_eq_left (by omega), Int.sub_self, valL_acc, valL_zero (fun j hj => hsq j (by simp [hj]))]; omega
        rw [hV2]
        have hmem : ∀ q ∈ ls.set k { ix ls (k : Int) with Squares := (ix ls (k : Int)).Squares - left } ++ [{ ({ ix ls (k : Int) with Squares := left, Used := 50 } : api_Lot) with Number := N }], q ∈ ls ∨ (q.Used ≠ 50 ∧ q.Value = (ix ls (k : Int)).Value) ∨ (q.Used = 50 ∧ q.User = f ∧ q.Value = (ix ls (k : Int)).Value) := fun q hq => by
          rcases List.mem_append.1 hq with hq | hq
          · rcases List.mem_or_eq_of_mem_set hq with hq | rfl
            · exact .inl hq
            · exact .inr (.inl ⟨i4, rfl⟩)
          · rw [List.mem_singleton.1 hq]
            exact .inr (.inr ⟨rfl, i3, rfl⟩)
        refine ⟨?_, ?_, fun q hq hu => ?_, fun q hq p hp h2 h3 h4 => ?_⟩
        · show sqS m50 (_ ++ _) = _
          rw [sqS_app, sqS_set hk]
          have e2 : m50 { ix ls (k : Int) with Squares := (ix ls (k : Int)).Squares - left } = false := hnm
          rw [hnm, e2]
          simp [sqS, m50]
        · show vlS m50 (_ ++ _) = _
          rw [vlS_app, vlS_set hk]
          have e2 : m50 { ix ls (k : Int) with Squares := (ix ls (k : Int)).Squares - left } = false := hnm
          rw [hnm, e2]
          simp [vlS, m50]
        · rcases hmem q hq with hq | ⟨h5, _⟩ | ⟨_, h5, _⟩
          · exact (h.top q hq hu).1
          · exact absurd hu h5
          · exact h5
        · have hqv : ∃ j ∈ ((k : Int) :: r), q.Value = (ix ls j).Value := by
            rcases hmem q hq with hq | ⟨h5, h6⟩ | ⟨h5, _⟩
            · obtain ⟨j, hj, e⟩ := h.cov' hq h2 h3
              exact ⟨j, hj, by rw [e]⟩
            · exact ⟨k, by simp, h6⟩
            · exact absurd h5 h3
          obtain ⟨j, hj, ej⟩ := hqv
          rw [ej]
          rcases hmem p hp with hp | ⟨h5, _⟩ | ⟨_, _, h6⟩
          · exact (h.top p hp h4).2 j hj
          · exact absurd h4 h5
          · rw [h6]
            rcases List.mem_cons.1 hj with rfl | hj
            · exact Int.le_refl _
            · exact hsrt.1 j hj
/-- What is left behind a use and a lapse. -/
structure Used (f n : Int) (x y z : api_Entitlements) : Prop where
  ay : applyS x ⟨6, f, 0, 0, n, 0, 0, 50⟩ = (y, 0)
  az : applyS y ⟨7, 0, 0, 0, 0, 0, 0, 51⟩ = (z, 0)
  yl : y.1.length ≤ 20
  yo : ∀ q ∈ y.1, LotOK q
  ys : sqS m50 y.1 = n
  yv : vlS m50 y.1 / 100 = (valueS x f n).1
  ve : (valueS x f n).2 = 0
  yt : ∀ q ∈ y.1, ∀ p ∈ y.1, q.User = f → q.Used ≠ 50 → p.Used = 50 → q.Value ≤ p.Value
  zl : z.1.length ≤ 20
  zo : ∀ q ∈ z.1, LotOK q ∧ q.Used = 50 ∧ q.User = f
  zs : sumL z.1 = n
theorem lapse_m50 : ∀ {ls : List api_Lot}, (∀ q ∈ ls, q.Used = 50 ∨ q.Used ≤ 5) → sumL (lapseS 51 ls) = sqS m50 ls ∧ ∀ q ∈ lapseS 51 ls, q ∈ ls ∧ q.Used = 50
  | [], _ => ⟨rfl, fun q hq => by cases hq⟩
  | x :: r, h => by
    obtain ⟨h1, h2⟩ := lapse_m50 (ls := r) (fun q hq => h q (by simp [hq]))
    have hx := h x (by simp)
    unfold lapseS
    split
    · rename_i hle
      refine ⟨?_, fun q hq => ⟨by simp [(h2 q hq).1], (h2 q hq).2⟩⟩
      show _ = (if m50 x = true then _ else _) + sqS m50 r
      rw [h1, if_neg (by unfold m50; simp; omega)]; omega
    · rename_i hgt
      have hx50 : x.Used = 50 := by omega
      refine ⟨?_, fun q hq => ?_⟩
      · show x.Squares + sumL (lapseS 51 r) = (if m50 x = true then _ else _) + sqS m50 r
        rw [h1, if_pos (by unfold m50; simpa using hx50)]
      · rcases List.mem_cons.1 hq with rfl | hq
        · exact ⟨by simp, hx50⟩
        · exact ⟨by simp [(h2 q hq).1], (h2 q hq).2⟩
theorem used_of {k f n : Int} {x : api_Entitlements} (h : EInv k x) (hk : k ≤ 15) (hf : 1 ≤ f ∧ f ≤ 60) (hn : 1 ≤ n ∧ n ≤ 268435456) (hu : n ≤ useS f x.Lots) : ∃ y z, Used f n x y z := by
  obtain ⟨c1, c2, c3, c4, c5, c6, c7⟩ := chkE_iff.1 h.1
  have hnx := h.2.1
  have hlen := h.2.2.1
  have hus := h.2.2.2
  have hU : UInv f x.Lots (usableS x.Lots f) := by
    refine ⟨usable_nodup, fun j hj => ?_, fun m hm h2 h3 => usable_iff.2 ⟨by omega, by omega, h2⟩, usable_sorted, fun q hq h2 => ?_⟩
    · obtain ⟨j1, j2, j3⟩ := usable_iff.1 hj
      have := hus _ (get_mem j1 j2)
      exact ⟨j1, j2, j3, by omega⟩
    · have := hus q hq; omega
  have hm0 : sqS m50 x.Lots = 0 ∧ vlS m50 x.Lots = 0 := by
    have : ∀ {ls : List api_Lot}, (∀ l ∈ ls, l.Used ≤ 5) → sqS m50 ls = 0 ∧ vlS m50 ls = 0 := by
      intro ls
      induction ls with
      | nil => intro _; exact ⟨rfl, rfl⟩
      | cons y r ih =>
        intro hh
        obtain ⟨e1, e2⟩ := ih (fun l hl => hh l (by simp [hl]))
        have hy := hh y (by simp)
        have hm : m50 y = false := by unfold m50; simp; omega
        simp [sqS, vlS, hm, e1, e2]
    exact this hus
  have hR := useL_res (N := x.Next) hU (fun q hq => (c6.1 q hq).1) (by omega : (0 : Int) ≤ n) (by rw [SI_us]; exact hu)
  rw [hm0.1, hm0.2, Int.zero_add, Int.zero_add] at hR
  have hkept := useL_kept (yr := 50) (nx := x.Next) (by omega) (us := usableS x.Lots f) (ls := x.Lots) (left := n) c6 (fun j hj => usableS_mem hj) (by omega) (by omega)
  have hact : ∃ re nx, actS x.Lots x.Reserve x.Next ⟨6, f, 0, 0, n, 0, 0, 50⟩ = (fullU x.Next (useL 50 x.Lots n (usableS x.Lots f)), re, nx, 0) := by
    unfold actS
    dsimp only
    rw [if_neg (by omega), if_neg (by omega), if_neg (by omega), if_neg (by omega), if_pos rfl]
    unfold useAct
    dsimp only
    rw [if_neg (by unfold farmP; omega), if_neg (by
      rintro (h1 | h1 | ⟨j, hj, h1⟩)
      · omega
      · omega
      · obtain ⟨j1, j2, j3⟩ := usable_iff.1 hj
        have := hus _ (get_mem j1 j2)
        omega), if_neg (by omega), if_neg (by omega)]
    obtain ⟨ls', o, hL⟩ : ∃ ls' o, useL 50 x.Lots n (usableS x.Lots f) = (ls', o) := ⟨_, _, rfl⟩
    rw [hL] at hkept ⊢
    cases o with
    | none => exact ⟨_, _, rfl⟩
    | some v =>
      have e : ls'.length = x.Lots.length := hkept.2.1
      dsimp only
      rw [addS_ok (by omega) (by omega)]
      exact ⟨_, _, rfl⟩
  obtain ⟨re, nx, hact⟩ := hact
  have hay := apply_ok h.1 hact
  have hy := apply_kept (x := x) (a := ⟨6, f, 0, 0, n, 0, 0, 50⟩) h.1
  rw [hay] at hy
  have hfull : ∀ q ∈ fullU x.Next (useL 50 x.Lots n (usableS x.Lots f)), q.Used = 50 ∨ q.Used ≤ 5 := fun q hq => by
    obtain ⟨_, _, g3, _, g5⟩ := hkept
    generalize useL 50 x.Lots n (usableS x.Lots f) = u at hq g3 g5
    obtain ⟨ls', o⟩ := u
    have hls : ∀ q ∈ ls', q.Used = 50 ∨ q.Used ≤ 5 := fun q hq => by
      rcases g3 q hq with e | ⟨p, hp, e⟩
      · exact .inl e
      · have := hus p hp; exact .inr (by omega)
    cases o with
    | none => exact hls q hq
    | some v =>
      rcases List.mem_append.1 (show q ∈ ls' ++ [{ v with Number := x.Next }] from hq) with hq | hq
      · exact hls q hq
      · rw [List.mem_singleton.1 hq]; exact .inl (g5 v rfl).2.1
  obtain ⟨r1, r2, r3, r4⟩ := hR
  generalize fullU x.Next (useL 50 x.Lots n (usableS x.Lots f)) = full at hact hay hy hfull r1 r2 r3 r4
  obtain ⟨hy1, hy2, hy3, hy4⟩ := hy
  have hlapse : actS full re nx ⟨7, 0, 0, 0, 0, 0, 0, 51⟩ = (lapseS 51 full, re + lapseN 51 full, nx, 0) := by
    unfold actS
    dsimp only
    rw [if_neg (by omega), if_neg (by omega), if_neg (by omega), if_neg (by omega), if_neg (by omega), if_pos rfl, if_neg (by omega)]
  have haz := apply_ok (x := ⟨full, re, nx⟩) hy1 hlapse
  obtain ⟨d1, d2, d3, d4, d5, d6, d7⟩ := chkE_iff.1 hy1
  obtain ⟨s1, s2⟩ := lapse_m50 hfull
  have hfl := chkE_len hy1
  dsimp only at hfl hy3 d6
  have hval : valueS x f n = ((valL x.Lots (usableS x.Lots f) n 0).2 / 100, 0) := by
    unfold valueS
    rw [if_neg (by simp [h.1]), if_neg (by unfold farmP; omega), if_neg (by omega), if_neg (by omega)]
  refine ⟨⟨full, re, nx⟩, _, hay, haz, by dsimp only; omega, fun q hq => (d6.1 q hq).1, r1, ?_, by rw [hval], r4, ?_, fun q hq => ?_, ?_⟩
  · rw [hval, r2]
  · have := (lapse_sub (y := 51) (ls := full)).length_le
    dsimp only
    omega
  · obtain ⟨e1, e2⟩ := s2 q hq
    exact ⟨(d6.1 q e1).1, e2, r3 q e1 e2⟩
  · dsimp only
    rw [s1]; exact r1
end RE
end Go.Proofs.Ytpnmiieohdkenaa
set_option maxRecDepth 100000
set_option linter.unusedVariables false
namespace Go.Proofs.Ytpnmiieohdkenaa
open Go.RowKit
namespace RE
open PL
def lUses_C : Ctx := ⟨tau, [kents_sp, eapl_sp, rheld_sp, evalue_sp, awake_sp], lookJ [(0, 55, ⟨[(132, .dat (.int .i64)), (26, .dat (.int .i64))], [], [133, 134, 135, 28, 136, 137, 138, 139, 140, 141, 142, 143, 148, 144, 145, 146, 147, 149], [], []⟩), (0, 39, ⟨[(102, .dat (.int .i64))], [], [103, 104, 105, 23, 106, 107, 108, 109, 110, 114, 115, 120, 111, 112, 113, 116, 117, 118, 119, 121], [], []⟩), (0, 27, ⟨[(76, .dat (.int .i64)), (19, .dat (.int .i64)), (18, .dat (.int .i64)), (17, .dat (.int .i64))], [], [77, 97, 96, 95, 94, 93, 92, 91, 90, 89, 88, 87, 86, 85, 84, 83, 82, 81, 80, 21, 79, 78, 98], [], []⟩), (0, 34, ⟨[(19, .dat (.int .i64)), (18, .dat (.int .i64)), (17, .dat (.int .i64))], [], [78, 79, 21, 80, 81, 82, 83, 84, 85, 86, 87, 88, 89, 90, 91, 92, 93, 94, 95, 96, 97], [], []⟩)]⟩
def lUses_W (l : List (Int)) (farm : Int) (sq : Int) (post : Bool → Prop) : Prop := (Int.NonNeg (2 : Int) ∧ (2 : Int) ≤ (6 : Int)) ∧ ∀ (v1 : api_Entitlements) (v2 : List api_Act), EInv (7 : Int) v1 → ((4 : Int) = (0 : Int) → False) ∧ True ∧ IFB (decide ((heldS { Lots := v1.1, Reserve := v1.2, Next := v1.3 : api_Entitlements } (IntKind.i64.wrap ((1 : Int) + (IntKind.i64.wrap farm).tmod (4 : Int)))).2 = (0 : Int))) (post true) (((heldS { Lots := v1.1, Reserve := v1.2, Next := v1.3 : api_Entitlements } (IntKind.i64.wrap ((1 : Int) + (IntKind.i64.wrap farm).tmod (4 : Int)))).2 = (0 : Int) → False) ∧ v1.1.length ≤ (20 : Nat) ∧ (applyS { Lots := v1.1, Reserve := v1.2, Next := v1.3 : api_Entitlements } { Kind := (6 : Int), Farm := IntKind.i64.wrap ((1 : Int) + (IntKind.i64.wrap farm).tmod (4 : Int)), To := (0 : Int), Lot := (0 : Int), Squares := IntKind.i64.wrap ((1 : Int) + (IntKind.i64.wrap sq).tmod (heldS { Lots := v1.1, Reserve := v1.2, Next := v1.3 : api_Entitlements } (IntKind.i64.wrap ((1 : Int) + (IntKind.i64.wrap farm).tmod (4 : Int)))).2), Value := (0 : Int), Keep := (0 : Int), Year := (50 : Int) : api_Act }).1.1.length ≤ (20 : Nat) ∧ IFB (!decide ((applyS { Lots := v1.1, Reserve := v1.2, Next := v1.3 : api_Entitlements } { Kind := (6 : Int), Farm := IntKind.i64.wrap ((1 : Int) + (IntKind.i64.wrap farm).tmod (4 : Int)), To := (0 : Int), Lot := (0 : Int), Squares := IntKind.i64.wrap ((1 : Int) + (IntKind.i64.wrap sq).tmod (heldS { Lots := v1.1, Reserve := v1.2, Next := v1.3 : api_Entitlements } (IntKind.i64.wrap ((1 : Int) + (IntKind.i64.wrap farm).tmod (4 : Int)))).2), Value := (0 : Int), Keep := (0 : Int), Year := (50 : Int) : api_Act }).2 = (0 : Int)) || !decide ((applyS { Lots := (applyS { Lots := v1.1, Reserve := v1.2, Next := v1.3 : api_Entitlements } { Kind := (6 : Int), Farm := IntKind.i64.wrap ((1 : Int) + (IntKind.i64.wrap farm).tmod (4 : Int)), To := (0 : Int), Lot := (0 : Int), Squares := IntKind.i64.wrap ((1 : Int) + (IntKind.i64.wrap sq).tmod (heldS { Lots := v1.1, Reserve := v1.2, Next := v1.3 : api_Entitlements } (IntKind.i64.wrap ((1 : Int) + (IntKind.i64.wrap farm).tmod (4 : Int)))).2), Value := (0 : Int), Keep := (0 : Int), Year := (50 : Int) : api_Act }).1.1, Reserve := (applyS { Lots := v1.1, Reserve := v1.2, Next := v1.3 : api_Entitlements } { Kind := (6 : Int), Farm := IntKind.i64.wrap ((1 : Int) + (IntKind.i64.wrap farm).tmod (4 : Int)), To := (0 : Int), Lot := (0 : Int), Squares := IntKind.i64.wrap ((1 : Int) + (IntKind.i64.wrap sq).tmod (heldS { Lots := v1.1, Reserve := v1.2, Next := v1.3 : api_Entitlements } (IntKind.i64.wrap ((1 : Int) + (IntKind.i64.wrap farm).tmod (4 : Int)))).2), Value := (0 : Int), Keep := (0 : Int), Year := (50 : Int) : api_Act }).1.2, Next := (applyS { Lots := v1.1, Reserve := v1.2, Next := v1.3 : api_Entitlements } { Kind := (6 : Int), Farm := IntKind.i64.wrap ((1 : Int) + (IntKind.i64.wrap farm).tmod (4 : Int)), To := (0 : Int), Lot := (0 : Int), Squares := IntKind.i64.wrap ((1 : Int) + (IntKind.i64.wrap sq).tmod (heldS { Lots := v1.1, Reserve := v1.2, Next := v1.3 : api_Entitlements } (IntKind.i64.wrap ((1 : Int) + (IntKind.i64.wrap farm).tmod (4 : Int)))).2), Value := (0 : Int), Keep := (0 : Int), Year := (50 : Int) : api_Act }).1.3 : api_Entitlements } { Kind := (7 : Int), Farm := (0 : Int), To := (0 : Int), Lot := (0 : Int), Squares := (0 : Int), Value := (0 : Int), Keep := (0 : Int), Year := (51 : Int) : api_Act }).2 = (0 : Int))) (post false) ((↑(applyS { Lots := v1.1, Reserve := v1.2, Next := v1.3 : api_Entitlements } { Kind := (6 : Int), Farm := IntKind.i64.wrap ((1 : Int) + (IntKind.i64.wrap farm).tmod (4 : Int)), To := (0 : Int), Lot := (0 : Int), Squares := IntKind.i64.wrap ((1 : Int) + (IntKind.i64.wrap sq).tmod (heldS { Lots := v1.1, Reserve := v1.2, Next := v1.3 : api_Entitlements } (IntKind.i64.wrap ((1 : Int) + (IntKind.i64.wrap farm).tmod (4 : Int)))).2), Value := (0 : Int), Keep := (0 : Int), Year := (50 : Int) : api_Act }).1.1.length : Int) ≤ (9223372036854775807 : Int) → LOOP [Ty.int IntKind.i64, Ty.int IntKind.i64, Ty.int IntKind.i64, Ty.int IntKind.i64] (fun (rec3 : Int → Int → Int → Int → Prop) (z4 z5 z6 z7 : Int) ↦ IFB (decide (z4 < (↑(applyS { Lots := v1.1, Reserve := v1.2, Next := v1.3 : api_Entitlements } { Kind := (6 : Int), Farm := IntKind.i64.wrap ((1 : Int) + (IntKind.i64.wrap farm).tmod (4 : Int)), To := (0 : Int), Lot := (0 : Int), Squares := IntKind.i64.wrap ((1 : Int) + (IntKind.i64.wrap sq).tmod (heldS { Lots := v1.1, Reserve := v1.2, Next := v1.3 : api_Entitlements } (IntKind.i64.wrap ((1 : Int) + (IntKind.i64.wrap farm).tmod (4 : Int)))).2), Value := (0 : Int), Keep := (0 : Int), Year := (50 : Int) : api_Act }).1.1.length : Int))) (JOIN [Ty.int IntKind.i64, Ty.int IntKind.i64, Ty.int IntKind.i64] (fun (y8 y9 y10 : Int) ↦ rec3 (IntKind.i64.wrap (z4 + (1 : Int))) y8 y9 y10) fun (J11 : Int → Int → Int → Prop) ↦ ((0 : Int) ≤ z4 ∧ z4 < (↑(applyS { Lots := v1.1, Reserve := v1.2, Next := v1.3 : api_Entitlements } { Kind := (6 : Int), Farm := IntKind.i64.wrap ((1 : Int) + (IntKind.i64.wrap farm).tmod (4 : Int)), To := (0 : Int), Lot := (0 : Int), Squares := IntKind.i64.wrap ((1 : Int) + (IntKind.i64.wrap sq).tmod (heldS { Lots := v1.1, Reserve := v1.2, Next := v1.3 : api_Entitlements } (IntKind.i64.wrap ((1 : Int) + (IntKind.i64.wrap farm).tmod (4 : Int)))).2), Value := (0 : Int), Keep := (0 : Int), Year := (50 : Int) : api_Act }).1.1.length : Int)) ∧ IFB (decide ((ix (applyS { Lots := v1.1, Reserve := v1.2, Next := v1.3 : api_Entitlements } { Kind := (6 : Int), Farm := IntKind.i64.wrap ((1 : Int) + (IntKind.i64.wrap farm).tmod (4 : Int)), To := (0 : Int), Lot := (0 : Int), Squares := IntKind.i64.wrap ((1 : Int) + (IntKind.i64.wrap sq).tmod (heldS { Lots := v1.1, Reserve := v1.2, Next := v1.3 : api_Entitlements } (IntKind.i64.wrap ((1 : Int) + (IntKind.i64.wrap farm).tmod (4 : Int)))).2), Value := (0 : Int), Keep := (0 : Int), Year := (50 : Int) : api_Act }).1.1 z4).6 = (50 : Int))) (J11 (IntKind.i64.wrap (z5 + IntKind.i64.wrap ((ix (applyS { Lots := v1.1, Reserve := v1.2, Next := v1.3 : api_Entitlements } { Kind := (6 : Int), Farm := IntKind.i64.wrap ((1 : Int) + (IntKind.i64.wrap farm).tmod (4 : Int)), To := (0 : Int), Lot := (0 : Int), Squares := IntKind.i64.wrap ((1 : Int) + (IntKind.i64.wrap sq).tmod (heldS { Lots := v1.1, Reserve := v1.2, Next := v1.3 : api_Entitlements } (IntKind.i64.wrap ((1 : Int) + (IntKind.i64.wrap farm).tmod (4 : Int)))).2), Value := (0 : Int), Keep := (0 : Int), Year := (50 : Int) : api_Act }).1.1 z4).4 * (ix (applyS { Lots := v1.1, Reserve := v1.2, Next := v1.3 : api_Entitlements } { Kind := (6 : Int), Farm := IntKind.i64.wrap ((1 : Int) + (IntKind.i64.wrap farm).tmod (4 : Int)), To := (0 : Int), Lot := (0 : Int), Squares := IntKind.i64.wrap ((1 : Int) + (IntKind.i64.wrap sq).tmod (heldS { Lots := v1.1, Reserve := v1.2, Next := v1.3 : api_Entitlements } (IntKind.i64.wrap ((1 : Int) + (IntKind.i64.wrap farm).tmod (4 : Int)))).2), Value := (0 : Int), Keep := (0 : Int), Year := (50 : Int) : api_Act }).1.1 z4).5))) (Min.min z6 (ix (applyS { Lots := v1.1, Reserve := v1.2, Next := v1.3 : api_Entitlements } { Kind := (6 : Int), Farm := IntKind.i64.wrap ((1 : Int) + (IntKind.i64.wrap farm).tmod (4 : Int)), To := (0 : Int), Lot := (0 : Int), Squares := IntKind.i64.wrap ((1 : Int) + (IntKind.i64.wrap sq).tmod (heldS { Lots := v1.1, Reserve := v1.2, Next := v1.3 : api_Entitlements } (IntKind.i64.wrap ((1 : Int) + (IntKind.i64.wrap farm).tmod (4 : Int)))).2), Value := (0 : Int), Keep := (0 : Int), Year := (50 : Int) : api_Act }).1.1 z4).5) (IntKind.i64.wrap (z7 + (ix (applyS { Lots := v1.1, Reserve := v1.2, Next := v1.3 : api_Entitlements } { Kind := (6 : Int), Farm := IntKind.i64.wrap ((1 : Int) + (IntKind.i64.wrap farm).tmod (4 : Int)), To := (0 : Int), Lot := (0 : Int), Squares := IntKind.i64.wrap ((1 : Int) + (IntKind.i64.wrap sq).tmod (heldS { Lots := v1.1, Reserve := v1.2, Next := v1.3 : api_Entitlements } (IntKind.i64.wrap ((1 : Int) + (IntKind.i64.wrap farm).tmod (4 : Int)))).2), Value := (0 : Int), Keep := (0 : Int), Year := (50 : Int) : api_Act }).1.1 z4).4))) (J11 z5 z6 z7)) ((↑(applyS { Lots := v1.1, Reserve := v1.2, Next := v1.3 : api_Entitlements } { Kind := (6 : Int), Farm := IntKind.i64.wrap ((1 : Int) + (IntKind.i64.wrap farm).tmod (4 : Int)), To := (0 : Int), Lot := (0 : Int), Squares := IntKind.i64.wrap ((1 : Int) + (IntKind.i64.wrap sq).tmod (heldS { Lots := v1.1, Reserve := v1.2, Next := v1.3 : api_Entitlements } (IntKind.i64.wrap ((1 : Int) + (IntKind.i64.wrap farm).tmod (4 : Int)))).2), Value := (0 : Int), Keep := (0 : Int), Year := (50 : Int) : api_Act }).1.1.length : Int) ≤ (9223372036854775807 : Int) → LOOP [Ty.int IntKind.i64] (fun (rec12 : Int → Prop) (z13 : Int) ↦ IFB (decide (z13 < (↑(applyS { Lots := v1.1, Reserve := v1.2, Next := v1.3 : api_Entitlements } { Kind := (6 : Int), Farm := IntKind.i64.wrap ((1 : Int) + (IntKind.i64.wrap farm).tmod (4 : Int)), To := (0 : Int), Lot := (0 : Int), Squares := IntKind.i64.wrap ((1 : Int) + (IntKind.i64.wrap sq).tmod (heldS { Lots := v1.1, Reserve := v1.2, Next := v1.3 : api_Entitlements } (IntKind.i64.wrap ((1 : Int) + (IntKind.i64.wrap farm).tmod (4 : Int)))).2), Value := (0 : Int), Keep := (0 : Int), Year := (50 : Int) : api_Act }).1.1.length : Int))) (((0 : Int) ≤ z13 ∧ z13 < (↑(applyS { Lots := v1.1, Reserve := v1.2, Next := v1.3 : api_Entitlements } { Kind := (6 : Int), Farm := IntKind.i64.wrap ((1 : Int) + (IntKind.i64.wrap farm).tmod (4 : Int)), To := (0 : Int), Lot := (0 : Int), Squares := IntKind.i64.wrap ((1 : Int) + (IntKind.i64.wrap sq).tmod (heldS { Lots := v1.1, Reserve := v1.2, Next := v1.3 : api_Entitlements } (IntKind.i64.wrap ((1 : Int) + (IntKind.i64.wrap farm).tmod (4 : Int)))).2), Value := (0 : Int), Keep := (0 : Int), Year := (50 : Int) : api_Act }).1.1.length : Int)) ∧ IFB (decide ((ix (applyS { Lots := v1.1, Reserve := v1.2, Next := v1.3 : api_Entitlements } { Kind := (6 : Int), Farm := IntKind.i64.wrap ((1 : Int) + (IntKind.i64.wrap farm).tmod (4 : Int)), To := (0 : Int), Lot := (0 : Int), Squares := IntKind.i64.wrap ((1 : Int) + (IntKind.i64.wrap sq).tmod (heldS { Lots := v1.1, Reserve := v1.2, Next := v1.3 : api_Entitlements } (IntKind.i64.wrap ((1 : Int) + (IntKind.i64.wrap farm).tmod (4 : Int)))).2), Value := (0 : Int), Keep := (0 : Int), Year := (50 : Int) : api_Act }).1.1 z13).3 = IntKind.i64.wrap ((1 : Int) + (IntKind.i64.wrap farm).tmod (4 : Int))) && !decide ((ix (applyS { Lots := v1.1, Reserve := v1.2, Next := v1.3 : api_Entitlements } { Kind := (6 : Int), Farm := IntKind.i64.wrap ((1 : Int) + (IntKind.i64.wrap farm).tmod (4 : Int)), To := (0 : Int), Lot := (0 : Int), Squares := IntKind.i64.wrap ((1 : Int) + (IntKind.i64.wrap sq).tmod (heldS { Lots := v1.1, Reserve := v1.2, Next := v1.3 : api_Entitlements } (IntKind.i64.wrap ((1 : Int) + (IntKind.i64.wrap farm).tmod (4 : Int)))).2), Value := (0 : Int), Keep := (0 : Int), Year := (50 : Int) : api_Act }).1.1 z13).6 = (50 : Int)) && decide (z6 < (ix (applyS { Lots := v1.1, Reserve := v1.2, Next := v1.3 : api_Entitlements } { Kind := (6 : Int), Farm := IntKind.i64.wrap ((1 : Int) + (IntKind.i64.wrap farm).tmod (4 : Int)), To := (0 : Int), Lot := (0 : Int), Squares := IntKind.i64.wrap ((1 : Int) + (IntKind.i64.wrap sq).tmod (heldS { Lots := v1.1, Reserve := v1.2, Next := v1.3 : api_Entitlements } (IntKind.i64.wrap ((1 : Int) + (IntKind.i64.wrap farm).tmod (4 : Int)))).2), Value := (0 : Int), Keep := (0 : Int), Year := (50 : Int) : api_Act }).1.1 z13).5)) (post false) (rec12 (IntKind.i64.wrap (z13 + (1 : Int))))) (v1.1.length ≤ (20 : Nat) ∧ ((↑(applyS { Lots := (applyS { Lots := v1.1, Reserve := v1.2, Next := v1.3 : api_Entitlements } { Kind := (6 : Int), Farm := IntKind.i64.wrap ((1 : Int) + (IntKind.i64.wrap farm).tmod (4 : Int)), To := (0 : Int), Lot := (0 : Int), Squares := IntKind.i64.wrap ((1 : Int) + (IntKind.i64.wrap sq).tmod (heldS { Lots := v1.1, Reserve := v1.2, Next := v1.3 : api_Entitlements } (IntKind.i64.wrap ((1 : Int) + (IntKind.i64.wrap farm).tmod (4 : Int)))).2), Value := (0 : Int), Keep := (0 : Int), Year := (50 : Int) : api_Act }).1.1, Reserve := (applyS { Lots := v1.1, Reserve := v1.2, Next := v1.3 : api_Entitlements } { Kind := (6 : Int), Farm := IntKind.i64.wrap ((1 : Int) + (IntKind.i64.wrap farm).tmod (4 : Int)), To := (0 : Int), Lot := (0 : Int), Squares := IntKind.i64.wrap ((1 : Int) + (IntKind.i64.wrap sq).tmod (heldS { Lots := v1.1, Reserve := v1.2, Next := v1.3 : api_Entitlements } (IntKind.i64.wrap ((1 : Int) + (IntKind.i64.wrap farm).tmod (4 : Int)))).2), Value := (0 : Int), Keep := (0 : Int), Year := (50 : Int) : api_Act }).1.2, Next := (applyS { Lots := v1.1, Reserve := v1.2, Next := v1.3 : api_Entitlements } { Kind := (6 : Int), Farm := IntKind.i64.wrap ((1 : Int) + (IntKind.i64.wrap farm).tmod (4 : Int)), To := (0 : Int), Lot := (0 : Int), Squares := IntKind.i64.wrap ((1 : Int) + (IntKind.i64.wrap sq).tmod (heldS { Lots := v1.1, Reserve := v1.2, Next := v1.3 : api_Entitlements } (IntKind.i64.wrap ((1 : Int) + (IntKind.i64.wrap farm).tmod (4 : Int)))).2), Value := (0 : Int), Keep := (0 : Int), Year := (50 : Int) : api_Act }).1.3 : api_Entitlements } { Kind := (7 : Int), Farm := (0 : Int), To := (0 : Int), Lot := (0 : Int), Squares := (0 : Int), Value := (0 : Int), Keep := (0 : Int), Year := (51 : Int) : api_Act }).1.1.length : Int) ≤ (9223372036854775807 : Int) → LOOP [Ty.int IntKind.i64, Ty.int IntKind.i64] (fun (rec14 : Int → Int → Prop) (z15 z16 : Int) ↦ IFB (decide (z15 < (↑(applyS { Lots := (applyS { Lots := v1.1, Reserve := v1.2, Next := v1.3 : api_Entitlements } { Kind := (6 : Int), Farm := IntKind.i64.wrap ((1 : Int) + (IntKind.i64.wrap farm).tmod (4 : Int)), To := (0 : Int), Lot := (0 : Int), Squares := IntKind.i64.wrap ((1 : Int) + (IntKind.i64.wrap sq).tmod (heldS { Lots := v1.1, Reserve := v1.2, Next := v1.3 : api_Entitlements } (IntKind.i64.wrap ((1 : Int) + (IntKind.i64.wrap farm).tmod (4 : Int)))).2), Value := (0 : Int), Keep := (0 : Int), Year := (50 : Int) : api_Act }).1.1, Reserve := (applyS { Lots := v1.1, Reserve := v1.2, Next := v1.3 : api_Entitlements } { Kind := (6 : Int), Farm := IntKind.i64.wrap ((1 : Int) + (IntKind.i64.wrap farm).tmod (4 : Int)), To := (0 : Int), Lot := (0 : Int), Squares := IntKind.i64.wrap ((1 : Int) + (IntKind.i64.wrap sq).tmod (heldS { Lots := v1.1, Reserve := v1.2, Next := v1.3 : api_Entitlements } (IntKind.i64.wrap ((1 : Int) + (IntKind.i64.wrap farm).tmod (4 : Int)))).2), Value := (0 : Int), Keep := (0 : Int), Year := (50 : Int) : api_Act }).1.2, Next := (applyS { Lots := v1.1, Reserve := v1.2, Next := v1.3 : api_Entitlements } { Kind := (6 : Int), Farm := IntKind.i64.wrap ((1 : Int) + (IntKind.i64.wrap farm).tmod (4 : Int)), To := (0 : Int), Lot := (0 : Int), Squares := IntKind.i64.wrap ((1 : Int) + (IntKind.i64.wrap sq).tmod (heldS { Lots := v1.1, Reserve := v1.2, Next := v1.3 : api_Entitlements } (IntKind.i64.wrap ((1 : Int) + (IntKind.i64.wrap farm).tmod (4 : Int)))).2), Value := (0 : Int), Keep := (0 : Int), Year := (50 : Int) : api_Act }).1.3 : api_Entitlements } { Kind := (7 : Int), Farm := (0 : Int), To := (0 : Int), Lot := (0 : Int), Squares := (0 : Int), Value := (0 : Int), Keep := (0 : Int), Year := (51 : Int) : api_Act }).1.1.length : Int))) (((0 : Int) ≤ z15 ∧ z15 < (↑(applyS { Lots := (applyS { Lots := v1.1, Reserve := v1.2, Next := v1.3 : api_Entitlements } { Kind := (6 : Int), Farm := IntKind.i64.wrap ((1 : Int) + (IntKind.i64.wrap farm).tmod (4 : Int)), To := (0 : Int), Lot := (0 : Int), Squares := IntKind.i64.wrap ((1 : Int) + (IntKind.i64.wrap sq).tmod (heldS { Lots := v1.1, Reserve := v1.2, Next := v1.3 : api_Entitlements } (IntKind.i64.wrap ((1 : Int) + (IntKind.i64.wrap farm).tmod (4 : Int)))).2), Value := (0 : Int), Keep := (0 : Int), Year := (50 : Int) : api_Act }).1.1, Reserve := (applyS { Lots := v1.1, Reserve := v1.2, Next := v1.3 : api_Entitlements } { Kind := (6 : Int), Farm := IntKind.i64.wrap ((1 : Int) + (IntKind.i64.wrap farm).tmod (4 : Int)), To := (0 : Int), Lot := (0 : Int), Squares := IntKind.i64.wrap ((1 : Int) + (IntKind.i64.wrap sq).tmod (heldS { Lots := v1.1, Reserve := v1.2, Next := v1.3 : api_Entitlements } (IntKind.i64.wrap ((1 : Int) + (IntKind.i64.wrap farm).tmod (4 : Int)))).2), Value := (0 : Int), Keep := (0 : Int), Year := (50 : Int) : api_Act }).1.2, Next := (applyS { Lots := v1.1, Reserve := v1.2, Next := v1.3 : api_Entitlements } { Kind := (6 : Int), Farm := IntKind.i64.wrap ((1 : Int) + (IntKind.i64.wrap farm).tmod (4 : Int)), To := (0 : Int), Lot := (0 : Int), Squares := IntKind.i64.wrap ((1 : Int) + (IntKind.i64.wrap sq).tmod (heldS { Lots := v1.1, Reserve := v1.2, Next := v1.3 : api_Entitlements } (IntKind.i64.wrap ((1 : Int) + (IntKind.i64.wrap farm).tmod (4 : Int)))).2), Value := (0 : Int), Keep := (0 : Int), Year := (50 : Int) : api_Act }).1.3 : api_Entitlements } { Kind := (7 : Int), Farm := (0 : Int), To := (0 : Int), Lot := (0 : Int), Squares := (0 : Int), Value := (0 : Int), Keep := (0 : Int), Year := (51 : Int) : api_Act }).1.1.length : Int)) ∧ IFB (!decide ((ix (applyS { Lots := (applyS { Lots := v1.1, Reserve := v1.2, Next := v1.3 : api_Entitlements } { Kind := (6 : Int), Farm := IntKind.i64.wrap ((1 : Int) + (IntKind.i64.wrap farm).tmod (4 : Int)), To := (0 : Int), Lot := (0 : Int), Squares := IntKind.i64.wrap ((1 : Int) + (IntKind.i64.wrap sq).tmod (heldS { Lots := v1.1, Reserve := v1.2, Next := v1.3 : api_Entitlements } (IntKind.i64.wrap ((1 : Int) + (IntKind.i64.wrap farm).tmod (4 : Int)))).2), Value := (0 : Int), Keep := (0 : Int), Year := (50 : Int) : api_Act }).1.1, Reserve := (applyS { Lots := v1.1, Reserve := v1.2, Next := v1.3 : api_Entitlements } { Kind := (6 : Int), Farm := IntKind.i64.wrap ((1 : Int) + (IntKind.i64.wrap farm).tmod (4 : Int)), To := (0 : Int), Lot := (0 : Int), Squares := IntKind.i64.wrap ((1 : Int) + (IntKind.i64.wrap sq).tmod (heldS { Lots := v1.1, Reserve := v1.2, Next := v1.3 : api_Entitlements } (IntKind.i64.wrap ((1 : Int) + (IntKind.i64.wrap farm).tmod (4 : Int)))).2), Value := (0 : Int), Keep := (0 : Int), Year := (50 : Int) : api_Act }).1.2, Next := (applyS { Lots := v1.1, Reserve := v1.2, Next := v1.3 : api_Entitlements } { Kind := (6 : Int), Farm := IntKind.i64.wrap ((1 : Int) + (IntKind.i64.wrap farm).tmod (4 : Int)), To := (0 : Int), Lot := (0 : Int), Squares := IntKind.i64.wrap ((1 : Int) + (IntKind.i64.wrap sq).tmod (heldS { Lots := v1.1, Reserve := v1.2, Next := v1.3 : api_Entitlements } (IntKind.i64.wrap ((1 : Int) + (IntKind.i64.wrap farm).tmod (4 : Int)))).2), Value := (0 : Int), Keep := (0 : Int), Year := (50 : Int) : api_Act }).1.3 : api_Entitlements } { Kind := (7 : Int), Farm := (0 : Int), To := (0 : Int), Lot := (0 : Int), Squares := (0 : Int), Value := (0 : Int), Keep := (0 : Int), Year := (51 : Int) : api_Act }).1.1 z15).6 = (50 : Int)) || !decide ((ix (applyS { Lots := (applyS { Lots := v1.1, Reserve := v1.2, Next := v1.3 : api_Entitlements } { Kind := (6 : Int), Farm := IntKind.i64.wrap ((1 : Int) + (IntKind.i64.wrap farm).tmod (4 : Int)), To := (0 : Int), Lot := (0 : Int), Squares := IntKind.i64.wrap ((1 : Int) + (IntKind.i64.wrap sq).tmod (heldS { Lots := v1.1, Reserve := v1.2, Next := v1.3 : api_Entitlements } (IntKind.i64.wrap ((1 : Int) + (IntKind.i64.wrap farm).tmod (4 : Int)))).2), Value := (0 : Int), Keep := (0 : Int), Year := (50 : Int) : api_Act }).1.1, Reserve := (applyS { Lots := v1.1, Reserve := v1.2, Next := v1.3 : api_Entitlements } { Kind := (6 : Int), Farm := IntKind.i64.wrap ((1 : Int) + (IntKind.i64.wrap farm).tmod (4 : Int)), To := (0 : Int), Lot := (0 : Int), Squares := IntKind.i64.wrap ((1 : Int) + (IntKind.i64.wrap sq).tmod (heldS { Lots := v1.1, Reserve := v1.2, Next := v1.3 : api_Entitlements } (IntKind.i64.wrap ((1 : Int) + (IntKind.i64.wrap farm).tmod (4 : Int)))).2), Value := (0 : Int), Keep := (0 : Int), Year := (50 : Int) : api_Act }).1.2, Next := (applyS { Lots := v1.1, Reserve := v1.2, Next := v1.3 : api_Entitlements } { Kind := (6 : Int), Farm := IntKind.i64.wrap ((1 : Int) + (IntKind.i64.wrap farm).tmod (4 : Int)), To := (0 : Int), Lot := (0 : Int), Squares := IntKind.i64.wrap ((1 : Int) + (IntKind.i64.wrap sq).tmod (heldS { Lots := v1.1, Reserve := v1.2, Next := v1.3 : api_Entitlements } (IntKind.i64.wrap ((1 : Int) + (IntKind.i64.wrap farm).tmod (4 : Int)))).2), Value := (0 : Int), Keep := (0 : Int), Year := (50 : Int) : api_Act }).1.3 : api_Entitlements } { Kind := (7 : Int), Farm := (0 : Int), To := (0 : Int), Lot := (0 : Int), Squares := (0 : Int), Value := (0 : Int), Keep := (0 : Int), Year := (51 : Int) : api_Act }).1.1 z15).3 = IntKind.i64.wrap ((1 : Int) + (IntKind.i64.wrap farm).tmod (4 : Int)))) (post false) (rec14 (IntKind.i64.wrap (z15 + (1 : Int))) (IntKind.i64.wrap (z16 + (ix (applyS { Lots := (applyS { Lots := v1.1, Reserve := v1.2, Next := v1.3 : api_Entitlements } { Kind := (6 : Int), Farm := IntKind.i64.wrap ((1 : Int) + (IntKind.i64.wrap farm).tmod (4 : Int)), To := (0 : Int), Lot := (0 : Int), Squares := IntKind.i64.wrap ((1 : Int) + (IntKind.i64.wrap sq).tmod (heldS { Lots := v1.1, Reserve := v1.2, Next := v1.3 : api_Entitlements } (IntKind.i64.wrap ((1 : Int) + (IntKind.i64.wrap farm).tmod (4 : Int)))).2), Value := (0 : Int), Keep := (0 : Int), Year := (50 : Int) : api_Act }).1.1, Reserve := (applyS { Lots := v1.1, Reserve := v1.2, Next := v1.3 : api_Entitlements } { Kind := (6 : Int), Farm := IntKind.i64.wrap ((1 : Int) + (IntKind.i64.wrap farm).tmod (4 : Int)), To := (0 : Int), Lot := (0 : Int), Squares := IntKind.i64.wrap ((1 : Int) + (IntKind.i64.wrap sq).tmod (heldS { Lots := v1.1, Reserve := v1.2, Next := v1.3 : api_Entitlements } (IntKind.i64.wrap ((1 : Int) + (IntKind.i64.wrap farm).tmod (4 : Int)))).2), Value := (0 : Int), Keep := (0 : Int), Year := (50 : Int) : api_Act }).1.2, Next := (applyS { Lots := v1.1, Reserve := v1.2, Next := v1.3 : api_Entitlements } { Kind := (6 : Int), Farm := IntKind.i64.wrap ((1 : Int) + (IntKind.i64.wrap farm).tmod (4 : Int)), To := (0 : Int), Lot := (0 : Int), Squares := IntKind.i64.wrap ((1 : Int) + (IntKind.i64.wrap sq).tmod (heldS { Lots := v1.1, Reserve := v1.2, Next := v1.3 : api_Entitlements } (IntKind.i64.wrap ((1 : Int) + (IntKind.i64.wrap farm).tmod (4 : Int)))).2), Value := (0 : Int), Keep := (0 : Int), Year := (50 : Int) : api_Act }).1.3 : api_Entitlements } { Kind := (7 : Int), Farm := (0 : Int), To := (0 : Int), Lot := (0 : Int), Squares := (0 : Int), Value := (0 : Int), Keep := (0 : Int), Year := (51 : Int) : api_Act }).1.1 z15).4)))) ((gx true (decide (z7 = IntKind.i64.wrap ((1 : Int) + (IntKind.i64.wrap sq).tmod (heldS { Lots := v1.1, Reserve := v1.2, Next := v1.3 : api_Entitlements } (IntKind.i64.wrap ((1 : Int) + (IntKind.i64.wrap farm).tmod (4 : Int)))).2)) && decide ((valueS { Lots := v1.1, Reserve := v1.2, Next := v1.3 : api_Entitlements } (IntKind.i64.wrap ((1 : Int) + (IntKind.i64.wrap farm).tmod (4 : Int))) (IntKind.i64.wrap ((1 : Int) + (IntKind.i64.wrap sq).tmod (heldS { Lots := v1.1, Reserve := v1.2, Next := v1.3 : api_Entitlements } (IntKind.i64.wrap ((1 : Int) + (IntKind.i64.wrap farm).tmod (4 : Int)))).2))).2 = (0 : Int))) = true → (100 : Int) = (0 : Int) → False) ∧ JOIN [Ty.bool] (fun (y17 : Bool) ↦ post (decide (z7 = IntKind.i64.wrap ((1 : Int) + (IntKind.i64.wrap sq).tmod (heldS { Lots := v1.1, Reserve := v1.2, Next := v1.3 : api_Entitlements } (IntKind.i64.wrap ((1 : Int) + (IntKind.i64.wrap farm).tmod (4 : Int)))).2)) && decide ((valueS { Lots := v1.1, Reserve := v1.2, Next := v1.3 : api_Entitlements } (IntKind.i64.wrap ((1 : Int) + (IntKind.i64.wrap farm).tmod (4 : Int))) (IntKind.i64.wrap ((1 : Int) + (IntKind.i64.wrap sq).tmod (heldS { Lots := v1.1, Reserve := v1.2, Next := v1.3 : api_Entitlements } (IntKind.i64.wrap ((1 : Int) + (IntKind.i64.wrap farm).tmod (4 : Int)))).2))).2 = (0 : Int)) && decide ((valueS { Lots := v1.1, Reserve := v1.2, Next := v1.3 : api_Entitlements } (IntKind.i64.wrap ((1 : Int) + (IntKind.i64.wrap farm).tmod (4 : Int))) (IntKind.i64.wrap ((1 : Int) + (IntKind.i64.wrap sq).tmod (heldS { Lots := v1.1, Reserve := v1.2, Next := v1.3 : api_Entitlements } (IntKind.i64.wrap ((1 : Int) + (IntKind.i64.wrap farm).tmod (4 : Int)))).2))).1 = IntKind.i64.wrap (z5.tdiv (100 : Int))) && decide (z16 = IntKind.i64.wrap ((1 : Int) + (IntKind.i64.wrap sq).tmod (heldS { Lots := v1.1, Reserve := v1.2, Next := v1.3 : api_Entitlements } (IntKind.i64.wrap ((1 : Int) + (IntKind.i64.wrap farm).tmod (4 : Int)))).2)) && y17)) fun (J18 : Bool → Prop) ↦ IFB (gx true (decide (z7 = IntKind.i64.wrap ((1 : Int) + (IntKind.i64.wrap sq).tmod (heldS { Lots := v1.1, Reserve := v1.2, Next := v1.3 : api_Entitlements } (IntKind.i64.wrap ((1 : Int) + (IntKind.i64.wrap farm).tmod (4 : Int)))).2)) && decide ((valueS { Lots := v1.1, Reserve := v1.2, Next := v1.3 : api_Entitlements } (IntKind.i64.wrap ((1 : Int) + (IntKind.i64.wrap farm).tmod (4 : Int))) (IntKind.i64.wrap ((1 : Int) + (IntKind.i64.wrap sq).tmod (heldS { Lots := v1.1, Reserve := v1.2, Next := v1.3 : api_Entitlements } (IntKind.i64.wrap ((1 : Int) + (IntKind.i64.wrap farm).tmod (4 : Int)))).2))).2 = (0 : Int)) && decide ((valueS { Lots := v1.1, Reserve := v1.2, Next := v1.3 : api_Entitlements } (IntKind.i64.wrap ((1 : Int) + (IntKind.i64.wrap farm).tmod (4 : Int))) (IntKind.i64.wrap ((1 : Int) + (IntKind.i64.wrap sq).tmod (heldS { Lots := v1.1, Reserve := v1.2, Next := v1.3 : api_Entitlements } (IntKind.i64.wrap ((1 : Int) + (IntKind.i64.wrap farm).tmod (4 : Int)))).2))).1 = IntKind.i64.wrap (z5.tdiv (100 : Int))) && decide (z16 = IntKind.i64.wrap ((1 : Int) + (IntKind.i64.wrap sq).tmod (heldS { Lots := v1.1, Reserve := v1.2, Next := v1.3 : api_Entitlements } (IntKind.i64.wrap ((1 : Int) + (IntKind.i64.wrap farm).tmod (4 : Int)))).2)))) (J18 true) (J18 false))) ((0 : Int), (0 : Int), PUnit.unit)))) ((0 : Int), PUnit.unit))) ((0 : Int), (0 : Int), (1099511627776 : Int), (0 : Int), PUnit.unit)))
theorem lUses_w (l : List (Int)) (farm : Int) (sq : Int) (post : Bool → Prop) : lUses_W l farm sq post = lawG (callN Try.prog 12 lUses_C [] (drawR Try.prog tau) 10 0) 9 [tv (.sl (.int .i64)) l, tv (.int .u8) farm, tv (.int .u16) sq] post := by kernel_rfl
theorem lUses_calls (hN : NewOK Try.prog 12) (l : List (Int)) (farm : Int) (sq : Int) (h : lUses_W l farm sq fun b => b = true) {w : World} {S : Cells} {us : List Value} (h1 : ∀ b o, S b o → b < w.heap.size) (h3 : us.length = 3) (h4 : ∀ (i : Nat) (d : D) (u : Value), [tv (.sl (.int .i64)) l, tv (.int .u8) farm, tv (.int .u16) sq][i]? = some d → us[i]? = some u → Rd S w d u) : Calls Try.prog 9 us.toArray w fun e w' => (∃ b, e = .returned (.bool b) ∧ b = true) ∧ Below w.heap.size w w' := lawG_ok (callN_ok hN (C := lUses_C) (L2 := []) (dr := drawR Try.prog tau) (.cons kents_ok (.cons eapl_ok (.cons rheld_ok (.cons evalue_ok (.cons awake_ok .nil))))) .nil (drawR_ok tau) 10 0) (HoldW.of (lUses_w l farm sq fun b => b = true) h).h h1 h3 h4
theorem vlS_in {p : api_Lot → Bool} : ∀ {ls : List api_Lot}, (∀ l ∈ ls, LotOK l) → 0 ≤ vlS p ls ∧ vlS p ls ≤ 281474976710656 * ls.length
  | [], _ => ⟨Int.le_refl _, by simp [vlS]⟩
  | x :: r, h => by
    have h1 := vlS_in (p := p) (ls := r) (fun l hl => h l (by simp [hl]))
    have h2 := h x (by simp)
    unfold LotOK at h2
    have h3 : 0 ≤ x.Squares * x.Value := Int.mul_nonneg (by omega) (by omega)
    have h4 : x.Squares * x.Value ≤ 268435456 * 1048576 := Int.mul_le_mul (by omega) (by omega) (by omega) (by omega)
    unfold vlS
    simp only [List.length_cons]
    push_cast
    split <;> omega
theorem lUses_h (l : List Int) (farm sq : Int) (w1 : (Lit.int .u8 farm).wf = true) (w3 : (Lit.int .u16 sq).wf = true) : lUses_W l farm sq fun b => b = true := by
  obtain ⟨b1, b2⟩ := wf_u8 w1
  obtain ⟨b5, b6⟩ := wf_u16 w3
  unfold lUses_W
  refine ⟨⟨Int.NonNeg.mk _, by omega⟩, fun v1 v2 hv => ?_⟩
  obtain ⟨q1, q2, q3⟩ := pick_in (a := farm) (n := 4) b1 (by omega) (by omega) (by omega)
  rw [q3]
  generalize (IntKind.i64.wrap farm).tmod 4 = t0 at *
  obtain ⟨f, hf⟩ : ∃ f, 1 + t0 = f := ⟨_, rfl⟩
  rw [hf]
  have hc := hv.1
  have hl8 := hv.2.2.1
  have hu := held_in hc f
  have eh : heldS ⟨v1.1, v1.2, v1.3⟩ f = (ownS f v1.1, useS f v1.1) := held_eq hc f
  rw [eh]
  dsimp only
  refine ⟨by omega, trivial, IFB.mk (fun _ => rfl) (fun h0 => ?_)⟩
  have h0 : ¬ useS f v1.1 = 0 := of_decide_eq_false h0
  have hpick : 0 ≤ (IntKind.i64.wrap sq).tmod (useS f v1.1) ∧ (IntKind.i64.wrap sq).tmod (useS f v1.1) < useS f v1.1 ∧ (IntKind.i64.wrap sq).tmod (useS f v1.1) ≤ sq := by
    rw [wrap_in (by omega) (by omega)]
    refine ⟨Int.tmod_nonneg _ b5, Int.tmod_lt_of_pos _ (by omega), ?_⟩
    rw [Int.tmod_eq_emod_of_nonneg b5]
    have h1 := Int.mul_ediv_add_emod sq (useS f v1.1)
    have h2 : 0 ≤ useS f v1.1 * (sq / useS f v1.1) := Int.mul_nonneg (by omega) (Int.ediv_nonneg b5 (by omega))
    omega
  obtain ⟨n, hn⟩ : ∃ n, 1 + (IntKind.i64.wrap sq).tmod (useS f v1.1) = n := ⟨_, rfl⟩
  rw [hn]
  have wn : IntKind.i64.wrap n = n := wrap_in (by omega) (by omega)
  rw [wn]
  obtain ⟨y, z, U⟩ := used_of hv (by omega) (f := f) (n := n) (by omega) (by omega) (by omega)
  have ay := U.ay
  have az : applyS ⟨y.1, y.2, y.3⟩ ⟨7, 0, 0, 0, 0, 0, 0, 51⟩ = (z, 0) := U.az
  rw [ay]
  dsimp only
  rw [az]
  dsimp only
  have hyl := U.yl
  have hzl := U.zl
  refine ⟨h0, by omega, hyl, IFB.mk (fun h => by simp at h) (fun _ _ => ?_)⟩
  have hval : valueS ⟨v1.1, v1.2, v1.3⟩ f n = valueS v1 f n := rfl
  rw [hval]
  have hV := vlS_in (p := m50) U.yo
  refine LOOP.list y.1 (fun k (s : Int × Int × Int) => ((k : Int), s.1, s.2.1, s.2.2, ())) (fun u => Int.toNat u.1) (fun k r (s : Int × Int × Int) => (s.1 + vlS m50 r = vlS m50 y.1 ∧ 0 ≤ s.1) ∧ (s.2.2 + sqS m50 r = n ∧ 0 ≤ s.2.2) ∧ (∀ q ∈ y.1, q.User = f → q.Used ≠ 50 → q.Value ≤ s.2.1) ∧ ∀ q ∈ r, q ∈ y.1) ((0 : Int), (1099511627776 : Int), (0 : Int)) rfl ⟨⟨by omega, by decide⟩, ⟨by show (0 : Int) + sqS m50 y.1 = n; have := U.ys; omega, by decide⟩, fun q hq _ _ => ?_, fun q hq => hq⟩ (fun k s h => by simp) ?_ ?_
  · have := U.yo q hq
    unfold LotOK at this
    show q.Value ≤ 1099511627776
    omega
  · intro rec k x r s hd hk hkl ⟨⟨g1, g2⟩, ⟨g3, g4⟩, g5, g6⟩ hrec
    obtain ⟨s1, s2, s3⟩ := s
    dsimp only at g1 g2 g3 g4 g5
    have hx := ix_of hk
    have hxm := g6 x (by simp)
    have hxo := U.yo x hxm
    unfold LotOK at hxo
    have hr : ∀ q ∈ r, q ∈ y.1 := fun q hq => g6 q (by simp [hq])
    have hv2 := vlS_in (p := m50) (ls := r) (fun q hq => U.yo q (hr q hq))
    have hs2 := sqS_nonneg (p := m50) (ls := r) (fun q hq => U.yo q (hr q hq))
    have w1 : IntKind.i64.wrap ((k : Int) + 1) = ((k + 1 : Nat) : Int) := by rw [wrap_in (by omega) (by omega)]; rfl
    show IFB _ _ _
    refine IFB.mk (fun _ => ?_) (fun h => absurd (of_decide_eq_false h) (by show ¬ ¬ ((k : Int) < y.1.length); omega))
    refine JOIN.opq fun (J : Int → Int → Int → Prop) hJ => ⟨⟨by show (0 : Int) ≤ k; omega, by show (k : Int) < y.1.length; omega⟩, ?_⟩
    have hJ : ∀ a b c, a + vlS m50 r = vlS m50 y.1 → 0 ≤ a → c + sqS m50 r = n → 0 ≤ c → (∀ q ∈ y.1, q.User = f → q.Used ≠ 50 → q.Value ≤ b) → J a b c := fun a b c e1 e2 e3 e4 e5 => by
      rw [hJ]
      show rec (IntKind.i64.wrap ((k : Int) + 1)) _ _ _
      rw [w1]
      exact hrec (a, b, c) ⟨⟨e1, e2⟩, ⟨e3, e4⟩, e5, hr⟩
    have g1 : s1 + ((if m50 x = true then x.Squares * x.Value else 0) + vlS m50 r) = vlS m50 y.1 := g1
    have g3 : s3 + ((if m50 x = true then x.Squares else 0) + sqS m50 r) = n := g3
    dsimp only
    rw [hx]
    have p1 : 0 ≤ x.Squares * x.Value := Int.mul_nonneg (by omega) (by omega)
    have p2 : x.Squares * x.Value ≤ 268435456 * 1048576 := Int.mul_le_mul (by omega) (by omega) (by omega) (by omega)
    refine IFB.mk (fun h => ?_) (fun h => ?_)
    · have h : x.Used = 50 := of_decide_eq_true h
      have hm : m50 x = true := by unfold m50; simpa using h
      rw [if_pos hm] at g1 g3
      have e1 : IntKind.i64.wrap (x.4 * x.5) = x.4 * x.5 := wrap_in (by omega) (by omega)
      have e2 : IntKind.i64.wrap (s1 + x.4 * x.5) = s1 + x.4 * x.5 := wrap_in (by omega) (by omega)
      have e3 : IntKind.i64.wrap (s3 + x.4) = s3 + x.4 := wrap_in (by omega) (by omega)
      rw [e1, e2, e3]
      refine hJ _ _ _ (by omega) (by omega) (by omega) (by omega) fun q hq h2 h3 => ?_
      have := g5 q hq h2 h3
      have := U.yt q hq x hxm h2 h3 h
      show q.Value ≤ min s2 x.Value
      omega
    · have h : ¬ x.Used = 50 := of_decide_eq_false h
      have hm : ¬ m50 x = true := by unfold m50; simpa using h
      rw [if_neg hm] at g1 g3
      exact hJ _ _ _ (by omega) g2 (by omega) g4 g5
  · intro rec s ⟨⟨g1, g2⟩, ⟨g3, g4⟩, g5, _⟩
    obtain ⟨s1, s2, s3⟩ := s
    dsimp only at g1 g2 g3 g4 g5
    have g1 : s1 + 0 = vlS m50 y.1 := g1
    have g3 : s3 + 0 = n := g3
    rw [Int.add_zero] at g1 g3
    subst g1 g3
    show IFB _ _ _
    refine IFB.mk (fun h => absurd (of_decide_eq_true h) (by show ¬ ((y.1.length : Int) < y.1.length); omega)) (fun _ _ => ?_)
    refine loopIx (n := y.1.length) (by omega) (fun rec2 k hk hrec2 => ⟨by omega, IFB.mk (fun h => ?_) (fun _ => hrec2)⟩) ⟨by omega, fun _ => ?_⟩
    · exfalso
      have h : ((ix y.1 (k : Int)).3 = f ∧ ¬ (ix y.1 (k : Int)).6 = 50) ∧ s2 < (ix y.1 (k : Int)).5 := by simpa using h
      have := g5 _ (get_mem (l := y.1) (i := (k : Int)) (by omega) (by omega)) h.1.1 h.1.2
      omega
    · refine LOOP.list z.1 (fun k (s : Int) => ((k : Int), s, ())) (fun u => Int.toNat u.1) (fun k r (s : Int) => s + sumL r = s3 ∧ 0 ≤ s ∧ ∀ q ∈ r, LotOK q ∧ q.Used = 50 ∧ q.User = f) (0 : Int) rfl ⟨by have := U.zs; omega, by decide, U.zo⟩ (fun k s h => by simp) ?_ ?_
      · intro rec3 k x r s hd hk hkl ⟨e1, e2, e3⟩ hrec3
        have hx := ix_of hk
        obtain ⟨x1, x2, x3⟩ := e3 x (by simp)
        unfold LotOK at x1
        have hs2 : 0 ≤ sumL r := by rw [sumL_sq]; exact sqS_nonneg fun q hq => (e3 q (by simp [hq])).1
        have e1 : s + (x.Squares + sumL r) = s3 := e1
        have e2 : 0 ≤ s := e2
        have w1 : IntKind.i64.wrap ((k : Int) + 1) = ((k + 1 : Nat) : Int) := by rw [wrap_in (by omega) (by omega)]; rfl
        have w2 : IntKind.i64.wrap (s + x.4) = s + x.4 := wrap_in (by omega) (by omega)
        show IFB _ _ _
        refine IFB.mk (fun _ => ⟨⟨by omega, by omega⟩, ?_⟩) (fun h => absurd (of_decide_eq_false h) (by omega))
        rw [hx, w1, w2]
        refine IFB.mk (fun h => ?_) (fun _ => hrec3 (s + x.4) ⟨by omega, by omega, fun q hq => e3 q (by simp [hq])⟩)
        exfalso
        simp [x2, x3] at h
      · intro rec3 s ⟨e1, e2, _⟩
        have e1 : s + 0 = s3 := e1
        rw [Int.add_zero] at e1
        subst e1
        show IFB _ _ _
        refine IFB.mk (fun h => absurd (of_decide_eq_true h) (by omega)) (fun _ => ⟨fun _ => by omega, ?_⟩)
        have yv := U.yv
        have wv : IntKind.i64.wrap ((vlS m50 y.1).tdiv 100) = (valueS v1 f s).1 := by
          rw [Int.tdiv_eq_ediv_of_nonneg g2, ← yv]
          exact wrap_in (by omega) (by omega)
        rw [wv, U.ve]
        exact JOIN.mk (IFB.mk (fun _ => by simp) (fun h => by simp [gx_t] at h))

end RE
end Go.Proofs.Ytpnmiieohdkenaa
