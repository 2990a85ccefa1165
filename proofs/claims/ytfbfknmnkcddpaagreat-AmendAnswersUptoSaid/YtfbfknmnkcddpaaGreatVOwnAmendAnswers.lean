/-
  Chapter 36: the reference.
-/
import Derived.Test.YtfbfknmnkcddpaaGreatVCal
import Derived.Test.YtfbfknmnkcddpaaGreatVAmd
import Derived.Test.YtfbfknmnkcddpaaGreatVUp
import Derived.Test.YtfbfknmnkcddpaaGreatVPlain
import Derived.Test.YtfbfknmnkcddpaaGreatVApp
set_option maxRecDepth 100000
set_option linter.unusedVariables false
namespace Go.Proofs.YtfbfknmnkcddpaaGreat
open Go.RowKit
namespace RE
open PL

def rnchk_P (l : List (api_Notice)) (post : Int → Prop) : Prop := ∀ q : Int, q = nchkS l → post q
def rnchk_sp : Spec := ⟨37, false, false, [.sl (.st .api_Notice)], .dat (.int .i64), fun x post => rnchk_P (x.1 : List (api_Notice)) (fun y0 => post (y0, ()))⟩
def rnchk_C : CtxR := ⟨tau, [], lookJ [(0, 9, ⟨[(3, .dat (.int .i64))], [], [8, 9, 10, 11, 14, 15, 16, 17, 4, 18, 19, 20, 21, 25, 26, 30, 31, 35, 36, 40, 41, 45, 22, 23, 24, 27, 28, 29, 32, 33, 34, 37, 38, 39, 42, 43, 44, 12, 13], [], []⟩)]⟩
def rnchk_W (l : List (api_Notice)) (post : Int → Prop) : Prop := (↑l.length : Int) ≤ (9223372036854775807 : Int) → IFB (decide ((100 : Int) < (↑l.length : Int))) (post (1 : Int)) (LOOP [Ty.int IntKind.i64] (fun (rec1 : Int → Prop) (z2 : Int) ↦ (↑l.length : Int) ≤ (9223372036854775807 : Int) → IFB (decide (z2 < (↑l.length : Int))) (((0 : Int) ≤ z2 ∧ z2 < (↑l.length : Int)) ∧ IFB (decide ((ix l z2).1 < (1 : Int)) || decide ((60 : Int) < (ix l z2).1) || decide ((ix l z2).2 < (0 : Int)) || decide ((1125899906842624 : Int) < (ix l z2).2) || decide ((ix l z2).3 < (0 : Int)) || decide ((36864 : Int) < (ix l z2).3)) (post (69 : Int)) (rec1 (IntKind.i64.wrap (z2 + (1 : Int))))) (post (0 : Int))) ((0 : Int), PUnit.unit))
theorem rnchk_w (l : List (api_Notice)) (post : dens (shT rnchk_sp.rs []) → Prop) : rnchk_W l (fun y0 => post (y0, ())) = walkG (callR Tryz.prog rnchk_C (drawR Tryz.prog tau) 8 0) 37 false [tv (.sl (.st .api_Notice)) l] rnchk_sp.rs post := by kernel_rfl
theorem rnchk_of (h : ∀ (l : List (api_Notice)) (post : Int → Prop), rnchk_P l post → rnchk_W l post) : SpecOK Tryz.prog rnchk_sp := SpecOK.of_rules (C := rnchk_C) (dr := drawR Tryz.prog tau) (n := 8) (fk := 0) .nil (drawR_ok tau) fun x post hp => HoldW.of (rnchk_w x.1 post) (h x.1 (fun y0 => post (y0, ())) hp)

theorem loopFL {t : Ty} {n : Nat} (hn : n ≤ 1000000000) {A : Prop} (hA : A) {B : (Int → den t → Prop) → Int → den t → Prop} {K : den t → Prop} (F : Nat → den t) (hB : ∀ (rec : Int → den t → Prop) (k : Nat), k < n → rec (IntKind.i64.wrap ((k : Int) + 1)) (F (k + 1)) → B rec (k : Int) (F k)) (hK : K (F n)) :
    LOOP [Ty.int IntKind.i64, t] (fun (rec : Int → den t → Prop) (z : Int) (s : den t) => A → IFB (decide (z < (n : Int))) (B rec z s) (K s)) ((0 : Int), F 0, PUnit.unit) := by
  refine LOOP.fuel (fun u => ∃ k : Nat, u.1 = (k : Int) ∧ k ≤ n ∧ u.2.1 = F k) (fun u => n - Int.toNat u.1) ⟨0, rfl, Nat.zero_le _, rfl⟩ ?_
  rintro rec ⟨(z : Int), s, ⟨⟩⟩ ⟨k, hz, hk, hs⟩ hrec
  have hz : z = (k : Int) := hz
  have hs : s = F k := hs
  subst hz hs
  intro _
  refine IFB.mk (fun hb => ?_) (fun hb => ?_)
  · have hb : (k : Int) < n := of_decide_eq_true hb
    refine hB _ k (by omega) ?_
    rw [wrapS (by omega)]
    exact hrec (((k + 1 : Nat) : Int), F (k + 1), ()) ⟨k + 1, rfl, by omega, rfl⟩ (by show n - ((k + 1 : Nat) : Int).toNat < n - (k : Int).toNat; omega)
  · have hb : ¬ (k : Int) < n := of_decide_eq_false hb
    have : k = n := by omega
    subst this
    exact hK
/-- A loop over what is found by an invariant. -/
theorem loopIL {t : Ty} {n : Nat} (hn : n ≤ 1000000000) {A : Prop} {B : (Int → den t → Prop) → Int → den t → Prop} {K : den t → Prop} {s0 : den t} (I : Nat → den t → Prop) (h0 : I 0 s0) (hB : ∀ (rec : Int → den t → Prop) (k : Nat) (s : den t), k < n → I k s → (∀ s', I (k + 1) s' → rec (IntKind.i64.wrap ((k : Int) + 1)) s') → B rec (k : Int) s) (hK : ∀ s, I n s → K s) :
    LOOP [Ty.int IntKind.i64, t] (fun (rec : Int → den t → Prop) (z : Int) (s : den t) => A → IFB (decide (z < (n : Int))) (B rec z s) (K s)) ((0 : Int), s0, PUnit.unit) := by
  refine LOOP.fuel (fun u => ∃ k : Nat, u.1 = (k : Int) ∧ k ≤ n ∧ I k u.2.1) (fun u => n - Int.toNat u.1) ⟨0, rfl, Nat.zero_le _, h0⟩ ?_
  rintro rec ⟨(z : Int), s, ⟨⟩⟩ ⟨k, hz, hk, hs⟩ hrec
  have hz : z = (k : Int) := hz
  have hs : I k s := hs
  subst hz
  intro _
  refine IFB.mk (fun hb => ?_) (fun hb => ?_)
  · have hb : (k : Int) < n := of_decide_eq_true hb
    refine hB _ k s (by omega) hs fun s' hs' => ?_
    rw [wrapS (by omega)]
    exact hrec (((k + 1 : Nat) : Int), s', ()) ⟨k + 1, rfl, by omega, hs'⟩ (by show n - ((k + 1 : Nat) : Int).toNat < n - (k : Int).toNat; omega)
  · have hb : ¬ (k : Int) < n := of_decide_eq_false hb
    have : k = n := by omega
    subst this
    exact hK s hs
theorem notR {n : api_Notice} : (decide (n.1 < 1) || decide (60 < n.1) || decide (n.2 < 0) || decide (1125899906842624 < n.2) || decide (n.3 < 0) || decide (36864 < n.3)) = true ↔ ¬ noticeR n := by
  unfold noticeR
  simp only [Bool.or_eq_true, decide_eq_true_eq]
  have e1 : n.1 = n.Farm := rfl
  have e2 : n.2 = n.Parcel := rfl
  have e3 : n.3 = n.Day := rfl
  rw [e1, e2, e3]
  omega
theorem rnchk_ok : SpecOK Tryz.prog rnchk_sp := rnchk_of fun l post hp => by
  have hp := hp _ rfl
  unfold rnchk_W
  unfold nchkS at hp
  intro _
  refine IFB.mk (fun h => ?_) (fun h => ?_)
  · rw [if_pos (by have := of_decide_eq_true h; omega)] at hp; exact hp
  have hl : ¬ 100 < l.length := by have := of_decide_eq_false h; omega
  rw [if_neg hl] at hp
  refine loopCmpL (n := l.length) (by omega) (p := fun j => noticeR (ix l (j : Int))) (fun rec k hk hpre hrec => ⟨by omega, IFB.mk (fun h => ?_) (fun h => hrec ?_)⟩) fun hall => ?_
  · rw [if_pos ⟨_, ix_mem (l := l) (i := (k : Int)) (by omega) (by omega), notR.1 h⟩] at hp
    exact hp
  · apply Classical.byContradiction
    intro hn
    rw [notR.2 hn] at h; cases h
  · rw [if_neg] at hp
    · exact hp
    · rintro ⟨n, hn, hr⟩
      obtain ⟨j, hj, rfl⟩ := List.getElem_of_mem hn
      have := hall j hj
      rw [ix_lt hj] at this
      exact hr this

def rput24_P (l : List (Int)) (n : Int) (post : List (Int) → Prop) : Prop := (l.length ≤ 1000) ∧ ∀ q : List Int, ((l.Pairwise (· < ·) → n ∉ l → q.Pairwise (· < ·) ∧ ∀ x, x ∈ q ↔ x = n ∨ x ∈ l) ∧ q.length = l.length + 1) → post q
def rput24_sp : Spec := ⟨95, false, true, [.sl (.int .i64), .int .i64], .dat (.sl (.int .i64)), fun x post => rput24_P (x.1 : List (Int)) (x.2.1 : Int) (fun y0 => post (y0, ()))⟩
def rput24_C : CtxR := ⟨tau, [], lookJ [(0, 22, ⟨[(5, .own 3 (.int .i64))], [], [35, 36, 37, 38, 39, 40], [0], []⟩), (0, 9, ⟨[(7, .dat (.int .i64)), (5, .own 3 (.int .i64)), (6, .dat .bool)], [], [8, 9, 10, 11, 27, 26, 25, 24, 22, 21, 23, 20, 19, 18, 17, 16, 15, 14, 28, 29, 30, 31, 32, 33, 34, 12, 13], [], []⟩), (0, 16, ⟨[(6, .dat .bool), (5, .own 3 (.int .i64))], [], [14, 15, 16, 17, 18, 19, 20, 23, 21, 22, 24, 25, 26, 27], [0], []⟩)]⟩
def rput24_W (l : List (Int)) (n : Int) (post : List (Int) → Prop) : Prop := LOOP [Ty.int IntKind.i64, (Ty.int IntKind.i64).sl, Ty.bool] (fun (rec1 : Int → List Int → Bool → Prop) (z2 : Int) (z3 : List Int) (z4 : Bool) ↦ (↑l.length : Int) ≤ (9223372036854775807 : Int) → IFB (decide (z2 < (↑l.length : Int))) (JOIN [Ty.bool, (Ty.int IntKind.i64).sl] (fun (y5 : Bool) (y6 : List Int) ↦ ((0 : Int) ≤ z2 ∧ z2 < (↑l.length : Int)) ∧ (y6.length + [ix l z2].length) * (8 : Nat) ≤ (140737488355328 : Nat) ∧ rec1 (IntKind.i64.wrap (z2 + (1 : Int))) (y6 ++ [ix l z2]) y5) fun (J7 : Bool → List Int → Prop) ↦ ((0 : Int) ≤ z2 ∧ z2 < (↑l.length : Int)) ∧ IFB (decide (n < ix l z2) && !z4) ((z3.length + [n].length) * (8 : Nat) ≤ (140737488355328 : Nat) ∧ J7 true (z3 ++ [n])) (J7 z4 z3)) (JOIN [(Ty.int IntKind.i64).sl] (fun (y8 : List Int) ↦ post y8) fun (J9 : List Int → Prop) ↦ IFB (!z4) ((z3.length + [n].length) * (8 : Nat) ≤ (140737488355328 : Nat) ∧ J9 (z3 ++ [n])) (J9 z3))) ((0 : Int), [], false, PUnit.unit)
theorem rput24_w (l : List (Int)) (n : Int) (post : dens (shT rput24_sp.rs []) → Prop) : rput24_W l n (fun y0 => post (y0, ())) = walkG (callR Tryz.prog rput24_C (drawR Tryz.prog tau) 8 0) 95 false [tv (.sl (.int .i64)) l, tv (.int .i64) n] rput24_sp.rs post := by kernel_rfl
theorem rput24_of (h : ∀ (l : List (Int)) (n : Int) (post : List (Int) → Prop), rput24_P l n post → rput24_W l n post) : SpecOK Tryz.prog rput24_sp := SpecOK.of_rules (C := rput24_C) (dr := drawR Tryz.prog tau) (n := 8) (fk := 0) .nil (drawR_ok tau) fun x post hp => HoldW.of (rput24_w x.1 x.2.1 post) (h x.1 x.2.1 (fun y0 => post (y0, ())) hp)

def putT (n : Int) (l : List Int) : Bool × List Int := l.foldl (fun s x => if n < x ∧ s.1 = false then (true, s.2 ++ [n] ++ [x]) else (s.1, s.2 ++ [x])) (false, [])
theorem putT_snoc {n x : Int} {l : List Int} : putT n (l ++ [x]) = if n < x ∧ (putT n l).1 = false then (true, (putT n l).2 ++ [n] ++ [x]) else ((putT n l).1, (putT n l).2 ++ [x]) := by
  unfold putT
  rw [List.foldl_append]; rfl
theorem snocR {α : Type} {P : List α → Prop} (h0 : P []) (h1 : ∀ l x, P l → P (l ++ [x])) (l : List α) : P l := by
  have h : ∀ r : List α, P r.reverse := fun r => by
    induction r with
    | nil => exact h0
    | cons x r ih => rw [List.reverse_cons]; exact h1 _ _ ih
  have := h l.reverse
  rwa [List.reverse_reverse] at this
theorem putT_len {n : Int} (l : List Int) : (putT n l).2.length = l.length + if (putT n l).1 = true then 1 else 0 := by
  refine snocR (P := fun l => (putT n l).2.length = l.length + if (putT n l).1 = true then 1 else 0) rfl (fun l x ih => ?_) l
  rw [putT_snoc]
  split
  · rename_i h
    rw [h.2] at ih
    simp only [List.length_append, List.length_cons, List.length_nil]
    simp at ih ⊢
    omega
  · simp only [List.length_append, List.length_cons, List.length_nil]
    omega
theorem putT_big {n : Int} {l : List Int} : (putT n l).1 = true → ∃ y ∈ l, n < y := by
  refine snocR (P := fun l => (putT n l).1 = true → ∃ y ∈ l, n < y) (fun h => by cases h) (fun l x ih h => ?_) l
  rw [putT_snoc] at h
  split at h
  · rename_i h2; exact ⟨x, by simp, h2.1⟩
  · obtain ⟨y, hy, hny⟩ := ih h
    exact ⟨y, by simp [hy], hny⟩
theorem putT_ok {n : Int} (l : List Int) : l.Pairwise (· < ·) → n ∉ l → (putT n l).2.Pairwise (· < ·) ∧ (∀ x, x ∈ (putT n l).2 ↔ (x = n ∧ (putT n l).1 = true) ∨ x ∈ l) ∧ ((putT n l).1 = false → ∀ x ∈ l, x < n) := by
  refine snocR (P := fun l => l.Pairwise (· < ·) → n ∉ l → (putT n l).2.Pairwise (· < ·) ∧ (∀ x, x ∈ (putT n l).2 ↔ (x = n ∧ (putT n l).1 = true) ∨ x ∈ l) ∧ ((putT n l).1 = false → ∀ x ∈ l, x < n)) (fun _ _ => ⟨List.Pairwise.nil, fun x => by simp [putT], fun _ x hx => by cases hx⟩) (fun l x ih hs hn => ?_) l
  rw [List.pairwise_append] at hs
  obtain ⟨s1, _, s3⟩ := hs
  obtain ⟨i1, i2, i3⟩ := ih s1 fun h => hn (by simp [h])
  have hx : x ≠ n := fun e => hn (by simp [e])
  have hlx : ∀ y ∈ l, y < x := fun y hy => s3 y hy x (by simp)
  rw [putT_snoc]
  split
  · rename_i h
    obtain ⟨h1, h2⟩ := h
    have i3 := i3 h2
    rw [h2] at i2
    refine ⟨?_, fun z => ?_, fun h => by cases h⟩
    · show (((putT n l).2 ++ [n]) ++ [x]).Pairwise (· < ·)
      rw [List.append_assoc, List.pairwise_append]
      refine ⟨i1, by simp [h1], fun a ha b hb => ?_⟩
      have hal : a ∈ l := by have := (i2 a).1 ha; simpa using this
      simp at hb
      rcases hb with rfl | rfl
      · exact i3 a hal
      · exact hlx a hal
    · show z ∈ ((putT n l).2 ++ [n]) ++ [x] ↔ _
      simp only [List.mem_append, List.mem_singleton, i2]
      simp
      constructor
      · rintro ((h | h) | h)
        · exact .inr (.inl h)
        · exact .inl h
        · exact .inr (.inr h)
      · rintro (h | h | h)
        · exact .inl (.inr h)
        · exact .inl (.inl h)
        · exact .inr h
  · rename_i h
    refine ⟨?_, fun z => ?_, fun h2 y hy => ?_⟩
    · show ((putT n l).2 ++ [x]).Pairwise (· < ·)
      rw [List.pairwise_append]
      refine ⟨i1, List.pairwise_singleton _ _, fun a ha b hb => ?_⟩
      rw [List.mem_singleton] at hb; subst hb
      rcases (i2 a).1 ha with ⟨rfl, h2⟩ | ha
      · apply Classical.byContradiction
        intro hlt
        -- a = n is ahead of x: n was put behind something greater than n, which is in l, so below x
        have : ∃ y ∈ l, a < y := putT_big h2
        obtain ⟨y, hy, hya⟩ := this
        have := hlx y hy
        omega
      · exact hlx a ha
    · show z ∈ (putT n l).2 ++ [x] ↔ (z = n ∧ (putT n l).1 = true) ∨ z ∈ l ++ [x]
      simp only [List.mem_append, List.mem_singleton, i2]
      constructor
      · rintro ((h | h) | h)
        · exact .inl h
        · exact .inr (.inl h)
        · exact .inr (.inr h)
      · rintro (h | h | h)
        · exact .inl (.inl h)
        · exact .inl (.inr h)
        · exact .inr h
    · have h2 : (putT n l).1 = false := h2
      rcases List.mem_append.1 hy with hy | hy
      · exact i3 h2 y hy
      · rw [List.mem_singleton] at hy; subst hy
        have : ¬ n < y := fun q => h ⟨q, h2⟩
        omega
theorem rput24_ok : SpecOK Tryz.prog rput24_sp := rput24_of fun l n post hp => by
  obtain ⟨hl, hp⟩ := hp
  unfold rput24_W
  refine LOOP.fuel (fun u => ∃ k : Nat, u.1 = (k : Int) ∧ k ≤ l.length ∧ u.2.1 = (putT n (l.take k)).2 ∧ u.2.2.1 = (putT n (l.take k)).1) (fun u => l.length - Int.toNat u.1) ⟨0, rfl, Nat.zero_le _, rfl, rfl⟩ ?_
  rintro rec ⟨(z : Int), (s : List Int), (b : Bool), ⟨⟩⟩ ⟨k, hz, hk, hs, hb⟩ hrec
  have hz : z = (k : Int) := hz
  have hs : s = (putT n (l.take k)).2 := hs
  have hb : b = (putT n (l.take k)).1 := hb
  subst hz hs hb
  intro _
  have hlen := putT_len (n := n) (l.take k)
  have hlen2 : (putT n (l.take k)).2.length ≤ 1001 := by
    rw [hlen, List.length_take]
    split <;> omega
  refine IFB.mk (fun hc => ?_) (fun hc => ?_)
  · have hc : (k : Int) < l.length := of_decide_eq_true hc
    have hkl : k < l.length := by omega
    have hr : ∀ (b' : Bool) (s' : List Int), putT n (l.take (k + 1)) = (b', s') → rec (IntKind.i64.wrap ((k : Int) + 1)) s' b' := fun b' s' e => by
      rw [wrapS (by omega)]
      exact hrec (((k + 1 : Nat) : Int), s', b', ()) ⟨k + 1, rfl, by omega, by rw [e], by rw [e]⟩ (by show l.length - ((k + 1 : Nat) : Int).toNat < l.length - (k : Int).toNat; omega)
    rw [List.take_succ_eq_append_getElem hkl, putT_snoc, ← ix_lt hkl] at hr
    refine JOIN.opq fun (J7 : Bool → List Int → Prop) hJ7 => ⟨by omega, IFB.mk (fun h => ?_) (fun h => ?_)⟩
    · rw [Bool.and_eq_true, decide_eq_true_eq, Bool.not_eq_true'] at h
      refine ⟨by simp only [List.length_cons, List.length_nil]; omega, ?_⟩
      rw [hJ7]
      refine ⟨by omega, by simp only [List.length_append, List.length_cons, List.length_nil]; omega, ?_⟩
      exact hr _ _ (if_pos h)
    · have h : ¬ (n < ix l (k : Int) ∧ (putT n (l.take k)).1 = false) := fun q => by
        rw [decide_eq_true q.1, q.2] at h; cases h
      rw [hJ7]
      refine ⟨by omega, by simp only [List.length_cons, List.length_nil]; omega, ?_⟩
      exact hr _ _ (if_neg h)
  · have hc : ¬ (k : Int) < l.length := of_decide_eq_false hc
    have : k = l.length := by omega
    subst this
    rw [List.take_length] at hlen hlen2 ⊢
    refine JOIN.opq fun (J9 : List Int → Prop) hJ9 => IFB.mk (fun h => ⟨by simp only [List.length_cons, List.length_nil]; omega, ?_⟩) (fun h => ?_)
    · have h : (putT n l).1 = false := by simpa using h
      rw [hJ9]
      rw [h] at hlen
      refine hp _ ⟨fun h1 h2 => ?_, by rw [List.length_append, hlen]; rfl⟩
      obtain ⟨q1, q2, q3⟩ := putT_ok l h1 h2
      rw [h] at q2
      have q2 : ∀ x, x ∈ (putT n l).2 ↔ x ∈ l := fun x => by rw [q2]; simp
      refine ⟨?_, fun x => by rw [List.mem_append, q2, List.mem_singleton]; exact Or.comm⟩
      rw [List.pairwise_append]
      refine ⟨q1, List.pairwise_singleton _ _, fun a ha b hb => ?_⟩
      rw [List.mem_singleton] at hb; subst hb
      exact q3 h a ((q2 a).1 ha)
    · have h : (putT n l).1 = true := by simpa using h
      rw [hJ9]
      rw [h] at hlen
      refine hp _ ⟨fun h1 h2 => ?_, by rw [hlen]; rfl⟩
      obtain ⟨q1, q2, _⟩ := putT_ok l h1 h2
      rw [h] at q2
      exact ⟨q1, fun x => by rw [q2]; simp⟩

def rann_P (l : List (api_Notice)) (f : Int) (d : Int) (post : List (Int) → Prop) : Prop := ∀ q : List Int, q = annS l f d → post q
def rann_sp : Spec := ⟨40, false, true, [.sl (.st .api_Notice), .int .i64, .int .i64], .dat (.sl (.int .i64)), fun x post => rann_P (x.1 : List (api_Notice)) (x.2.1 : Int) (x.2.2.1 : Int) (fun y0 => post (y0, ()))⟩
def rann_C : CtxR := ⟨tau, [rule1 rnchk_sp, rule1 rhas_sp, rule1 rput24_sp], lookJ [(0, 11, ⟨[(8, .dat (.int .i64)), (7, .dat (.sl (.int .i64)))], [], [12, 13, 14, 15, 50, 49, 48, 47, 46, 45, 44, 42, 41, 40, 39, 38, 37, 36, 35, 32, 31, 30, 29, 28, 27, 26, 43, 34, 33, 25, 24, 23, 22, 21, 20, 19, 18, 16, 17], [], []⟩), (0, 12, ⟨[(7, .dat (.sl (.int .i64)))], [], [18, 19, 20, 21, 22, 23, 24, 25, 33, 34, 43, 26, 27, 28, 29, 30, 31, 32, 35, 36, 37, 38, 39, 40, 41, 42, 44, 45, 46, 47, 48, 49, 50], [], []⟩)]⟩
def rann_W (l : List (api_Notice)) (f : Int) (d : Int) (post : List (Int) → Prop) : Prop := ∀ (v1 : Int), v1 = nchkS l → IFB (!decide (v1 = (0 : Int))) (post []) (LOOP [Ty.int IntKind.i64, (Ty.int IntKind.i64).sl] (fun (rec2 : Int → List Int → Prop) (z3 : Int) (z4 : List Int) ↦ (↑l.length : Int) ≤ (9223372036854775807 : Int) → IFB (decide (z3 < (↑l.length : Int))) (JOIN [(Ty.int IntKind.i64).sl] (fun (y5 : List Int) ↦ rec2 (IntKind.i64.wrap (z3 + (1 : Int))) y5) fun (J6 : List Int → Prop) ↦ ((0 : Int) ≤ z3 ∧ z3 < (↑l.length : Int)) ∧ (gx true (decide ((ix l z3).1 = f)) = true → (0 : Int) ≤ z3 ∧ z3 < (↑l.length : Int)) ∧ (gx true (decide ((ix l z3).1 = f) && decide ((ix l z3).3 ≤ d)) = true → (0 : Int) ≤ z3 ∧ z3 < (↑l.length : Int)) ∧ JOIN [Ty.bool] (fun (y7 : Bool) ↦ IFB (decide ((ix l z3).1 = f) && decide ((ix l z3).3 ≤ d) && !y7) (((0 : Int) ≤ z3 ∧ z3 < (↑l.length : Int)) ∧ z4.length ≤ (1000 : Nat) ∧ ∀ (v8 : List Int), (List.Pairwise (fun (x1 x2 : Int) ↦ x1 < x2) z4 → ((ix l z3).2 ∈ z4 → False) → List.Pairwise (fun (x1 x2 : Int) ↦ x1 < x2) v8 ∧ ∀ (x : Int), x ∈ v8 ↔ x = (ix l z3).2 ∨ x ∈ z4) ∧ v8.length = z4.length + (1 : Nat) → J6 v8) (J6 z4)) fun (J9 : Bool → Prop) ↦ IFB (gx true (decide ((ix l z3).1 = f) && decide ((ix l z3).3 ≤ d))) (z4.length ≤ (1000000000 : Nat) ∧ ∀ (v10 : Bool), (v10 = true ↔ (ix l z3).2 ∈ z4) → J9 v10) (J9 false)) (post z4)) ((0 : Int), [], PUnit.unit))
theorem rann_w (l : List (api_Notice)) (f : Int) (d : Int) (post : dens (shT rann_sp.rs []) → Prop) : rann_W l f d (fun y0 => post (y0, ())) = walkG (callR Tryz.prog rann_C (drawR Tryz.prog tau) 8 0) 40 false [tv (.sl (.st .api_Notice)) l, tv (.int .i64) f, tv (.int .i64) d] rann_sp.rs post := by kernel_rfl
theorem rann_of (h : ∀ (l : List (api_Notice)) (f : Int) (d : Int) (post : List (Int) → Prop), rann_P l f d post → rann_W l f d post) : SpecOK Tryz.prog rann_sp := SpecOK.of_rules (C := rann_C) (dr := drawR Tryz.prog tau) (n := 8) (fk := 0) (.cons (rule1_ok rnchk_ok) (.cons (rule1_ok rhas_ok) (.cons (rule1_ok rput24_ok) .nil))) (drawR_ok tau) fun x post hp => HoldW.of (rann_w x.1 x.2.1 x.2.2.1 post) (h x.1 x.2.1 x.2.2.1 (fun y0 => post (y0, ())) hp)

theorem annS_ok {l : List api_Notice} {f d : Int} (h : nchkS l = 0) : (annS l f d).Pairwise (· < ·) ∧ ∀ x, x ∈ annS l f d ↔ ∃ n ∈ l, annF f d n = true ∧ n.Parcel = x := by
  unfold annS
  rw [if_neg (by simp [h])]
  refine ⟨(uniqI_ok _).1, fun x => ?_⟩
  rw [(uniqI_ok _).2, List.mem_map]
  constructor
  · rintro ⟨n, hn, e⟩; obtain ⟨q1, q2⟩ := List.mem_filter.1 hn; exact ⟨n, q1, q2, e⟩
  · rintro ⟨n, q1, q2, e⟩; exact ⟨n, List.mem_filter.2 ⟨q1, q2⟩, e⟩
theorem rann_ok : SpecOK Tryz.prog rann_sp := rann_of fun l f d post hp => by
  have hp := hp _ rfl
  unfold rann_W
  rintro q rfl
  refine IFB.mk (fun h => ?_) (fun h => ?_)
  · have h : nchkS l ≠ 0 := by simpa using h
    unfold annS at hp
    rw [if_pos h] at hp
    exact hp
  have h : nchkS l = 0 := by simpa using h
  have hl : l.length ≤ 100 := by
    unfold nchkS at h
    apply Classical.byContradiction
    intro hn
    rw [if_pos (by omega)] at h; cases h
  refine loopIL (t := .sl (.int .i64)) (n := l.length) (by omega) (fun k (s : List Int) => s.Pairwise (· < ·) ∧ s.length ≤ k ∧ ∀ x, x ∈ s ↔ ∃ j : Nat, j < k ∧ annF f d (ix l (j : Int)) = true ∧ (ix l (j : Int)).Parcel = x) ⟨List.Pairwise.nil, Nat.le_refl _, fun x => ⟨fun h => (by cases h), fun ⟨j, hj, _⟩ => (by omega)⟩⟩ (fun (rec : Int → List Int → Prop) k (s : List Int) hk hI hrec => JOIN.opq fun (J6 : List Int → Prop) hJ6 => ⟨by omega, fun _ => by omega, fun _ => by omega, ?_⟩) (fun (s : List Int) hI => ?_)
  · obtain ⟨s1, s2, s3⟩ := hI
    have hJ : ∀ s' : List Int, (s'.Pairwise (· < ·) ∧ s'.length ≤ k + 1 ∧ ∀ x, x ∈ s' ↔ ∃ j : Nat, j < k + 1 ∧ annF f d (ix l (j : Int)) = true ∧ (ix l (j : Int)).Parcel = x) → J6 s' := fun s' h => by rw [hJ6]; exact hrec s' h
    have hskip : (annF f d (ix l (k : Int)) = true → (ix l (k : Int)).Parcel ∈ s) → J6 s := fun hq => hJ s ⟨s1, by omega, fun x => by
      rw [s3]
      constructor
      · rintro ⟨j, hj, q⟩; exact ⟨j, by omega, q⟩
      · rintro ⟨j, hj, q1, q2⟩
        by_cases e : j = k
        · subst e
          have := hq q1
          rw [q2] at this
          exact (s3 x).1 this
        · exact ⟨j, by omega, q1, q2⟩⟩
    refine JOIN.opq fun (J9 : Bool → Prop) hJ9 => IFB.mk (fun hc => ⟨by omega, fun b hb => ?_⟩) (fun hc => ?_)
    · have hc : annF f d (ix l (k : Int)) = true := hc
      rw [hJ9]
      refine IFB.mk (fun h2 => ⟨by omega, by omega, fun v ⟨hv, hvl⟩ => ?_⟩) (fun h2 => hskip fun _ => ?_)
      · have hnb : ¬ (ix l (k : Int)).2 ∈ s := fun q => by
          rw [hb.2 q] at h2
          simp at h2
        obtain ⟨v1, v2⟩ := hv s1 hnb
        refine hJ v ⟨v1, by omega, fun x => ?_⟩
        rw [v2, s3]
        constructor
        · rintro (rfl | ⟨j, hj, q⟩)
          · exact ⟨k, by omega, hc, rfl⟩
          · exact ⟨j, by omega, q⟩
        · rintro ⟨j, hj, q1, q2⟩
          by_cases e : j = k
          · subst e; exact .inl q2.symm
          · exact .inr ⟨j, by omega, q1, q2⟩
      · cases hbb : b
        · exfalso
          have h2' : (annF f d (ix l (k : Int)) && !b) = false := h2
          rw [hc, hbb] at h2'
          cases h2'
        · exact hb.1 hbb
    · have hc : annF f d (ix l (k : Int)) = false := hc
      rw [hJ9]
      refine IFB.mk (fun h2 => ?_) (fun h2 => hskip fun q => by rw [hc] at q; cases q)
      exfalso
      have h2' : (annF f d (ix l (k : Int)) && !false) = true := h2
      rw [hc] at h2'
      cases h2'
  · obtain ⟨s1, _, s3⟩ := hI
    obtain ⟨a1, a2⟩ := annS_ok (f := f) (d := d) h
    have e : s = annS l f d := inc_uniq s1 a1 fun x => by
      rw [s3, a2]
      constructor
      · rintro ⟨j, hj, q⟩; exact ⟨_, ix_mem (l := l) (i := (j : Int)) (by omega) (by omega), q⟩
      · rintro ⟨n, hn, q⟩
        obtain ⟨j, hj, rfl⟩ := List.getElem_of_mem hn
        exact ⟨j, hj, by rw [ix_lt hj]; exact q⟩
    rw [e]; exact hp

def rof36_P (l : List (api_Line)) (p : Int) (post : List (api_Line) → Prop) : Prop := (l.length ≤ 2000000) ∧ post (ofL l p)
def rof36_sp : Spec := ⟨99, false, true, [.sl (.st .api_Line), .int .i64], .dat (.sl (.st .api_Line)), fun x post => rof36_P (x.1 : List (api_Line)) (x.2.1 : Int) (fun y0 => post (y0, ()))⟩
def rof36_C : CtxR := ⟨tau, [], lookJ [(0, 7, ⟨[(6, .dat (.int .i64)), (5, .own 46 (.st .api_Line))], [], [7, 8, 9, 10, 26, 25, 24, 23, 22, 21, 20, 19, 18, 17, 16, 15, 14, 13, 11, 12], [], []⟩), (0, 8, ⟨[(5, .own 46 (.st .api_Line))], [], [13, 14, 15, 16, 17, 18, 19, 20, 21, 22, 23, 24, 25, 26], [0], []⟩)]⟩
def rof36_W (l : List (api_Line)) (p : Int) (post : List (api_Line) → Prop) : Prop := LOOP [Ty.int IntKind.i64, (Ty.st Sn.api_Line).sl] (fun (rec1 : Int → List api_Line → Prop) (z2 : Int) (z3 : List api_Line) ↦ (↑l.length : Int) ≤ (9223372036854775807 : Int) → IFB (decide (z2 < (↑l.length : Int))) (JOIN [(Ty.st Sn.api_Line).sl] (fun (y4 : List api_Line) ↦ rec1 (IntKind.i64.wrap (z2 + (1 : Int))) y4) fun (J5 : List api_Line → Prop) ↦ ((0 : Int) ≤ z2 ∧ z2 < (↑l.length : Int)) ∧ IFB (decide ((ix l z2).1 = p)) (((0 : Int) ≤ z2 ∧ z2 < (↑l.length : Int)) ∧ (z3.length + [{ Parcel := (ix l z2).1, Region := { Rects := (ix l z2).2.1 : api_Region }, Crop := (ix l z2).3, Schemes := (ix l z2).4 : api_Line }].length) * (48 : Nat) ≤ (140737488355328 : Nat) ∧ J5 (z3 ++ [{ Parcel := (ix l z2).1, Region := { Rects := (ix l z2).2.1 : api_Region }, Crop := (ix l z2).3, Schemes := (ix l z2).4 : api_Line }])) (J5 z3)) (post z3)) ((0 : Int), [], PUnit.unit)
theorem rof36_w (l : List (api_Line)) (p : Int) (post : dens (shT rof36_sp.rs []) → Prop) : rof36_W l p (fun y0 => post (y0, ())) = walkG (callR Tryz.prog rof36_C (drawR Tryz.prog tau) 8 0) 99 false [tv (.sl (.st .api_Line)) l, tv (.int .i64) p] rof36_sp.rs post := by kernel_rfl
theorem rof36_of (h : ∀ (l : List (api_Line)) (p : Int) (post : List (api_Line) → Prop), rof36_P l p post → rof36_W l p post) : SpecOK Tryz.prog rof36_sp := SpecOK.of_rules (C := rof36_C) (dr := drawR Tryz.prog tau) (n := 8) (fk := 0) .nil (drawR_ok tau) fun x post hp => HoldW.of (rof36_w x.1 x.2.1 post) (h x.1 x.2.1 (fun y0 => post (y0, ())) hp)

theorem rof36_ok : SpecOK Tryz.prog rof36_sp := rof36_of fun l p post hp => by
  obtain ⟨hl, hp⟩ := hp
  unfold rof36_W
  refine LOOP.fuel (fun u => ∃ k : Nat, u.1 = (k : Int) ∧ k ≤ l.length ∧ u.2.1 = filtK (α := api_Line) (fun x => decide (x.Parcel = p)) l k) (fun u => l.length - Int.toNat u.1) ⟨0, rfl, Nat.zero_le _, rfl⟩ ?_
  rintro rec ⟨(z : Int), (s : List api_Line), ⟨⟩⟩ ⟨k, hz, hk, hs⟩ hrec
  have hz : z = (k : Int) := hz
  have hs : s = filtK (α := api_Line) (fun x => decide (x.Parcel = p)) l k := hs
  subst hz hs
  intro _
  refine IFB.mk (fun hc => ?_) (fun hc => ?_)
  · have hc : (k : Int) < l.length := of_decide_eq_true hc
    have hkl : k < l.length := by omega
    have hr : rec (IntKind.i64.wrap ((k : Int) + 1)) (filtK (α := api_Line) (fun x => decide (x.Parcel = p)) l (k + 1)) := by
      rw [wrapS (by omega)]
      exact hrec (((k + 1 : Nat) : Int), _, ()) ⟨k + 1, rfl, by omega, rfl⟩ (by show l.length - ((k + 1 : Nat) : Int).toNat < l.length - (k : Int).toNat; omega)
    rw [filtK_succ hkl] at hr
    have hlen : (filtK (fun x : api_Line => decide (x.Parcel = p)) l k).length ≤ k := filtK_len
    refine JOIN.opq fun (J5 : List api_Line → Prop) hJ5 => ⟨by omega, IFB.mk (fun h => ⟨by omega, by simp only [List.length_cons, List.length_nil]; omega, ?_⟩) (fun h => ?_)⟩
    · rw [if_pos h] at hr
      rw [hJ5]; exact hr
    · rw [if_neg (by show ¬ decide ((ix l (k : Int)).1 = p) = true; rw [h]; simp)] at hr
      rw [hJ5]; exact hr
  · have hc : ¬ (k : Int) < l.length := of_decide_eq_false hc
    have : k = l.length := by omega
    subst this
    rw [filtK_all]
    exact hp

def rlock_P (a : api_Application) (v : api_Version) (l : List (api_Notice)) (post : Int → Bool → Prop) : Prop := (bigA a ∧ bigV v) ∧ ∀ (p : Int) (q : Bool), (p, q) = lockS a v l → post p q
def rlock_sp : Spec := ⟨43, false, false, [.st .api_Application, .st .api_Version, .sl (.st .api_Notice)], .tup [.dat (.int .i64), .dat (.bool)], fun x post => rlock_P (x.1 : api_Application) (x.2.1 : api_Version) (x.2.2.1 : List (api_Notice)) (fun y0 y1 => post (y0, y1, ()))⟩
def rlock_C : CtxR := ⟨tau, [rule1 rann_sp, rule1 rof36_sp, rule1 rsml_sp], lookJ [(0, 13, ⟨[(10, .dat (.int .i64))], [], [29, 30, 31, 32, 49, 48, 47, 46, 45, 44, 43, 42, 41, 40, 39, 38, 37, 36, 35, 50, 33, 34], [], []⟩), (0, 1000008, ⟨[(50, .dat .bool)], [], [35, 36, 37, 38, 39, 40, 41, 42, 43, 44, 45, 46, 47, 48, 49], [], []⟩)]⟩
def rlock_W (a : api_Application) (v : api_Version) (l : List (api_Notice)) (post : Int → Bool → Prop) : Prop := (↑a.3.length : Int) ≤ (9223372036854775807 : Int) → IFB (decide ((↑a.3.length : Int) = (0 : Int))) (post (0 : Int) false) ((↑a.3.length : Int) ≤ (9223372036854775807 : Int) → ((0 : Int) ≤ IntKind.i64.wrap ((↑a.3.length : Int) - (1 : Int)) ∧ IntKind.i64.wrap ((↑a.3.length : Int) - (1 : Int)) < (↑a.3.length : Int)) ∧ ∀ (v1 : List Int), v1 = annS l a.1 v.1 → LOOP [Ty.int IntKind.i64] (fun (rec2 : Int → Prop) (z3 : Int) ↦ (↑v1.length : Int) ≤ (9223372036854775807 : Int) → IFB (decide (z3 < (↑v1.length : Int))) (JOIN [Ty.bool] (fun (y4 : Bool) ↦ IFB y4 (((0 : Int) ≤ z3 ∧ z3 < (↑v1.length : Int)) ∧ post (ix v1 z3) true) (rec2 (IntKind.i64.wrap (z3 + (1 : Int))))) fun (J5 : Bool → Prop) ↦ ((0 : Int) ≤ z3 ∧ z3 < (↑v1.length : Int)) ∧ ((0 : Int) ≤ z3 ∧ z3 < (↑v1.length : Int)) ∧ (ix a.3 (IntKind.i64.wrap ((↑a.3.length : Int) - (1 : Int)))).2.length ≤ (2000000 : Nat) ∧ v.2.length ≤ (2000000 : Nat) ∧ ((ofL (ix a.3 (IntKind.i64.wrap ((↑a.3.length : Int) - (1 : Int)))).2 (ix v1 z3)).length ≤ (1000000000 : Nat) ∧ ∀ (v6 : api_Line), v6 ∈ ofL (ix a.3 (IntKind.i64.wrap ((↑a.3.length : Int) - (1 : Int)))).2 (ix v1 z3) → v6.2.1.length ≤ (1000000000 : Nat)) ∧ ∀ (v7 : Bool), (v7 = true ↔ ofL (ix a.3 (IntKind.i64.wrap ((↑a.3.length : Int) - (1 : Int)))).2 (ix v1 z3) = ofL v.2 (ix v1 z3)) → J5 !v7) (post (0 : Int) false)) ((0 : Int), PUnit.unit))
theorem rlock_w (a : api_Application) (v : api_Version) (l : List (api_Notice)) (post : dens (shT rlock_sp.rs []) → Prop) : rlock_W a v l (fun y0 y1 => post (y0, y1, ())) = walkG (callR Tryz.prog rlock_C (drawR Tryz.prog tau) 8 0) 43 false [tv (.st .api_Application) a, tv (.st .api_Version) v, tv (.sl (.st .api_Notice)) l] rlock_sp.rs post := by kernel_rfl
theorem rlock_of (h : ∀ (a : api_Application) (v : api_Version) (l : List (api_Notice)) (post : Int → Bool → Prop), rlock_P a v l post → rlock_W a v l post) : SpecOK Tryz.prog rlock_sp := SpecOK.of_rules (C := rlock_C) (dr := drawR Tryz.prog tau) (n := 8) (fk := 0) (.cons (rule1_ok rann_ok) (.cons (rule1_ok rof36_ok) (.cons (rule1_ok rsml_ok) .nil))) (drawR_ok tau) fun x post hp => HoldW.of (rlock_w x.1 x.2.1 x.2.2.1 post) (h x.1 x.2.1 x.2.2.1 (fun y0 y1 => post (y0, y1, ())) hp)

theorem annS_len9 {l : List api_Notice} {f d : Int} : (annS l f d).length ≤ 1000000000 := by
  by_cases h : nchkS l = 0
  · have hl : l.length ≤ 100 := by
      unfold nchkS at h
      apply Classical.byContradiction
      intro hn
      rw [if_pos (by omega)] at h; cases h
    have : (annS l f d).length ≤ l.length := by
      unfold annS
      rw [if_neg (by simp [h])]
      refine Nat.le_trans (uniqI_len _) ?_
      rw [List.length_map]
      exact List.length_filter_le _ _
    omega
  · unfold annS
    rw [if_pos h]; simp

theorem rlock_ok : SpecOK Tryz.prog rlock_sp := rlock_of fun a v l post hp => by
  obtain ⟨⟨⟨ha1, ha2⟩, hv1, hv2⟩, hp⟩ := hp
  have hp := hp (lockS a v l).1 (lockS a v l).2 rfl
  obtain ⟨f, y, vs⟩ := a
  obtain ⟨dv, lv⟩ := v
  unfold lockS at hp
  unfold rlock_W
  dsimp only at hp ha1 ha2 hv1 hv2 ⊢
  intro _
  refine IFB.mk (fun h => ?_) (fun h _ => ?_)
  · have h : (vs.length : Int) = 0 := by simpa using h
    rw [if_pos (List.eq_nil_of_length_eq_zero (by omega))] at hp
    exact hp
  have h : ¬ (vs.length : Int) = 0 := by simpa using h
  rw [if_neg (fun e => h (by rw [e]; rfl))] at hp
  rw [wrap_in (z := (vs.length : Int) - 1) (by omega) (by omega), show (vs.length : Int) - 1 = ((vs.length - 1 : Nat) : Int) by omega]
  have hm : ix vs ((vs.length - 1 : Nat) : Int) ∈ vs := ix_mem (by omega) (by omega)
  have hb := ha2 _ hm
  refine ⟨by omega, ?_⟩
  generalize ix vs ((vs.length - 1 : Nat) : Int) = L at *
  rintro q rfl
  have hal : (annS l f dv).length ≤ 1000000000 := annS_len9
  generalize annS l f dv = ps at *
  have hb1 : L.2.length ≤ 2000000 := hb.1
  have hb2 : ∀ x ∈ L.2, x.2.1.length ≤ 2000000 := hb.2
  refine loopCmpL (n := ps.length) hal (p := fun j => ofL L.Lines (ix ps (j : Int)) = ofL lv (ix ps (j : Int))) (fun rec k hk hpre hrec => JOIN.opq fun (J5 : Bool → Prop) hJ5 => ⟨by omega, by omega, hb1, hv1, ⟨Nat.le_trans ofL_len (Nat.le_trans hb1 (by omega)), fun x hx => Nat.le_trans (hb2 x (ofL_mem.1 hx).1) (by omega)⟩, fun q hq => ?_⟩) fun hall => ?_
  · rw [hJ5]
    refine IFB.mk (fun h2 => ⟨by omega, ?_⟩) (fun h2 => hrec (hq.1 (by simpa using h2)))
    have hne : ¬ ofL L.Lines (ix ps (k : Int)) = ofL lv (ix ps (k : Int)) := fun e => by rw [hq.2 e] at h2; cases h2
    have hf : ps.find? (fun p => decide (ofL L.Lines p ≠ ofL lv p)) = some (ix ps (k : Int)) := by
      rw [List.find?_eq_some_iff_getElem]
      refine ⟨by simpa using hne, k, hk, (ix_lt hk).symm, fun j hj => ?_⟩
      have := hpre j hj
      rw [ix_lt (by omega)] at this
      simp [this]
    rw [hf] at hp
    exact hp
  · have hf : ps.find? (fun p => decide (ofL L.Lines p ≠ ofL lv p)) = none := by
      rw [List.find?_eq_none]
      intro p hpm
      obtain ⟨j, hj, rfl⟩ := List.getElem_of_mem hpm
      have := hall j hj
      rw [ix_lt hj] at this
      simp [this]
    rw [hf] at hp
    exact hp

def ramd36_P (a : api_Application) (v : api_Version) (o : Int) (la : Int) (e : Int) (l : List (api_Notice)) (post : api_Application → Int → Prop) : Prop := (bigA a ∧ bigV v) ∧ ∀ (b : api_Application) (q : Int), (b, q) = namdS a v o la e l → post b q
def ramd36_sp : Spec := ⟨45, false, true, [.st .api_Application, .st .api_Version, .int .i64, .int .i64, .int .i64, .sl (.st .api_Notice)], .tup [.dat (.st .api_Application), .dat (.int .i64)], fun x post => ramd36_P (x.1 : api_Application) (x.2.1 : api_Version) (x.2.2.1 : Int) (x.2.2.2.1 : Int) (x.2.2.2.2.1 : Int) (x.2.2.2.2.2.1 : List (api_Notice)) (fun y0 y1 => post (y0, y1, ()))⟩
def ramd36_C : CtxR := ⟨tau, [rule1 rnchk_sp, rule1 rlock_sp, rule1 rame_sp], lookJ []⟩
def ramd36_W (a : api_Application) (v : api_Version) (o : Int) (la : Int) (e : Int) (l : List (api_Notice)) (post : api_Application → Int → Prop) : Prop := ∀ (v1 : Int), v1 = nchkS l → IFB (!decide (v1 = (0 : Int))) (post { Farm := a.1, Year := a.2, Versions := a.3 : api_Application } v1) (((a.3.length ≤ (1999999 : Nat) ∧ ∀ (v2 : api_Version), v2 ∈ a.3 → v2.2.length ≤ (2000000 : Nat) ∧ ∀ (v3 : api_Line), v3 ∈ v2.2 → v3.2.1.length ≤ (2000000 : Nat)) ∧ v.2.length ≤ (2000000 : Nat) ∧ ∀ (v4 : api_Line), v4 ∈ v.2 → v4.2.1.length ≤ (2000000 : Nat)) ∧ ∀ (v5 : Int) (v6 : Bool), (v5, v6) = lockS { Farm := a.1, Year := a.2, Versions := a.3 : api_Application } { Day := v.1, Lines := v.2 : api_Version } l → IFB v6 (post { Farm := a.1, Year := a.2, Versions := a.3 : api_Application } (70 : Int)) (a.3.length ≤ (1999999 : Nat) ∧ ∀ (v7 : api_Application) (v8 : Int), (v7, v8) = amendS { Farm := a.1, Year := a.2, Versions := a.3 : api_Application } { Day := v.1, Lines := v.2 : api_Version } o la e → post { Farm := v7.1, Year := v7.2, Versions := v7.3 : api_Application } v8))
theorem ramd36_w (a : api_Application) (v : api_Version) (o : Int) (la : Int) (e : Int) (l : List (api_Notice)) (post : dens (shT ramd36_sp.rs []) → Prop) : ramd36_W a v o la e l (fun y0 y1 => post (y0, y1, ())) = walkG (callR Tryz.prog ramd36_C (drawR Tryz.prog tau) 8 0) 45 false [tv (.st .api_Application) a, tv (.st .api_Version) v, tv (.int .i64) o, tv (.int .i64) la, tv (.int .i64) e, tv (.sl (.st .api_Notice)) l] ramd36_sp.rs post := by kernel_rfl
theorem ramd36_of (h : ∀ (a : api_Application) (v : api_Version) (o : Int) (la : Int) (e : Int) (l : List (api_Notice)) (post : api_Application → Int → Prop), ramd36_P a v o la e l post → ramd36_W a v o la e l post) : SpecOK Tryz.prog ramd36_sp := SpecOK.of_rules (C := ramd36_C) (dr := drawR Tryz.prog tau) (n := 8) (fk := 0) (.cons (rule1_ok rnchk_ok) (.cons (rule1_ok rlock_ok) (.cons (rule1_ok rame_ok) .nil))) (drawR_ok tau) fun x post hp => HoldW.of (ramd36_w x.1 x.2.1 x.2.2.1 x.2.2.2.1 x.2.2.2.2.1 x.2.2.2.2.2.1 post) (h x.1 x.2.1 x.2.2.1 x.2.2.2.1 x.2.2.2.2.1 x.2.2.2.2.2.1 (fun y0 y1 => post (y0, y1, ())) hp)

theorem ramd36_ok : SpecOK Tryz.prog ramd36_sp := ramd36_of fun a v o la e l post hp => by
  obtain ⟨⟨ha, hv⟩, hp⟩ := hp
  have hp := hp (namdS a v o la e l).1 (namdS a v o la e l).2 rfl
  unfold namdS at hp
  unfold ramd36_W
  rintro q rfl
  refine IFB.mk (fun h => ?_) (fun h => ⟨⟨ha, hv⟩, fun p b hb => ?_⟩)
  · rw [if_pos (by simpa using h)] at hp; exact hp
  rw [if_neg (by simpa using h)] at hp
  have hb : (p, b) = lockS a v l := hb
  refine IFB.mk (fun h2 => ?_) (fun h2 => ⟨ha.1, fun b2 q2 h3 => ?_⟩)
  · rw [← hb, if_pos h2] at hp; exact hp
  · rw [← hb, if_neg (by simp [h2])] at hp
    have h3 : (b2, q2) = amendS a v o la e := h3
    rw [← h3] at hp
    exact hp

def rwd36_P (a : api_Application) (p : Int) (d : Int) (o : Int) (la : Int) (e : Int) (l : List (api_Notice)) (post : api_Application → Int → Prop) : Prop := (bigA a) ∧ ∀ (b : api_Application) (q : Int), (b, q) = nwdS a p d o la e l → post b q
def rwd36_sp : Spec := ⟨47, false, true, [.st .api_Application, .int .i64, .int .i64, .int .i64, .int .i64, .int .i64, .sl (.st .api_Notice)], .tup [.dat (.st .api_Application), .dat (.int .i64)], fun x post => rwd36_P (x.1 : api_Application) (x.2.1 : Int) (x.2.2.1 : Int) (x.2.2.2.1 : Int) (x.2.2.2.2.1 : Int) (x.2.2.2.2.2.1 : Int) (x.2.2.2.2.2.2.1 : List (api_Notice)) (fun y0 y1 => post (y0, y1, ()))⟩
def rwd36_C : CtxR := ⟨tau, [rule1 rnchk_sp, rule1 rof36_sp, rule1 ramd36_sp], lookJ [(0, 19, ⟨[(19, .dat (.int .i64))], [(2, [.dat (.int .i64), .own 46 (.st .api_Line)])], [57, 58, 59, 60, 70, 71, 72, 73, 74, 75, 76, 77, 78, 69, 68, 67, 66, 65, 64, 63, 61, 62], [], []⟩), (0, 20, ⟨[], [(2, [.dat (.int .i64), .own 46 (.st .api_Line)])], [63, 64, 65, 66, 67, 68, 69, 78, 77, 76, 75, 74, 73, 72, 71, 70], [3], []⟩), (0, 1000012, ⟨[], [(2, [.dat (.int .i64), .own 46 (.st .api_Line)])], [70, 71, 72, 73, 74, 75, 76, 77, 78], [3], []⟩)]⟩
def rwd36_W (a : api_Application) (p : Int) (d : Int) (o : Int) (la : Int) (e : Int) (l : List (api_Notice)) (post : api_Application → Int → Prop) : Prop := ∀ (v1 : Int), v1 = nchkS l → IFB (!decide (v1 = (0 : Int))) (post { Farm := a.1, Year := a.2, Versions := a.3 : api_Application } v1) ((↑a.3.length : Int) ≤ (9223372036854775807 : Int) → (gx false (decide ((↑a.3.length : Int) = (0 : Int))) = true → (↑a.3.length : Int) ≤ (9223372036854775807 : Int)) → (gx false (decide ((↑a.3.length : Int) = (0 : Int))) = true → (0 : Int) ≤ IntKind.i64.wrap ((↑a.3.length : Int) - (1 : Int)) ∧ IntKind.i64.wrap ((↑a.3.length : Int) - (1 : Int)) < (↑a.3.length : Int)) ∧ JOIN [(Ty.st Sn.api_Line).sl] (fun (y2 : List api_Line) ↦ (gx false (decide ((↑a.3.length : Int) = (0 : Int))) = true → (↑y2.length : Int) ≤ (9223372036854775807 : Int)) → IFB (decide ((↑a.3.length : Int) = (0 : Int)) || decide ((↑y2.length : Int) = (0 : Int))) (post { Farm := a.1, Year := a.2, Versions := a.3 : api_Application } (15 : Int)) ((↑a.3.length : Int) ≤ (9223372036854775807 : Int) → ((0 : Int) ≤ IntKind.i64.wrap ((↑a.3.length : Int) - (1 : Int)) ∧ IntKind.i64.wrap ((↑a.3.length : Int) - (1 : Int)) < (↑a.3.length : Int)) ∧ LOOP [Ty.int IntKind.i64, Ty.int IntKind.i64, (Ty.st Sn.api_Line).sl] (fun (rec3 : Int → Int → List api_Line → Prop) (z4 z5 : Int) (z6 : List api_Line) ↦ (↑(ix a.3 (IntKind.i64.wrap ((↑a.3.length : Int) - (1 : Int)))).2.length : Int) ≤ (9223372036854775807 : Int) → IFB (decide (z4 < (↑(ix a.3 (IntKind.i64.wrap ((↑a.3.length : Int) - (1 : Int)))).2.length : Int))) (JOIN [Ty.int IntKind.i64, (Ty.st Sn.api_Line).sl] (fun (y7 : Int) (y8 : List api_Line) ↦ rec3 (IntKind.i64.wrap (z4 + (1 : Int))) y7 y8) fun (J9 : Int → List api_Line → Prop) ↦ ((0 : Int) ≤ z4 ∧ z4 < (↑(ix a.3 (IntKind.i64.wrap ((↑a.3.length : Int) - (1 : Int)))).2.length : Int)) ∧ IFB (!decide ((ix (ix a.3 (IntKind.i64.wrap ((↑a.3.length : Int) - (1 : Int)))).2 z4).1 = p)) (JOIN [Ty.int IntKind.i64, (Ty.st Sn.api_Line).sl] (fun (y10 : Int) (y11 : List api_Line) ↦ J9 y10 y11) fun (J12 : Int → List api_Line → Prop) ↦ ((0 : Int) ≤ z4 ∧ z4 < (↑(ix a.3 (IntKind.i64.wrap ((↑a.3.length : Int) - (1 : Int)))).2.length : Int)) ∧ (z6.length + [{ Parcel := (ix (ix a.3 (IntKind.i64.wrap ((↑a.3.length : Int) - (1 : Int)))).2 z4).1, Region := { Rects := (ix (ix a.3 (IntKind.i64.wrap ((↑a.3.length : Int) - (1 : Int)))).2 z4).2.1 : api_Region }, Crop := (ix (ix a.3 (IntKind.i64.wrap ((↑a.3.length : Int) - (1 : Int)))).2 z4).3, Schemes := (ix (ix a.3 (IntKind.i64.wrap ((↑a.3.length : Int) - (1 : Int)))).2 z4).4 : api_Line }].length) * (48 : Nat) ≤ (140737488355328 : Nat) ∧ J12 z5 (z6 ++ [{ Parcel := (ix (ix a.3 (IntKind.i64.wrap ((↑a.3.length : Int) - (1 : Int)))).2 z4).1, Region := { Rects := (ix (ix a.3 (IntKind.i64.wrap ((↑a.3.length : Int) - (1 : Int)))).2 z4).2.1 : api_Region }, Crop := (ix (ix a.3 (IntKind.i64.wrap ((↑a.3.length : Int) - (1 : Int)))).2 z4).3, Schemes := (ix (ix a.3 (IntKind.i64.wrap ((↑a.3.length : Int) - (1 : Int)))).2 z4).4 : api_Line }])) (J9 z5 z6)) (((a.3.length ≤ (1999999 : Nat) ∧ ∀ (v13 : api_Version), v13 ∈ a.3 → v13.2.length ≤ (2000000 : Nat) ∧ ∀ (v14 : api_Line), v14 ∈ v13.2 → v14.2.1.length ≤ (2000000 : Nat)) ∧ z6.length ≤ (2000000 : Nat) ∧ ∀ (v15 : api_Line), v15 ∈ z6 → v15.2.1.length ≤ (2000000 : Nat)) ∧ ∀ (v16 : api_Application) (v17 : Int), (v16, v17) = namdS { Farm := a.1, Year := a.2, Versions := a.3 : api_Application } { Day := z5, Lines := z6 : api_Version } o la e l → post { Farm := v16.1, Year := v16.2, Versions := v16.3 : api_Application } v17)) ((0 : Int), d, [], PUnit.unit))) fun (J18 : List api_Line → Prop) ↦ IFB (gx false (decide ((↑a.3.length : Int) = (0 : Int)))) ((ix a.3 (IntKind.i64.wrap ((↑a.3.length : Int) - (1 : Int)))).2.length ≤ (2000000 : Nat) ∧ J18 (ofL (ix a.3 (IntKind.i64.wrap ((↑a.3.length : Int) - (1 : Int)))).2 p)) (J18 []))
theorem rwd36_w (a : api_Application) (p : Int) (d : Int) (o : Int) (la : Int) (e : Int) (l : List (api_Notice)) (post : dens (shT rwd36_sp.rs []) → Prop) : rwd36_W a p d o la e l (fun y0 y1 => post (y0, y1, ())) = walkG (callR Tryz.prog rwd36_C (drawR Tryz.prog tau) 8 0) 47 false [tv (.st .api_Application) a, tv (.int .i64) p, tv (.int .i64) d, tv (.int .i64) o, tv (.int .i64) la, tv (.int .i64) e, tv (.sl (.st .api_Notice)) l] rwd36_sp.rs post := by kernel_rfl
theorem rwd36_of (h : ∀ (a : api_Application) (p : Int) (d : Int) (o : Int) (la : Int) (e : Int) (l : List (api_Notice)) (post : api_Application → Int → Prop), rwd36_P a p d o la e l post → rwd36_W a p d o la e l post) : SpecOK Tryz.prog rwd36_sp := SpecOK.of_rules (C := rwd36_C) (dr := drawR Tryz.prog tau) (n := 8) (fk := 0) (.cons (rule1_ok rnchk_ok) (.cons (rule1_ok rof36_ok) (.cons (rule1_ok ramd36_ok) .nil))) (drawR_ok tau) fun x post hp => HoldW.of (rwd36_w x.1 x.2.1 x.2.2.1 x.2.2.2.1 x.2.2.2.2.1 x.2.2.2.2.2.1 x.2.2.2.2.2.2.1 post) (h x.1 x.2.1 x.2.2.1 x.2.2.2.1 x.2.2.2.2.1 x.2.2.2.2.2.1 x.2.2.2.2.2.2.1 (fun y0 y1 => post (y0, y1, ())) hp)

theorem rwd36_ok : SpecOK Tryz.prog rwd36_sp := rwd36_of fun a p d o la e l post hp => by
  obtain ⟨ha, hp⟩ := hp
  have hp := hp (nwdS a p d o la e l).1 (nwdS a p d o la e l).2 rfl
  unfold nwdS at hp
  unfold rwd36_W
  rintro q rfl
  refine IFB.mk (fun h => ?_) (fun h => ?_)
  · rw [if_pos (by simpa using h)] at hp; exact hp
  rw [if_neg (by simpa using h)] at hp
  obtain ⟨f, y, vs⟩ := a
  obtain ⟨ha1, ha2⟩ := ha
  dsimp only at hp ha1 ha2 ⊢
  by_cases h0 : (vs.length : Int) = 0
  · intro _ _
    have hne : vs = [] := List.eq_nil_of_length_eq_zero (by omega)
    refine ⟨fun h => (by rw [decide_eq_true h0] at h; cases h), JOIN.opq fun (J18 : List api_Line → Prop) hJ18 => ?_⟩
    refine IFB.mk (fun h => by rw [decide_eq_true h0] at h; cases h) (fun h => ?_)
    rw [hJ18]
    dsimp only
    intro _
    refine IFB.mk (fun h2 => ?_) (fun h2 => ?_)
    · rw [if_pos (.inl hne)] at hp; exact hp
    · rw [decide_eq_true h0] at h2; cases h2
  have ew : IntKind.i64.wrap ((vs.length : Int) - 1) = ((vs.length - 1 : Nat) : Int) := by rw [wrap_in (by omega) (by omega)]; omega
  rw [ew]
  have h := h0
  intro _ _
  refine ⟨fun _ => by omega, JOIN.opq fun (J18 : List api_Line → Prop) hJ18 => ?_⟩
  refine IFB.mk (fun _ => ?_) (fun h => by rw [decide_eq_false h0] at h; cases h)
  · skip
    have hne : vs ≠ [] := fun e => h (by rw [e]; rfl)
    have hm : ix vs ((vs.length - 1 : Nat) : Int) ∈ vs := ix_mem (by omega) (by omega)
    have hb := ha2 _ hm
    have hin : (0 : Int) ≤ ((vs.length - 1 : Nat) : Int) ∧ ((vs.length - 1 : Nat) : Int) < (vs.length : Int) := by omega
    generalize ix vs ((vs.length - 1 : Nat) : Int) = L at *
    have hb1 : L.2.length ≤ 2000000 := hb.1
    have hb2 : ∀ x ∈ L.2, x.2.1.length ≤ 2000000 := hb.2
    refine ⟨hb1, ?_⟩
    rw [hJ18]
    dsimp only
    intro _
    refine IFB.mk (fun h2 => ?_) (fun h2 _ => ⟨hin, ?_⟩)
    · rw [if_pos] at hp
      · exact hp
      · rw [Bool.or_eq_true, decide_eq_true_eq, decide_eq_true_eq] at h2
        rcases h2 with h2 | h2
        · exact absurd h2 h
        · exact .inr (List.eq_nil_of_length_eq_zero (by have h2 : ((ofL L.2 p).length : Int) = 0 := h2; show (ofL L.2 p).length = 0; omega))
    · rw [Bool.or_eq_false_iff, decide_eq_false_iff_not, decide_eq_false_iff_not] at h2
      rw [if_neg (fun q => q.elim hne (fun q => h2.2 (by have q : ofL L.2 p = [] := q; rw [q]; rfl)))] at hp
      refine LOOP.fuel (fun u => ∃ k : Nat, u.1 = (k : Int) ∧ k ≤ L.2.length ∧ u.2.1 = d ∧ u.2.2.1 = filtK (α := api_Line) (fun x => !decide (x.Parcel = p)) L.2 k) (fun u => L.2.length - Int.toNat u.1) ⟨0, rfl, Nat.zero_le _, rfl, rfl⟩ ?_
      rintro rec ⟨(z : Int), (dd : Int), (s : List api_Line), ⟨⟩⟩ ⟨k, hz, hk, hd, hs⟩ hrec
      have hz : z = (k : Int) := hz
      have hd : dd = d := hd
      have hs : s = filtK (α := api_Line) (fun x => !decide (x.Parcel = p)) L.2 k := hs
      subst hz hs hd
      intro _
      refine IFB.mk (fun hc => ?_) (fun hc => ?_)
      · have hc : (k : Int) < L.2.length := of_decide_eq_true hc
        have hkl : k < L.2.length := by omega
        have hr : rec (IntKind.i64.wrap ((k : Int) + 1)) dd (filtK (α := api_Line) (fun x => !decide (x.Parcel = p)) L.2 (k + 1)) := by
          rw [wrapS (by omega)]
          exact hrec (((k + 1 : Nat) : Int), dd, _, ()) ⟨k + 1, rfl, by omega, rfl, rfl⟩ (by show L.2.length - ((k + 1 : Nat) : Int).toNat < L.2.length - (k : Int).toNat; omega)
        rw [filtK_succ hkl] at hr
        have hlen : (filtK (fun x : api_Line => !decide (x.Parcel = p)) L.2 k).length ≤ k := filtK_len
        refine JOIN.opq fun (J9 : Int → List api_Line → Prop) hJ9 => ⟨by omega, IFB.mk (fun h3 => ?_) (fun h3 => ?_)⟩
        · rw [if_pos h3] at hr
          refine JOIN.opq fun (J12 : Int → List api_Line → Prop) hJ12 => ?_
          have hz : J12 dd (filtK (fun x : api_Line => !decide (x.Parcel = p)) L.2 k ++ [ix L.2 (k : Int)]) := by
            rw [hJ12]
            dsimp only
            rw [hJ9]
            exact hr
          exact ⟨by omega, by simp only [List.length_cons, List.length_nil]; omega, hz⟩
        · rw [if_neg (by show ¬ (!decide ((ix L.2 (k : Int)).1 = p)) = true; rw [h3]; simp)] at hr
          rw [hJ9]; exact hr
      · have hc : ¬ (k : Int) < L.2.length := of_decide_eq_false hc
        have : k = L.2.length := by omega
        subst this
        rw [filtK_all]
        refine ⟨⟨⟨ha1, ha2⟩, Nat.le_trans (List.length_filter_le _ _) hb1, fun x hx => hb2 x (List.mem_filter.1 hx).1⟩, fun b2 q2 h3 => ?_⟩
        have h3 : (b2, q2) = namdS ⟨f, y, vs⟩ ⟨dd, L.Lines.filter fun x => !decide (x.Parcel = p)⟩ o la e l := h3
        rw [← h3] at hp
        exact hp

end RE
end Go.Proofs.YtfbfknmnkcddpaaGreat
set_option maxRecDepth 100000
set_option linter.unusedVariables false
namespace Go.Proofs.YtfbfknmnkcddpaaGreat
open Go.RowKit
namespace RE
open PL

def lAmd_C : CtxR := ⟨tau, [ruleN 13, rule1 kapp_sp, rule1 knot_sp, rule1 knxt_sp, rule1 nchkV_sp, rule1 rnchk_sp, rule1 nannV_sp, rule1 rann_sp, rule1 rints_sp, rule1 kmod_sp, rule1 nlockV_sp, rule1 rlock_sp, rule1 namdV_sp, rule1 ramd36_sp, rule1 rsma_sp, rule1 nwdV_sp, rule1 rwd36_sp, rule1 nawake_sp], lookJ [(0, 21, ⟨[(84, .dat (.int .i64))], [], [85, 86, 87, 23, 119, 118, 117, 116, 115, 114, 113, 112, 111, 110, 109, 108, 107, 106, 103, 102, 101, 100, 99, 98, 97, 96, 95, 94, 105, 104, 93, 92, 91, 90, 89, 88, 120, 121, 122, 123, 124, 236, 199, 198, 200, 201, 37, 203, 204, 205, 206, 207, 208, 209, 210, 211, 202, 212, 213, 38, 39, 215, 216, 217, 218, 219, 220, 221, 222, 223, 214, 224, 225, 40, 41, 226, 227, 228, 229, 234, 230, 231, 232, 233, 235, 197, 196, 195, 194, 193, 136, 135, 137, 138, 27, 140, 141, 142, 143, 139, 144, 145, 28, 29, 147, 148, 149, 150, 146, 151, 152, 30, 31, 154, 155, 156, 157, 158, 159, 160, 153, 161, 162, 32, 33, 164, 165, 166, 167, 168, 169, 170, 163, 171, 172, 34, 35, 173, 174, 175, 176, 180, 181, 185, 186, 191, 177, 178, 179, 182, 183, 184, 187, 188, 189, 190, 192, 134, 133, 129, 130, 131, 132, 25, 128, 127, 125, 126, 237], [], []⟩), (0, 31, ⟨[(125, .dat (.int .i64))], [], [126, 127, 128, 25, 132, 131, 130, 129, 133, 134, 192, 190, 189, 188, 187, 184, 183, 182, 179, 178, 177, 191, 186, 185, 181, 180, 176, 175, 174, 173, 35, 34, 172, 171, 163, 170, 169, 168, 167, 166, 165, 164, 33, 32, 162, 161, 153, 160, 159, 158, 157, 156, 155, 154, 31, 30, 152, 151, 146, 150, 149, 148, 147, 29, 28, 145, 144, 139, 143, 142, 141, 140, 27, 138, 137, 135, 136, 193, 194, 195, 196, 197, 235, 233, 232, 231, 230, 234, 229, 228, 227, 226, 41, 40, 225, 224, 214, 223, 222, 221, 220, 219, 218, 217, 216, 215, 39, 38, 213, 212, 202, 211, 210, 209, 208, 207, 206, 205, 204, 203, 37, 201, 200, 198, 199, 236], [], []⟩), (0, 57, ⟨[(198, .dat (.int .i64))], [], [199, 200, 201, 37, 203, 204, 205, 206, 207, 208, 209, 210, 211, 202, 212, 213, 38, 39, 215, 216, 217, 218, 219, 220, 221, 222, 223, 214, 224, 225, 40, 41, 226, 227, 228, 229, 234, 230, 231, 232, 233, 235], [], []⟩), (0, 37, ⟨[(135, .dat (.int .i64))], [], [136, 137, 138, 27, 140, 141, 142, 143, 139, 144, 145, 28, 29, 147, 148, 149, 150, 146, 151, 152, 30, 31, 154, 155, 156, 157, 158, 159, 160, 153, 161, 162, 32, 33, 164, 165, 166, 167, 168, 169, 170, 163, 171, 172, 34, 35, 173, 174, 175, 176, 180, 181, 185, 186, 191, 177, 178, 179, 182, 183, 184, 187, 188, 189, 190, 192], [], []⟩), (0, 1000017, ⟨[(135, .dat (.int .i64)), (134, .dat (.int .i64)), (133, .own 31 (.st .api_Version))], [], [129, 130, 131, 132], [], []⟩), (0, 1000012, ⟨[(120, .dat .bool)], [], [88, 89, 90, 91, 92, 93, 104, 105, 94, 95, 96, 97, 98, 99, 100, 101, 102, 103, 106, 107, 108, 109, 110, 111, 112, 113, 114, 115, 116, 117, 118, 119], [], []⟩), (0, 18, ⟨[], [], [72, 73, 74, 75, 76, 77, 78], [], [(4, 67, (.st .api_Notice))]⟩)]⟩
def lAmd_W (t : List (Int)) (raw : api_Application) (v : api_Version) (l : List (api_Notice)) (farm : Int) (day : Int) (by_ : Int) (post : Bool → Prop) : Prop := (↑raw.3.length : Int) ≤ (9223372036854775807 : Int) → (gx false (decide ((10 : Int) < (↑raw.3.length : Int))) = true → (↑v.2.length : Int) ≤ (9223372036854775807 : Int)) → (gx false (decide ((10 : Int) < (↑raw.3.length : Int)) || decide ((25 : Int) < (↑v.2.length : Int))) = true → (↑l.length : Int) ≤ (9223372036854775807 : Int)) → IFB (decide ((10 : Int) < (↑raw.3.length : Int)) || decide ((25 : Int) < (↑v.2.length : Int)) || decide ((110 : Int) < (↑l.length : Int))) (True ∧ post true) (∀ (v1 : api_Application) (v2 v3 : Int), appliedOK v1 v2 v3 → ∀ (v4 : List api_Notice), noticesOK v4 → ((0 : Nat) + v4.length) * (24 : Nat) ≤ (140737488355328 : Nat) ∧ JOIN [(Ty.st Sn.api_Notice).sl] (fun (y5 : List api_Notice) ↦ (↑[v4, y5, l].length : Int) ≤ (9223372036854775807 : Int) → LOOP [Ty.int IntKind.i64] (fun (rec6 : Int → Prop) (z7 : Int) ↦ IFB (decide (z7 < (↑[v4, y5, l].length : Int))) (((0 : Int) ≤ z7 ∧ z7 < (↑[v4, y5, l].length : Int)) ∧ JOIN [Ty.bool] (fun (y8 : Bool) ↦ IFB y8 (post false) ((↑[{ Farm := v1.1, Year := v1.2, Versions := v1.3 : api_Application }, { Farm := raw.1, Year := raw.2, Versions := raw.3 : api_Application }].length : Int) ≤ (9223372036854775807 : Int) → LOOP [Ty.int IntKind.i64] (fun (rec9 : Int → Prop) (z10 : Int) ↦ IFB (decide (z10 < (↑[{ Farm := v1.1, Year := v1.2, Versions := v1.3 : api_Application }, { Farm := raw.1, Year := raw.2, Versions := raw.3 : api_Application }].length : Int))) (((0 : Int) ≤ z10 ∧ z10 < (↑[{ Farm := v1.1, Year := v1.2, Versions := v1.3 : api_Application }, { Farm := raw.1, Year := raw.2, Versions := raw.3 : api_Application }].length : Int)) ∧ JOIN [Ty.int IntKind.i64, Ty.int IntKind.i64, (Ty.st Sn.api_Version).sl] (fun (y11 y12 : Int) (y13 : List api_Version) ↦ LOOP [Ty.int IntKind.i64] (fun (rec14 : Int → Prop) (z15 : Int) ↦ IFB (decide (z15 < y12)) (((0 : Int) ≤ z15 ∧ z15 < (↑y13.length : Int)) ∧ (((ix [{ Farm := v1.1, Year := v1.2, Versions := v1.3 : api_Application }, { Farm := raw.1, Year := raw.2, Versions := raw.3 : api_Application }] z10).3.length ≤ (1999999 : Nat) ∧ ∀ (v16 : api_Version), v16 ∈ (ix [{ Farm := v1.1, Year := v1.2, Versions := v1.3 : api_Application }, { Farm := raw.1, Year := raw.2, Versions := raw.3 : api_Application }] z10).3 → v16.2.length ≤ (2000000 : Nat) ∧ ∀ (v17 : api_Line), v17 ∈ v16.2 → v17.2.1.length ≤ (2000000 : Nat)) ∧ (ix y13 z15).2.length ≤ (2000000 : Nat) ∧ ∀ (v18 : api_Line), v18 ∈ (ix y13 z15).2 → v18.2.1.length ≤ (2000000 : Nat)) ∧ ∀ (v19 : Int) (v20 : Bool), (v19, v20) = lockS { Farm := (ix [{ Farm := v1.1, Year := v1.2, Versions := v1.3 : api_Application }, { Farm := raw.1, Year := raw.2, Versions := raw.3 : api_Application }] z10).1, Year := (ix [{ Farm := v1.1, Year := v1.2, Versions := v1.3 : api_Application }, { Farm := raw.1, Year := raw.2, Versions := raw.3 : api_Application }] z10).2, Versions := (ix [{ Farm := v1.1, Year := v1.2, Versions := v1.3 : api_Application }, { Farm := raw.1, Year := raw.2, Versions := raw.3 : api_Application }] z10).3 : api_Application } { Day := (ix y13 z15).1, Lines := (ix y13 z15).2 : api_Version } (ix [v4, y5, l] z7) → (((ix [{ Farm := v1.1, Year := v1.2, Versions := v1.3 : api_Application }, { Farm := raw.1, Year := raw.2, Versions := raw.3 : api_Application }] z10).3.length ≤ (1999999 : Nat) ∧ ∀ (v21 : api_Version), v21 ∈ (ix [{ Farm := v1.1, Year := v1.2, Versions := v1.3 : api_Application }, { Farm := raw.1, Year := raw.2, Versions := raw.3 : api_Application }] z10).3 → v21.2.length ≤ (2000000 : Nat) ∧ ∀ (v22 : api_Line), v22 ∈ v21.2 → v22.2.1.length ≤ (2000000 : Nat)) ∧ (ix y13 z15).2.length ≤ (2000000 : Nat) ∧ ∀ (v23 : api_Line), v23 ∈ (ix y13 z15).2 → v23.2.1.length ≤ (2000000 : Nat)) ∧ ∀ (v24 : Int) (v25 : Bool), (v24, v25) = lockS { Farm := (ix [{ Farm := v1.1, Year := v1.2, Versions := v1.3 : api_Application }, { Farm := raw.1, Year := raw.2, Versions := raw.3 : api_Application }] z10).1, Year := (ix [{ Farm := v1.1, Year := v1.2, Versions := v1.3 : api_Application }, { Farm := raw.1, Year := raw.2, Versions := raw.3 : api_Application }] z10).2, Versions := (ix [{ Farm := v1.1, Year := v1.2, Versions := v1.3 : api_Application }, { Farm := raw.1, Year := raw.2, Versions := raw.3 : api_Application }] z10).3 : api_Application } { Day := (ix y13 z15).1, Lines := (ix y13 z15).2 : api_Version } (ix [v4, y5, l] z7) → (((ix [{ Farm := v1.1, Year := v1.2, Versions := v1.3 : api_Application }, { Farm := raw.1, Year := raw.2, Versions := raw.3 : api_Application }] z10).3.length ≤ (1999999 : Nat) ∧ ∀ (v26 : api_Version), v26 ∈ (ix [{ Farm := v1.1, Year := v1.2, Versions := v1.3 : api_Application }, { Farm := raw.1, Year := raw.2, Versions := raw.3 : api_Application }] z10).3 → v26.2.length ≤ (2000000 : Nat) ∧ ∀ (v27 : api_Line), v27 ∈ v26.2 → v27.2.1.length ≤ (2000000 : Nat)) ∧ (ix y13 z15).2.length ≤ (2000000 : Nat) ∧ ∀ (v28 : api_Line), v28 ∈ (ix y13 z15).2 → v28.2.1.length ≤ (2000000 : Nat)) ∧ ∀ (v29 : api_Application) (v30 : Int), (v29, v30) = namdS { Farm := (ix [{ Farm := v1.1, Year := v1.2, Versions := v1.3 : api_Application }, { Farm := raw.1, Year := raw.2, Versions := raw.3 : api_Application }] z10).1, Year := (ix [{ Farm := v1.1, Year := v1.2, Versions := v1.3 : api_Application }, { Farm := raw.1, Year := raw.2, Versions := raw.3 : api_Application }] z10).2, Versions := (ix [{ Farm := v1.1, Year := v1.2, Versions := v1.3 : api_Application }, { Farm := raw.1, Year := raw.2, Versions := raw.3 : api_Application }] z10).3 : api_Application } { Day := (ix y13 z15).1, Lines := (ix y13 z15).2 : api_Version } (2 : Int) v2 v3 (ix [v4, y5, l] z7) → (((ix [{ Farm := v1.1, Year := v1.2, Versions := v1.3 : api_Application }, { Farm := raw.1, Year := raw.2, Versions := raw.3 : api_Application }] z10).3.length ≤ (1999999 : Nat) ∧ ∀ (v31 : api_Version), v31 ∈ (ix [{ Farm := v1.1, Year := v1.2, Versions := v1.3 : api_Application }, { Farm := raw.1, Year := raw.2, Versions := raw.3 : api_Application }] z10).3 → v31.2.length ≤ (2000000 : Nat) ∧ ∀ (v32 : api_Line), v32 ∈ v31.2 → v32.2.1.length ≤ (2000000 : Nat)) ∧ (ix y13 z15).2.length ≤ (2000000 : Nat) ∧ ∀ (v33 : api_Line), v33 ∈ (ix y13 z15).2 → v33.2.1.length ≤ (2000000 : Nat)) ∧ ∀ (v34 : api_Application) (v35 : Int), (v34, v35) = namdS { Farm := (ix [{ Farm := v1.1, Year := v1.2, Versions := v1.3 : api_Application }, { Farm := raw.1, Year := raw.2, Versions := raw.3 : api_Application }] z10).1, Year := (ix [{ Farm := v1.1, Year := v1.2, Versions := v1.3 : api_Application }, { Farm := raw.1, Year := raw.2, Versions := raw.3 : api_Application }] z10).2, Versions := (ix [{ Farm := v1.1, Year := v1.2, Versions := v1.3 : api_Application }, { Farm := raw.1, Year := raw.2, Versions := raw.3 : api_Application }] z10).3 : api_Application } { Day := (ix y13 z15).1, Lines := (ix y13 z15).2 : api_Version } (2 : Int) v2 v3 (ix [v4, y5, l] z7) → JOIN [Ty.bool] (fun (y36 : Bool) ↦ IFB (!decide (v19 = v24) || !v20 == v25 || !decide (v30 = v35) || !y36) (post false) (rec14 (IntKind.i64.wrap (z15 + (1 : Int))))) fun (J37 : Bool → Prop) ↦ IFB (gx false (!decide (v19 = v24) || !v20 == v25 || !decide (v30 = v35))) ((v29.3.length ≤ (1000000000 : Nat) ∧ ∀ (v38 : api_Version), v38 ∈ v29.3 → v38.2.length ≤ (1000000000 : Nat) ∧ ∀ (v39 : api_Line), v39 ∈ v38.2 → v39.2.1.length ≤ (1000000000 : Nat)) ∧ ∀ (v40 : Bool), (v40 = true ↔ { Farm := v29.1, Year := v29.2, Versions := v29.3 : api_Application } = { Farm := v34.1, Year := v34.2, Versions := v34.3 : api_Application }) → J37 v40) (J37 false)) ((5 : Int) ≤ (9223372036854775807 : Int) ∧ ∀ (v41 : Int), v41 = modQ by_ (5 : Int) → (↑[by_, v41].length : Int) ≤ (9223372036854775807 : Int) → LOOP [Ty.int IntKind.i64] (fun (rec42 : Int → Prop) (z43 : Int) ↦ IFB (decide (z43 < (↑[by_, v41].length : Int))) (((0 : Int) ≤ z43 ∧ z43 < (↑[by_, v41].length : Int)) ∧ ((40 : Int) ≤ (9223372036854775807 : Int) ∧ ∀ (v44 : Int), v44 = modQ day (40 : Int) → (((ix [{ Farm := v1.1, Year := v1.2, Versions := v1.3 : api_Application }, { Farm := raw.1, Year := raw.2, Versions := raw.3 : api_Application }] z10).3.length ≤ (1999999 : Nat) ∧ ∀ (v45 : api_Version), v45 ∈ (ix [{ Farm := v1.1, Year := v1.2, Versions := v1.3 : api_Application }, { Farm := raw.1, Year := raw.2, Versions := raw.3 : api_Application }] z10).3 → v45.2.length ≤ (2000000 : Nat) ∧ ∀ (v46 : api_Line), v46 ∈ v45.2 → v46.2.1.length ≤ (2000000 : Nat)) ∧ ∀ (v47 : api_Application) (v48 : Int), (v47, v48) = nwdS { Farm := (ix [{ Farm := v1.1, Year := v1.2, Versions := v1.3 : api_Application }, { Farm := raw.1, Year := raw.2, Versions := raw.3 : api_Application }] z10).1, Year := (ix [{ Farm := v1.1, Year := v1.2, Versions := v1.3 : api_Application }, { Farm := raw.1, Year := raw.2, Versions := raw.3 : api_Application }] z10).2, Versions := (ix [{ Farm := v1.1, Year := v1.2, Versions := v1.3 : api_Application }, { Farm := raw.1, Year := raw.2, Versions := raw.3 : api_Application }] z10).3 : api_Application } (ix [by_, v41] z43) v44 (2 : Int) v2 v3 (ix [v4, y5, l] z7) → ((40 : Int) ≤ (9223372036854775807 : Int) ∧ ∀ (v49 : Int), v49 = modQ day (40 : Int) → (((ix [{ Farm := v1.1, Year := v1.2, Versions := v1.3 : api_Application }, { Farm := raw.1, Year := raw.2, Versions := raw.3 : api_Application }] z10).3.length ≤ (1999999 : Nat) ∧ ∀ (v50 : api_Version), v50 ∈ (ix [{ Farm := v1.1, Year := v1.2, Versions := v1.3 : api_Application }, { Farm := raw.1, Year := raw.2, Versions := raw.3 : api_Application }] z10).3 → v50.2.length ≤ (2000000 : Nat) ∧ ∀ (v51 : api_Line), v51 ∈ v50.2 → v51.2.1.length ≤ (2000000 : Nat)) ∧ ∀ (v52 : api_Application) (v53 : Int), (v52, v53) = nwdS { Farm := (ix [{ Farm := v1.1, Year := v1.2, Versions := v1.3 : api_Application }, { Farm := raw.1, Year := raw.2, Versions := raw.3 : api_Application }] z10).1, Year := (ix [{ Farm := v1.1, Year := v1.2, Versions := v1.3 : api_Application }, { Farm := raw.1, Year := raw.2, Versions := raw.3 : api_Application }] z10).2, Versions := (ix [{ Farm := v1.1, Year := v1.2, Versions := v1.3 : api_Application }, { Farm := raw.1, Year := raw.2, Versions := raw.3 : api_Application }] z10).3 : api_Application } (ix [by_, v41] z43) v49 (2 : Int) v2 v3 (ix [v4, y5, l] z7) → JOIN [Ty.bool] (fun (y54 : Bool) ↦ IFB (!decide (v48 = v53) || !y54) (post false) (rec42 (IntKind.i64.wrap (z43 + (1 : Int))))) fun (J55 : Bool → Prop) ↦ IFB (gx false !decide (v48 = v53)) ((v47.3.length ≤ (1000000000 : Nat) ∧ ∀ (v56 : api_Version), v56 ∈ v47.3 → v56.2.length ≤ (1000000000 : Nat) ∧ ∀ (v57 : api_Line), v57 ∈ v56.2 → v57.2.1.length ≤ (1000000000 : Nat)) ∧ ∀ (v58 : Bool), (v58 = true ↔ { Farm := v47.1, Year := v47.2, Versions := v47.3 : api_Application } = { Farm := v52.1, Year := v52.2, Versions := v52.3 : api_Application }) → J55 v58) (J55 false)) ∧ ((ix [{ Farm := v1.1, Year := v1.2, Versions := v1.3 : api_Application }, { Farm := raw.1, Year := raw.2, Versions := raw.3 : api_Application }] z10).3.length ≤ (1999999 : Nat) ∧ ∀ (v59 : api_Version), v59 ∈ (ix [{ Farm := v1.1, Year := v1.2, Versions := v1.3 : api_Application }, { Farm := raw.1, Year := raw.2, Versions := raw.3 : api_Application }] z10).3 → v59.2.length ≤ (2000000 : Nat) ∧ ∀ (v60 : api_Line), v60 ∈ v59.2 → v60.2.1.length ≤ (2000000 : Nat)) ∧ ∀ (v61 : api_Application) (v62 : Int), (v61, v62) = nwdS { Farm := (ix [{ Farm := v1.1, Year := v1.2, Versions := v1.3 : api_Application }, { Farm := raw.1, Year := raw.2, Versions := raw.3 : api_Application }] z10).1, Year := (ix [{ Farm := v1.1, Year := v1.2, Versions := v1.3 : api_Application }, { Farm := raw.1, Year := raw.2, Versions := raw.3 : api_Application }] z10).2, Versions := (ix [{ Farm := v1.1, Year := v1.2, Versions := v1.3 : api_Application }, { Farm := raw.1, Year := raw.2, Versions := raw.3 : api_Application }] z10).3 : api_Application } (ix [by_, v41] z43) v49 (2 : Int) v2 v3 (ix [v4, y5, l] z7) → JOIN [Ty.bool] (fun (y63 : Bool) ↦ IFB (!decide (v48 = v62) || !y63) (post false) (rec42 (IntKind.i64.wrap (z43 + (1 : Int))))) fun (J64 : Bool → Prop) ↦ IFB (gx false !decide (v48 = v62)) ((v47.3.length ≤ (1000000000 : Nat) ∧ ∀ (v65 : api_Version), v65 ∈ v47.3 → v65.2.length ≤ (1000000000 : Nat) ∧ ∀ (v66 : api_Line), v66 ∈ v65.2 → v66.2.1.length ≤ (1000000000 : Nat)) ∧ ∀ (v67 : Bool), (v67 = true ↔ { Farm := v47.1, Year := v47.2, Versions := v47.3 : api_Application } = { Farm := v61.1, Year := v61.2, Versions := v61.3 : api_Application }) → J64 v67) (J64 false)) ∧ (40 : Int) ≤ (9223372036854775807 : Int) ∧ ∀ (v68 : Int), v68 = modQ day (40 : Int) → ((ix [{ Farm := v1.1, Year := v1.2, Versions := v1.3 : api_Application }, { Farm := raw.1, Year := raw.2, Versions := raw.3 : api_Application }] z10).3.length ≤ (1999999 : Nat) ∧ ∀ (v69 : api_Version), v69 ∈ (ix [{ Farm := v1.1, Year := v1.2, Versions := v1.3 : api_Application }, { Farm := raw.1, Year := raw.2, Versions := raw.3 : api_Application }] z10).3 → v69.2.length ≤ (2000000 : Nat) ∧ ∀ (v70 : api_Line), v70 ∈ v69.2 → v70.2.1.length ≤ (2000000 : Nat)) ∧ ∀ (v71 : api_Application) (v72 : Int), (v71, v72) = nwdS { Farm := (ix [{ Farm := v1.1, Year := v1.2, Versions := v1.3 : api_Application }, { Farm := raw.1, Year := raw.2, Versions := raw.3 : api_Application }] z10).1, Year := (ix [{ Farm := v1.1, Year := v1.2, Versions := v1.3 : api_Application }, { Farm := raw.1, Year := raw.2, Versions := raw.3 : api_Application }] z10).2, Versions := (ix [{ Farm := v1.1, Year := v1.2, Versions := v1.3 : api_Application }, { Farm := raw.1, Year := raw.2, Versions := raw.3 : api_Application }] z10).3 : api_Application } (ix [by_, v41] z43) v68 (2 : Int) v2 v3 (ix [v4, y5, l] z7) → JOIN [Ty.bool] (fun (y73 : Bool) ↦ IFB (!decide (v48 = v72) || !y73) (post false) (rec42 (IntKind.i64.wrap (z43 + (1 : Int))))) fun (J74 : Bool → Prop) ↦ IFB (gx false !decide (v48 = v72)) ((v47.3.length ≤ (1000000000 : Nat) ∧ ∀ (v75 : api_Version), v75 ∈ v47.3 → v75.2.length ≤ (1000000000 : Nat) ∧ ∀ (v76 : api_Line), v76 ∈ v75.2 → v76.2.1.length ≤ (1000000000 : Nat)) ∧ ∀ (v77 : Bool), (v77 = true ↔ { Farm := v47.1, Year := v47.2, Versions := v47.3 : api_Application } = { Farm := v71.1, Year := v71.2, Versions := v71.3 : api_Application }) → J74 v77) (J74 false)) ∧ ((ix [{ Farm := v1.1, Year := v1.2, Versions := v1.3 : api_Application }, { Farm := raw.1, Year := raw.2, Versions := raw.3 : api_Application }] z10).3.length ≤ (1999999 : Nat) ∧ ∀ (v78 : api_Version), v78 ∈ (ix [{ Farm := v1.1, Year := v1.2, Versions := v1.3 : api_Application }, { Farm := raw.1, Year := raw.2, Versions := raw.3 : api_Application }] z10).3 → v78.2.length ≤ (2000000 : Nat) ∧ ∀ (v79 : api_Line), v79 ∈ v78.2 → v79.2.1.length ≤ (2000000 : Nat)) ∧ ∀ (v80 : api_Application) (v81 : Int), (v80, v81) = nwdS { Farm := (ix [{ Farm := v1.1, Year := v1.2, Versions := v1.3 : api_Application }, { Farm := raw.1, Year := raw.2, Versions := raw.3 : api_Application }] z10).1, Year := (ix [{ Farm := v1.1, Year := v1.2, Versions := v1.3 : api_Application }, { Farm := raw.1, Year := raw.2, Versions := raw.3 : api_Application }] z10).2, Versions := (ix [{ Farm := v1.1, Year := v1.2, Versions := v1.3 : api_Application }, { Farm := raw.1, Year := raw.2, Versions := raw.3 : api_Application }] z10).3 : api_Application } (ix [by_, v41] z43) v44 (2 : Int) v2 v3 (ix [v4, y5, l] z7) → ((40 : Int) ≤ (9223372036854775807 : Int) ∧ ∀ (v82 : Int), v82 = modQ day (40 : Int) → (((ix [{ Farm := v1.1, Year := v1.2, Versions := v1.3 : api_Application }, { Farm := raw.1, Year := raw.2, Versions := raw.3 : api_Application }] z10).3.length ≤ (1999999 : Nat) ∧ ∀ (v83 : api_Version), v83 ∈ (ix [{ Farm := v1.1, Year := v1.2, Versions := v1.3 : api_Application }, { Farm := raw.1, Year := raw.2, Versions := raw.3 : api_Application }] z10).3 → v83.2.length ≤ (2000000 : Nat) ∧ ∀ (v84 : api_Line), v84 ∈ v83.2 → v84.2.1.length ≤ (2000000 : Nat)) ∧ ∀ (v85 : api_Application) (v86 : Int), (v85, v86) = nwdS { Farm := (ix [{ Farm := v1.1, Year := v1.2, Versions := v1.3 : api_Application }, { Farm := raw.1, Year := raw.2, Versions := raw.3 : api_Application }] z10).1, Year := (ix [{ Farm := v1.1, Year := v1.2, Versions := v1.3 : api_Application }, { Farm := raw.1, Year := raw.2, Versions := raw.3 : api_Application }] z10).2, Versions := (ix [{ Farm := v1.1, Year := v1.2, Versions := v1.3 : api_Application }, { Farm := raw.1, Year := raw.2, Versions := raw.3 : api_Application }] z10).3 : api_Application } (ix [by_, v41] z43) v82 (2 : Int) v2 v3 (ix [v4, y5, l] z7) → JOIN [Ty.bool] (fun (y87 : Bool) ↦ IFB (!decide (v81 = v86) || !y87) (post false) (rec42 (IntKind.i64.wrap (z43 + (1 : Int))))) fun (J88 : Bool → Prop) ↦ IFB (gx false !decide (v81 = v86)) ((v80.3.length ≤ (1000000000 : Nat) ∧ ∀ (v89 : api_Version), v89 ∈ v80.3 → v89.2.length ≤ (1000000000 : Nat) ∧ ∀ (v90 : api_Line), v90 ∈ v89.2 → v90.2.1.length ≤ (1000000000 : Nat)) ∧ ∀ (v91 : Bool), (v91 = true ↔ { Farm := v80.1, Year := v80.2, Versions := v80.3 : api_Application } = { Farm := v85.1, Year := v85.2, Versions := v85.3 : api_Application }) → J88 v91) (J88 false)) ∧ ((ix [{ Farm := v1.1, Year := v1.2, Versions := v1.3 : api_Application }, { Farm := raw.1, Year := raw.2, Versions := raw.3 : api_Application }] z10).3.length ≤ (1999999 : Nat) ∧ ∀ (v92 : api_Version), v92 ∈ (ix [{ Farm := v1.1, Year := v1.2, Versions := v1.3 : api_Application }, { Farm := raw.1, Year := raw.2, Versions := raw.3 : api_Application }] z10).3 → v92.2.length ≤ (2000000 : Nat) ∧ ∀ (v93 : api_Line), v93 ∈ v92.2 → v93.2.1.length ≤ (2000000 : Nat)) ∧ ∀ (v94 : api_Application) (v95 : Int), (v94, v95) = nwdS { Farm := (ix [{ Farm := v1.1, Year := v1.2, Versions := v1.3 : api_Application }, { Farm := raw.1, Year := raw.2, Versions := raw.3 : api_Application }] z10).1, Year := (ix [{ Farm := v1.1, Year := v1.2, Versions := v1.3 : api_Application }, { Farm := raw.1, Year := raw.2, Versions := raw.3 : api_Application }] z10).2, Versions := (ix [{ Farm := v1.1, Year := v1.2, Versions := v1.3 : api_Application }, { Farm := raw.1, Year := raw.2, Versions := raw.3 : api_Application }] z10).3 : api_Application } (ix [by_, v41] z43) v82 (2 : Int) v2 v3 (ix [v4, y5, l] z7) → JOIN [Ty.bool] (fun (y96 : Bool) ↦ IFB (!decide (v81 = v95) || !y96) (post false) (rec42 (IntKind.i64.wrap (z43 + (1 : Int))))) fun (J97 : Bool → Prop) ↦ IFB (gx false !decide (v81 = v95)) ((v80.3.length ≤ (1000000000 : Nat) ∧ ∀ (v98 : api_Version), v98 ∈ v80.3 → v98.2.length ≤ (1000000000 : Nat) ∧ ∀ (v99 : api_Line), v99 ∈ v98.2 → v99.2.1.length ≤ (1000000000 : Nat)) ∧ ∀ (v100 : Bool), (v100 = true ↔ { Farm := v80.1, Year := v80.2, Versions := v80.3 : api_Application } = { Farm := v94.1, Year := v94.2, Versions := v94.3 : api_Application }) → J97 v100) (J97 false)) ∧ (40 : Int) ≤ (9223372036854775807 : Int) ∧ ∀ (v101 : Int), v101 = modQ day (40 : Int) → ((ix [{ Farm := v1.1, Year := v1.2, Versions := v1.3 : api_Application }, { Farm := raw.1, Year := raw.2, Versions := raw.3 : api_Application }] z10).3.length ≤ (1999999 : Nat) ∧ ∀ (v102 : api_Version), v102 ∈ (ix [{ Farm := v1.1, Year := v1.2, Versions := v1.3 : api_Application }, { Farm := raw.1, Year := raw.2, Versions := raw.3 : api_Application }] z10).3 → v102.2.length ≤ (2000000 : Nat) ∧ ∀ (v103 : api_Line), v103 ∈ v102.2 → v103.2.1.length ≤ (2000000 : Nat)) ∧ ∀ (v104 : api_Application) (v105 : Int), (v104, v105) = nwdS { Farm := (ix [{ Farm := v1.1, Year := v1.2, Versions := v1.3 : api_Application }, { Farm := raw.1, Year := raw.2, Versions := raw.3 : api_Application }] z10).1, Year := (ix [{ Farm := v1.1, Year := v1.2, Versions := v1.3 : api_Application }, { Farm := raw.1, Year := raw.2, Versions := raw.3 : api_Application }] z10).2, Versions := (ix [{ Farm := v1.1, Year := v1.2, Versions := v1.3 : api_Application }, { Farm := raw.1, Year := raw.2, Versions := raw.3 : api_Application }] z10).3 : api_Application } (ix [by_, v41] z43) v101 (2 : Int) v2 v3 (ix [v4, y5, l] z7) → JOIN [Ty.bool] (fun (y106 : Bool) ↦ IFB (!decide (v81 = v105) || !y106) (post false) (rec42 (IntKind.i64.wrap (z43 + (1 : Int))))) fun (J107 : Bool → Prop) ↦ IFB (gx false !decide (v81 = v105)) ((v80.3.length ≤ (1000000000 : Nat) ∧ ∀ (v108 : api_Version), v108 ∈ v80.3 → v108.2.length ≤ (1000000000 : Nat) ∧ ∀ (v109 : api_Line), v109 ∈ v108.2 → v109.2.1.length ≤ (1000000000 : Nat)) ∧ ∀ (v110 : Bool), (v110 = true ↔ { Farm := v80.1, Year := v80.2, Versions := v80.3 : api_Application } = { Farm := v104.1, Year := v104.2, Versions := v104.3 : api_Application }) → J107 v110) (J107 false)) ∧ (40 : Int) ≤ (9223372036854775807 : Int) ∧ ∀ (v111 : Int), v111 = modQ day (40 : Int) → ((ix [{ Farm := v1.1, Year := v1.2, Versions := v1.3 : api_Application }, { Farm := raw.1, Year := raw.2, Versions := raw.3 : api_Application }] z10).3.length ≤ (1999999 : Nat) ∧ ∀ (v112 : api_Version), v112 ∈ (ix [{ Farm := v1.1, Year := v1.2, Versions := v1.3 : api_Application }, { Farm := raw.1, Year := raw.2, Versions := raw.3 : api_Application }] z10).3 → v112.2.length ≤ (2000000 : Nat) ∧ ∀ (v113 : api_Line), v113 ∈ v112.2 → v113.2.1.length ≤ (2000000 : Nat)) ∧ ∀ (v114 : api_Application) (v115 : Int), (v114, v115) = nwdS { Farm := (ix [{ Farm := v1.1, Year := v1.2, Versions := v1.3 : api_Application }, { Farm := raw.1, Year := raw.2, Versions := raw.3 : api_Application }] z10).1, Year := (ix [{ Farm := v1.1, Year := v1.2, Versions := v1.3 : api_Application }, { Farm := raw.1, Year := raw.2, Versions := raw.3 : api_Application }] z10).2, Versions := (ix [{ Farm := v1.1, Year := v1.2, Versions := v1.3 : api_Application }, { Farm := raw.1, Year := raw.2, Versions := raw.3 : api_Application }] z10).3 : api_Application } (ix [by_, v41] z43) v111 (2 : Int) v2 v3 (ix [v4, y5, l] z7) → ((40 : Int) ≤ (9223372036854775807 : Int) ∧ ∀ (v116 : Int), v116 = modQ day (40 : Int) → (((ix [{ Farm := v1.1, Year := v1.2, Versions := v1.3 : api_Application }, { Farm := raw.1, Year := raw.2, Versions := raw.3 : api_Application }] z10).3.length ≤ (1999999 : Nat) ∧ ∀ (v117 : api_Version), v117 ∈ (ix [{ Farm := v1.1, Year := v1.2, Versions := v1.3 : api_Application }, { Farm := raw.1, Year := raw.2, Versions := raw.3 : api_Application }] z10).3 → v117.2.length ≤ (2000000 : Nat) ∧ ∀ (v118 : api_Line), v118 ∈ v117.2 → v118.2.1.length ≤ (2000000 : Nat)) ∧ ∀ (v119 : api_Application) (v120 : Int), (v119, v120) = nwdS { Farm := (ix [{ Farm := v1.1, Year := v1.2, Versions := v1.3 : api_Application }, { Farm := raw.1, Year := raw.2, Versions := raw.3 : api_Application }] z10).1, Year := (ix [{ Farm := v1.1, Year := v1.2, Versions := v1.3 : api_Application }, { Farm := raw.1, Year := raw.2, Versions := raw.3 : api_Application }] z10).2, Versions := (ix [{ Farm := v1.1, Year := v1.2, Versions := v1.3 : api_Application }, { Farm := raw.1, Year := raw.2, Versions := raw.3 : api_Application }] z10).3 : api_Application } (ix [by_, v41] z43) v116 (2 : Int) v2 v3 (ix [v4, y5, l] z7) → JOIN [Ty.bool] (fun (y121 : Bool) ↦ IFB (!decide (v115 = v120) || !y121) (post false) (rec42 (IntKind.i64.wrap (z43 + (1 : Int))))) fun (J122 : Bool → Prop) ↦ IFB (gx false !decide (v115 = v120)) ((v114.3.length ≤ (1000000000 : Nat) ∧ ∀ (v123 : api_Version), v123 ∈ v114.3 → v123.2.length ≤ (1000000000 : Nat) ∧ ∀ (v124 : api_Line), v124 ∈ v123.2 → v124.2.1.length ≤ (1000000000 : Nat)) ∧ ∀ (v125 : Bool), (v125 = true ↔ { Farm := v114.1, Year := v114.2, Versions := v114.3 : api_Application } = { Farm := v119.1, Year := v119.2, Versions := v119.3 : api_Application }) → J122 v125) (J122 false)) ∧ ((ix [{ Farm := v1.1, Year := v1.2, Versions := v1.3 : api_Application }, { Farm := raw.1, Year := raw.2, Versions := raw.3 : api_Application }] z10).3.length ≤ (1999999 : Nat) ∧ ∀ (v126 : api_Version), v126 ∈ (ix [{ Farm := v1.1, Year := v1.2, Versions := v1.3 : api_Application }, { Farm := raw.1, Year := raw.2, Versions := raw.3 : api_Application }] z10).3 → v126.2.length ≤ (2000000 : Nat) ∧ ∀ (v127 : api_Line), v127 ∈ v126.2 → v127.2.1.length ≤ (2000000 : Nat)) ∧ ∀ (v128 : api_Application) (v129 : Int), (v128, v129) = nwdS { Farm := (ix [{ Farm := v1.1, Year := v1.2, Versions := v1.3 : api_Application }, { Farm := raw.1, Year := raw.2, Versions := raw.3 : api_Application }] z10).1, Year := (ix [{ Farm := v1.1, Year := v1.2, Versions := v1.3 : api_Application }, { Farm := raw.1, Year := raw.2, Versions := raw.3 : api_Application }] z10).2, Versions := (ix [{ Farm := v1.1, Year := v1.2, Versions := v1.3 : api_Application }, { Farm := raw.1, Year := raw.2, Versions := raw.3 : api_Application }] z10).3 : api_Application } (ix [by_, v41] z43) v116 (2 : Int) v2 v3 (ix [v4, y5, l] z7) → JOIN [Ty.bool] (fun (y130 : Bool) ↦ IFB (!decide (v115 = v129) || !y130) (post false) (rec42 (IntKind.i64.wrap (z43 + (1 : Int))))) fun (J131 : Bool → Prop) ↦ IFB (gx false !decide (v115 = v129)) ((v114.3.length ≤ (1000000000 : Nat) ∧ ∀ (v132 : api_Version), v132 ∈ v114.3 → v132.2.length ≤ (1000000000 : Nat) ∧ ∀ (v133 : api_Line), v133 ∈ v132.2 → v133.2.1.length ≤ (1000000000 : Nat)) ∧ ∀ (v134 : Bool), (v134 = true ↔ { Farm := v114.1, Year := v114.2, Versions := v114.3 : api_Application } = { Farm := v128.1, Year := v128.2, Versions := v128.3 : api_Application }) → J131 v134) (J131 false)) ∧ (40 : Int) ≤ (9223372036854775807 : Int) ∧ ∀ (v135 : Int), v135 = modQ day (40 : Int) → ((ix [{ Farm := v1.1, Year := v1.2, Versions := v1.3 : api_Application }, { Farm := raw.1, Year := raw.2, Versions := raw.3 : api_Application }] z10).3.length ≤ (1999999 : Nat) ∧ ∀ (v136 : api_Version), v136 ∈ (ix [{ Farm := v1.1, Year := v1.2, Versions := v1.3 : api_Application }, { Farm := raw.1, Year := raw.2, Versions := raw.3 : api_Application }] z10).3 → v136.2.length ≤ (2000000 : Nat) ∧ ∀ (v137 : api_Line), v137 ∈ v136.2 → v137.2.1.length ≤ (2000000 : Nat)) ∧ ∀ (v138 : api_Application) (v139 : Int), (v138, v139) = nwdS { Farm := (ix [{ Farm := v1.1, Year := v1.2, Versions := v1.3 : api_Application }, { Farm := raw.1, Year := raw.2, Versions := raw.3 : api_Application }] z10).1, Year := (ix [{ Farm := v1.1, Year := v1.2, Versions := v1.3 : api_Application }, { Farm := raw.1, Year := raw.2, Versions := raw.3 : api_Application }] z10).2, Versions := (ix [{ Farm := v1.1, Year := v1.2, Versions := v1.3 : api_Application }, { Farm := raw.1, Year := raw.2, Versions := raw.3 : api_Application }] z10).3 : api_Application } (ix [by_, v41] z43) v135 (2 : Int) v2 v3 (ix [v4, y5, l] z7) → JOIN [Ty.bool] (fun (y140 : Bool) ↦ IFB (!decide (v115 = v139) || !y140) (post false) (rec42 (IntKind.i64.wrap (z43 + (1 : Int))))) fun (J141 : Bool → Prop) ↦ IFB (gx false !decide (v115 = v139)) ((v114.3.length ≤ (1000000000 : Nat) ∧ ∀ (v142 : api_Version), v142 ∈ v114.3 → v142.2.length ≤ (1000000000 : Nat) ∧ ∀ (v143 : api_Line), v143 ∈ v142.2 → v143.2.1.length ≤ (1000000000 : Nat)) ∧ ∀ (v144 : Bool), (v144 = true ↔ { Farm := v114.1, Year := v114.2, Versions := v114.3 : api_Application } = { Farm := v138.1, Year := v138.2, Versions := v138.3 : api_Application }) → J141 v144) (J141 false)) (rec9 (IntKind.i64.wrap (z10 + (1 : Int))))) ((0 : Int), PUnit.unit))) (y11, PUnit.unit)) fun (J145 : Int → Int → List api_Version → Prop) ↦ (((1 : Nat) ≤ v1.3.length ∧ v1.3.length ≤ (1000000 : Nat)) ∧ ((-1000000000 : Int) ≤ (ix v1.3 (↑(v1.3.length - (1 : Nat)) : Int)).1 ∧ (ix v1.3 (↑(v1.3.length - (1 : Nat)) : Int)).1 ≤ (1000000000 : Int)) ∧ (ix v1.3 (↑(v1.3.length - (1 : Nat)) : Int)).2.length ≤ (1000000 : Nat)) ∧ ∀ (v146 : api_Version), nextOK { Farm := v1.1, Year := v1.2, Versions := v1.3 : api_Application } v146 → (↑[{ Day := v146.1, Lines := v146.2 : api_Version }, { Day := v.1, Lines := v.2 : api_Version }].length : Int) ≤ (9223372036854775807 : Int) → J145 (0 : Int) (↑[{ Day := v146.1, Lines := v146.2 : api_Version }, { Day := v.1, Lines := v.2 : api_Version }].length : Int) [{ Day := v146.1, Lines := v146.2 : api_Version }, { Day := v.1, Lines := v.2 : api_Version }]) (rec6 (IntKind.i64.wrap (z7 + (1 : Int))))) ((0 : Int), PUnit.unit))) fun (J147 : Bool → Prop) ↦ ∀ (v148 : Int), v148 = nchkS (ix [v4, y5, l] z7) → ∀ (v149 : Int), v149 = nchkS (ix [v4, y5, l] z7) → JOIN [(Ty.int IntKind.i64).sl] (fun (y150 : List Int) ↦ JOIN [(Ty.int IntKind.i64).sl] (fun (y151 : List Int) ↦ JOIN [Ty.bool] (fun (y152 : Bool) ↦ ((JOIN [Ty.int IntKind.i64] (fun (y153 : Int) ↦ (JOIN [(Ty.int IntKind.i64).sl] (fun (y154 : List Int) ↦ (JOIN [Ty.int IntKind.i64] (fun (y155 : Int) ↦ JOIN [(Ty.int IntKind.i64).sl] (fun (y156 : List Int) ↦ JOIN [Ty.bool] (fun (y157 : Bool) ↦ J147 (!decide (v148 = v149) || !y152 || !y157)) fun (J158 : Bool → Prop) ↦ IFB (gx false (!decide (v148 = v149) || !y152)) (y154.length ≤ (1000000000 : Nat) ∧ ∀ (v159 : Bool), (v159 = true ↔ y154 = y156) → J158 v159) (J158 false)) fun (J160 : List Int → Prop) ↦ IFB (gx false (!decide (v148 = v149) || !y152)) (∀ (v161 : List Int), v161 = annS (ix [v4, y5, l] z7) v1.1 y155 → J160 v161) (J160 [])) fun (J162 : Int → Prop) ↦ IFB (gx false (!decide (v148 = v149) || !y152)) ((30 : Int) ≤ (9223372036854775807 : Int) ∧ ∀ (v163 : Int), v163 = modQ day (30 : Int) → J162 v163) (J162 (0 : Int))) ∧ JOIN [Ty.int IntKind.i64] (fun (y164 : Int) ↦ JOIN [(Ty.int IntKind.i64).sl] (fun (y165 : List Int) ↦ JOIN [Ty.bool] (fun (y166 : Bool) ↦ J147 (!decide (v148 = v149) || !y152 || !y166)) fun (J167 : Bool → Prop) ↦ IFB (gx false (!decide (v148 = v149) || !y152)) (y154.length ≤ (1000000000 : Nat) ∧ ∀ (v168 : Bool), (v168 = true ↔ y154 = y165) → J167 v168) (J167 false)) fun (J169 : List Int → Prop) ↦ IFB (gx false (!decide (v148 = v149) || !y152)) (∀ (v170 : List Int), v170 = annS (ix [v4, y5, l] z7) v1.1 y164 → J169 v170) (J169 [])) fun (J171 : Int → Prop) ↦ IFB (gx false (!decide (v148 = v149) || !y152)) ((30 : Int) ≤ (9223372036854775807 : Int) ∧ ∀ (v172 : Int), v172 = modQ day (30 : Int) → J171 v172) (J171 (0 : Int))) fun (J173 : List Int → Prop) ↦ IFB (gx false (!decide (v148 = v149) || !y152)) (∀ (v174 : List Int), v174 = annS (ix [v4, y5, l] z7) v1.1 y153 → J173 v174) (J173 [])) ∧ JOIN [(Ty.int IntKind.i64).sl] (fun (y175 : List Int) ↦ JOIN [Ty.int IntKind.i64] (fun (y176 : Int) ↦ JOIN [(Ty.int IntKind.i64).sl] (fun (y177 : List Int) ↦ JOIN [Ty.bool] (fun (y178 : Bool) ↦ J147 (!decide (v148 = v149) || !y152 || !y178)) fun (J179 : Bool → Prop) ↦ IFB (gx false (!decide (v148 = v149) || !y152)) (y175.length ≤ (1000000000 : Nat) ∧ ∀ (v180 : Bool), (v180 = true ↔ y175 = y177) → J179 v180) (J179 false)) fun (J181 : List Int → Prop) ↦ IFB (gx false (!decide (v148 = v149) || !y152)) (∀ (v182 : List Int), v182 = annS (ix [v4, y5, l] z7) v1.1 y176 → J181 v182) (J181 [])) fun (J183 : Int → Prop) ↦ IFB (gx false (!decide (v148 = v149) || !y152)) ((30 : Int) ≤ (9223372036854775807 : Int) ∧ ∀ (v184 : Int), v184 = modQ day (30 : Int) → J183 v184) (J183 (0 : Int))) fun (J185 : List Int → Prop) ↦ IFB (gx false (!decide (v148 = v149) || !y152)) (∀ (v186 : List Int), v186 = annS (ix [v4, y5, l] z7) v1.1 y153 → J185 v186) (J185 [])) fun (J187 : Int → Prop) ↦ IFB (gx false (!decide (v148 = v149) || !y152)) ((30 : Int) ≤ (9223372036854775807 : Int) ∧ ∀ (v188 : Int), v188 = modQ day (30 : Int) → J187 v188) (J187 (0 : Int))) ∧ JOIN [Ty.int IntKind.i64] (fun (y189 : Int) ↦ JOIN [(Ty.int IntKind.i64).sl] (fun (y190 : List Int) ↦ JOIN [Ty.int IntKind.i64] (fun (y191 : Int) ↦ JOIN [(Ty.int IntKind.i64).sl] (fun (y192 : List Int) ↦ JOIN [Ty.bool] (fun (y193 : Bool) ↦ J147 (!decide (v148 = v149) || !y152 || !y193)) fun (J194 : Bool → Prop) ↦ IFB (gx false (!decide (v148 = v149) || !y152)) (y190.length ≤ (1000000000 : Nat) ∧ ∀ (v195 : Bool), (v195 = true ↔ y190 = y192) → J194 v195) (J194 false)) fun (J196 : List Int → Prop) ↦ IFB (gx false (!decide (v148 = v149) || !y152)) (∀ (v197 : List Int), v197 = annS (ix [v4, y5, l] z7) v1.1 y191 → J196 v197) (J196 [])) fun (J198 : Int → Prop) ↦ IFB (gx false (!decide (v148 = v149) || !y152)) ((30 : Int) ≤ (9223372036854775807 : Int) ∧ ∀ (v199 : Int), v199 = modQ day (30 : Int) → J198 v199) (J198 (0 : Int))) fun (J200 : List Int → Prop) ↦ IFB (gx false (!decide (v148 = v149) || !y152)) (∀ (v201 : List Int), v201 = annS (ix [v4, y5, l] z7) v1.1 y189 → J200 v201) (J200 [])) fun (J202 : Int → Prop) ↦ IFB (gx false (!decide (v148 = v149) || !y152)) ((30 : Int) ≤ (9223372036854775807 : Int) ∧ ∀ (v203 : Int), v203 = modQ day (30 : Int) → J202 v203) (J202 (0 : Int))) ∧ (JOIN [Ty.int IntKind.i64] (fun (y204 : Int) ↦ ((JOIN [(Ty.int IntKind.i64).sl] (fun (y205 : List Int) ↦ (JOIN [Ty.int IntKind.i64] (fun (y206 : Int) ↦ JOIN [(Ty.int IntKind.i64).sl] (fun (y207 : List Int) ↦ JOIN [Ty.bool] (fun (y208 : Bool) ↦ J147 (!decide (v148 = v149) || !y152 || !y208)) fun (J209 : Bool → Prop) ↦ IFB (gx false (!decide (v148 = v149) || !y152)) (y205.length ≤ (1000000000 : Nat) ∧ ∀ (v210 : Bool), (v210 = true ↔ y205 = y207) → J209 v210) (J209 false)) fun (J211 : List Int → Prop) ↦ IFB (gx false (!decide (v148 = v149) || !y152)) (∀ (v212 : List Int), v212 = annS (ix [v4, y5, l] z7) v1.1 y206 → J211 v212) (J211 [])) fun (J213 : Int → Prop) ↦ IFB (gx false (!decide (v148 = v149) || !y152)) ((30 : Int) ≤ (9223372036854775807 : Int) ∧ ∀ (v214 : Int), v214 = modQ day (30 : Int) → J213 v214) (J213 (0 : Int))) ∧ JOIN [Ty.int IntKind.i64] (fun (y215 : Int) ↦ JOIN [(Ty.int IntKind.i64).sl] (fun (y216 : List Int) ↦ JOIN [Ty.bool] (fun (y217 : Bool) ↦ J147 (!decide (v148 = v149) || !y152 || !y217)) fun (J218 : Bool → Prop) ↦ IFB (gx false (!decide (v148 = v149) || !y152)) (y205.length ≤ (1000000000 : Nat) ∧ ∀ (v219 : Bool), (v219 = true ↔ y205 = y216) → J218 v219) (J218 false)) fun (J220 : List Int → Prop) ↦ IFB (gx false (!decide (v148 = v149) || !y152)) (∀ (v221 : List Int), v221 = annS (ix [v4, y5, l] z7) v1.1 y215 → J220 v221) (J220 [])) fun (J222 : Int → Prop) ↦ IFB (gx false (!decide (v148 = v149) || !y152)) ((30 : Int) ≤ (9223372036854775807 : Int) ∧ ∀ (v223 : Int), v223 = modQ day (30 : Int) → J222 v223) (J222 (0 : Int))) fun (J224 : List Int → Prop) ↦ IFB (gx false (!decide (v148 = v149) || !y152)) (∀ (v225 : List Int), v225 = annS (ix [v4, y5, l] z7) v1.1 y204 → J224 v225) (J224 [])) ∧ JOIN [(Ty.int IntKind.i64).sl] (fun (y226 : List Int) ↦ JOIN [Ty.int IntKind.i64] (fun (y227 : Int) ↦ JOIN [(Ty.int IntKind.i64).sl] (fun (y228 : List Int) ↦ JOIN [Ty.bool] (fun (y229 : Bool) ↦ J147 (!decide (v148 = v149) || !y152 || !y229)) fun (J230 : Bool → Prop) ↦ IFB (gx false (!decide (v148 = v149) || !y152)) (y226.length ≤ (1000000000 : Nat) ∧ ∀ (v231 : Bool), (v231 = true ↔ y226 = y228) → J230 v231) (J230 false)) fun (J232 : List Int → Prop) ↦ IFB (gx false (!decide (v148 = v149) || !y152)) (∀ (v233 : List Int), v233 = annS (ix [v4, y5, l] z7) v1.1 y227 → J232 v233) (J232 [])) fun (J234 : Int → Prop) ↦ IFB (gx false (!decide (v148 = v149) || !y152)) ((30 : Int) ≤ (9223372036854775807 : Int) ∧ ∀ (v235 : Int), v235 = modQ day (30 : Int) → J234 v235) (J234 (0 : Int))) fun (J236 : List Int → Prop) ↦ IFB (gx false (!decide (v148 = v149) || !y152)) (∀ (v237 : List Int), v237 = annS (ix [v4, y5, l] z7) v1.1 y204 → J236 v237) (J236 [])) ∧ JOIN [(Ty.int IntKind.i64).sl] (fun (y238 : List Int) ↦ JOIN [Ty.int IntKind.i64] (fun (y239 : Int) ↦ JOIN [(Ty.int IntKind.i64).sl] (fun (y240 : List Int) ↦ JOIN [Ty.bool] (fun (y241 : Bool) ↦ J147 (!decide (v148 = v149) || !y152 || !y241)) fun (J242 : Bool → Prop) ↦ IFB (gx false (!decide (v148 = v149) || !y152)) (y238.length ≤ (1000000000 : Nat) ∧ ∀ (v243 : Bool), (v243 = true ↔ y238 = y240) → J242 v243) (J242 false)) fun (J244 : List Int → Prop) ↦ IFB (gx false (!decide (v148 = v149) || !y152)) (∀ (v245 : List Int), v245 = annS (ix [v4, y5, l] z7) v1.1 y239 → J244 v245) (J244 [])) fun (J246 : Int → Prop) ↦ IFB (gx false (!decide (v148 = v149) || !y152)) ((30 : Int) ≤ (9223372036854775807 : Int) ∧ ∀ (v247 : Int), v247 = modQ day (30 : Int) → J246 v247) (J246 (0 : Int))) fun (J248 : List Int → Prop) ↦ IFB (gx false (!decide (v148 = v149) || !y152)) (∀ (v249 : List Int), v249 = annS (ix [v4, y5, l] z7) v1.1 y204 → J248 v249) (J248 [])) fun (J250 : Int → Prop) ↦ IFB (gx false (!decide (v148 = v149) || !y152)) ((30 : Int) ≤ (9223372036854775807 : Int) ∧ ∀ (v251 : Int), v251 = modQ day (30 : Int) → J250 v251) (J250 (0 : Int))) ∧ (JOIN [Ty.int IntKind.i64] (fun (y252 : Int) ↦ JOIN [(Ty.int IntKind.i64).sl] (fun (y253 : List Int) ↦ JOIN [Ty.int IntKind.i64] (fun (y254 : Int) ↦ JOIN [(Ty.int IntKind.i64).sl] (fun (y255 : List Int) ↦ JOIN [Ty.bool] (fun (y256 : Bool) ↦ J147 (!decide (v148 = v149) || !y152 || !y256)) fun (J257 : Bool → Prop) ↦ IFB (gx false (!decide (v148 = v149) || !y152)) (y253.length ≤ (1000000000 : Nat) ∧ ∀ (v258 : Bool), (v258 = true ↔ y253 = y255) → J257 v258) (J257 false)) fun (J259 : List Int → Prop) ↦ IFB (gx false (!decide (v148 = v149) || !y152)) (∀ (v260 : List Int), v260 = annS (ix [v4, y5, l] z7) v1.1 y254 → J259 v260) (J259 [])) fun (J261 : Int → Prop) ↦ IFB (gx false (!decide (v148 = v149) || !y152)) ((30 : Int) ≤ (9223372036854775807 : Int) ∧ ∀ (v262 : Int), v262 = modQ day (30 : Int) → J261 v262) (J261 (0 : Int))) fun (J263 : List Int → Prop) ↦ IFB (gx false (!decide (v148 = v149) || !y152)) (∀ (v264 : List Int), v264 = annS (ix [v4, y5, l] z7) v1.1 y252 → J263 v264) (J263 [])) fun (J265 : Int → Prop) ↦ IFB (gx false (!decide (v148 = v149) || !y152)) ((30 : Int) ≤ (9223372036854775807 : Int) ∧ ∀ (v266 : Int), v266 = modQ day (30 : Int) → J265 v266) (J265 (0 : Int))) ∧ JOIN [Ty.int IntKind.i64] (fun (y267 : Int) ↦ JOIN [(Ty.int IntKind.i64).sl] (fun (y268 : List Int) ↦ JOIN [Ty.int IntKind.i64] (fun (y269 : Int) ↦ JOIN [(Ty.int IntKind.i64).sl] (fun (y270 : List Int) ↦ JOIN [Ty.bool] (fun (y271 : Bool) ↦ J147 (!decide (v148 = v149) || !y152 || !y271)) fun (J272 : Bool → Prop) ↦ IFB (gx false (!decide (v148 = v149) || !y152)) (y268.length ≤ (1000000000 : Nat) ∧ ∀ (v273 : Bool), (v273 = true ↔ y268 = y270) → J272 v273) (J272 false)) fun (J274 : List Int → Prop) ↦ IFB (gx false (!decide (v148 = v149) || !y152)) (∀ (v275 : List Int), v275 = annS (ix [v4, y5, l] z7) v1.1 y269 → J274 v275) (J274 [])) fun (J276 : Int → Prop) ↦ IFB (gx false (!decide (v148 = v149) || !y152)) ((30 : Int) ≤ (9223372036854775807 : Int) ∧ ∀ (v277 : Int), v277 = modQ day (30 : Int) → J276 v277) (J276 (0 : Int))) fun (J278 : List Int → Prop) ↦ IFB (gx false (!decide (v148 = v149) || !y152)) (∀ (v279 : List Int), v279 = annS (ix [v4, y5, l] z7) v1.1 y267 → J278 v279) (J278 [])) fun (J280 : Int → Prop) ↦ IFB (gx false (!decide (v148 = v149) || !y152)) ((30 : Int) ≤ (9223372036854775807 : Int) ∧ ∀ (v281 : Int), v281 = modQ day (30 : Int) → J280 v281) (J280 (0 : Int))) fun (J282 : Bool → Prop) ↦ IFB (gx false !decide (v148 = v149)) (y150.length ≤ (1000000000 : Nat) ∧ ∀ (v283 : Bool), (v283 = true ↔ y150 = y151) → J282 v283) (J282 false)) fun (J284 : List Int → Prop) ↦ IFB (gx false !decide (v148 = v149)) (∀ (v285 : List Int), v285 = annS (ix [v4, y5, l] z7) farm day → J284 v285) (J284 [])) fun (J286 : List Int → Prop) ↦ IFB (gx false !decide (v148 = v149)) (∀ (v287 : List Int), v287 = annS (ix [v4, y5, l] z7) farm day → J286 v287) (J286 [])) (True ∧ post true)) ((0 : Int), PUnit.unit)) fun (J288 : List api_Notice → Prop) ↦ (↑([] ++ v4).length : Int) ≤ (9223372036854775807 : Int) → IFB (decide ((0 : Int) < (↑([] ++ v4).length : Int))) ((Int.NonNeg (0 : Int) ∧ (0 : Int) < (↑([] ++ v4).length : Int)) ∧ J288 (([] ++ v4).set ((0 : Nat)) { Farm := (ix ([] ++ v4) (0 : Int)).1, Parcel := by_, Day := (ix ([] ++ v4) (0 : Int)).3 : api_Notice })) (J288 ([] ++ v4)))
theorem lAmd_w (t : List (Int)) (raw : api_Application) (v : api_Version) (l : List (api_Notice)) (farm : Int) (day : Int) (by_ : Int) (post : Bool → Prop) : lAmd_W t raw v l farm day by_ post = lawG (callR Tryz.prog lAmd_C (drawR Tryz.prog tau) 14 0) 5 [tv (.sl (.int .i64)) t, tv (.st .api_Application) raw, tv (.st .api_Version) v, tv (.sl (.st .api_Notice)) l, tv (.int .i64) farm, tv (.int .i64) day, tv (.int .i64) by_] post := by kernel_rfl
theorem lAmd_calls (t : List (Int)) (raw : api_Application) (v : api_Version) (l : List (api_Notice)) (farm : Int) (day : Int) (by_ : Int) (h : lAmd_W t raw v l farm day by_ fun b => b = true) {w : World} {S : Cells} {us : List Value} (h1 : ∀ b o, S b o → b < w.heap.size) (h3 : us.length = 7) (h4 : ∀ (i : Nat) (d : D) (u : Value), [tv (.sl (.int .i64)) t, tv (.st .api_Application) raw, tv (.st .api_Version) v, tv (.sl (.st .api_Notice)) l, tv (.int .i64) farm, tv (.int .i64) day, tv (.int .i64) by_][i]? = some d → us[i]? = some u → Rd S w d u) : Calls Tryz.prog 5 us.toArray w fun e w' => (∃ b, e = .returned (.bool b) ∧ b = true) ∧ Below w.heap.size w w' := lawG_okH (cp := callR Tryz.prog lAmd_C (drawR Tryz.prog tau) 14 0) (callR_ok (C := lAmd_C) (dr := drawR Tryz.prog tau) (.cons (ruleN_ok knew_ok) (.cons (rule1_ok kapp_ok) (.cons (rule1_ok knot_ok) (.cons (rule1_ok knxt_ok) (.cons (rule1_ok nchkV_ok) (.cons (rule1_ok rnchk_ok) (.cons (rule1_ok nannV_ok) (.cons (rule1_ok rann_ok) (.cons (rule1_ok rints_ok) (.cons (rule1_ok kmod_ok) (.cons (rule1_ok nlockV_ok) (.cons (rule1_ok rlock_ok) (.cons (rule1_ok namdV_ok) (.cons (rule1_ok ramd36_ok) (.cons (rule1_ok rsma_ok) (.cons (rule1_ok nwdV_ok) (.cons (rule1_ok rwd36_ok) (.cons (rule1_ok nawake_ok) .nil)))))))))))))))))) (drawR_ok tau) 14 0) (HoldW.of (lAmd_w t raw v l farm day by_ fun b => b = true) h) h1 h3 h4
theorem applied_last {a : api_Application} {l e : Int} (h : appliedOK a l e) : ix a.Versions ((a.Versions.length - 1 : Nat) : Int) ∈ a.Versions := by
  obtain ⟨⟨h1, h2⟩, _⟩ := h
  exact ix_mem (by omega) (by omega)
theorem applied_big {a : api_Application} {l e : Int} (h : appliedOK a l e) : bigA a := by
  obtain ⟨⟨h1, h2⟩, h3, _⟩ := h
  refine ⟨by omega, fun v hv => ?_⟩
  obtain ⟨⟨q1, q2⟩, _⟩ := h3 v hv
  refine ⟨by omega, fun x hx => ?_⟩
  obtain ⟨p, _, _, hb⟩ := q1 x hx
  have := boxed_len hb
  omega
theorem applied_pre {a : api_Application} {l e : Int} (h : appliedOK a l e) : (1 ≤ a.3.length ∧ a.3.length ≤ 1000000) ∧ (-1000000000 ≤ (ix a.3 ((a.3.length - 1 : Nat) : Int)).1 ∧ (ix a.3 ((a.3.length - 1 : Nat) : Int)).1 ≤ 1000000000) ∧ (ix a.3 ((a.3.length - 1 : Nat) : Int)).2.length ≤ 1000000 := by
  have hm := applied_last h
  obtain ⟨⟨h1, h2⟩, h3, _, _, _, _, h4, h5⟩ := h
  obtain ⟨⟨q1, q2⟩, q3, q4⟩ := h3 _ hm
  have h1 : 1 ≤ a.3.length := h1
  have h2 : a.3.length ≤ 2 := h2
  have q3 : 2 ≤ (ix a.3 ((a.3.length - 1 : Nat) : Int)).1 := q3
  have q4 : (ix a.3 ((a.3.length - 1 : Nat) : Int)).1 ≤ l := q4
  have q2 : (ix a.3 ((a.3.length - 1 : Nat) : Int)).2.length ≤ 3 := q2
  refine ⟨⟨h1, by omega⟩, ⟨by omega, by omega⟩, by omega⟩
theorem next_big {a : api_Application} {l e : Int} (h : appliedOK a l e) {v : api_Version} (hv : nextOK a v) : bigV v := by
  have hm := (applied_big h).2 _ (applied_last h)
  obtain ⟨h1, _, h2⟩ := hv
  refine ⟨Nat.le_trans h1 hm.1, fun x hx => ?_⟩
  obtain ⟨y, hy, e⟩ := h2 x hx
  rw [e]; exact hm.2 y hy
theorem amendS_cases {a b : api_Application} {v : api_Version} {o la e q : Int} (h : (b, q) = amendS a v o la e) : (q ≠ 0 ∧ b = a) ∨ (q = 0 ∧ b = moreV a v) := by
  unfold amendS at h
  split at h
  · rename_i h1; injection h with e1 e2; exact .inl ⟨by rw [e2]; exact h1, e1⟩
  · split at h
    · rename_i h1; injection h with e1 e2; exact .inl ⟨by rw [e2]; exact h1, e1⟩
    · injection h with e1 e2; exact .inr ⟨e2, e1⟩
theorem namdS_cases {a b : api_Application} {v : api_Version} {o la e q : Int} {l : List api_Notice} (h : (b, q) = namdS a v o la e l) : (q ≠ 0 ∧ b = a) ∨ (q = 0 ∧ b = moreV a v ∧ nchkS l = 0 ∧ (lockS a v l).2 = false) := by
  unfold namdS at h
  split at h
  · rename_i h1; injection h with e1 e2; exact .inl ⟨by rw [e2]; exact h1, e1⟩
  · rename_i h0
    split at h
    · injection h with e1 e2; exact .inl ⟨by rw [e2]; decide, e1⟩
    · rename_i h1
      rcases amendS_cases h with h | h
      · exact .inl h
      · exact .inr ⟨h.1, h.2, by simpa using h0, by simpa using h1⟩
theorem big_same {a : api_Application} (h : bigA a) : a.3.length ≤ 1000000000 ∧ ∀ v ∈ a.3, v.2.length ≤ 1000000000 ∧ ∀ x ∈ v.2, x.2.1.length ≤ 1000000000 := by
  obtain ⟨h1, h2⟩ := h
  refine ⟨Nat.le_trans h1 (by omega), fun v hv => ?_⟩
  obtain ⟨h3, h4⟩ := h2 v hv
  exact ⟨Nat.le_trans h3 (by omega), fun x hx => Nat.le_trans (h4 x hx) (by omega)⟩
theorem more_big {a : api_Application} {v : api_Version} (h : bigA a) (h2 : a.Versions.length ≤ 1000) (hv : bigV v) : bigA (moreV a v) := by
  refine ⟨?_, fun w hw => ?_⟩
  · show (a.Versions ++ [v]).length ≤ 1999999
    simp only [List.length_append, List.length_cons, List.length_nil]; omega
  · have hw : w ∈ a.Versions ++ [v] := hw
    rcases List.mem_append.1 hw with hw | hw
    · exact h.2 w hw
    · rw [List.mem_singleton] at hw; subst hw; exact hv

theorem bigV_ok {v : api_Version} (h : ∀ c ∈ enc (.st .api_Version) v, Up.OkN 1048576 c) : bigV v := by
  have h1 : Up.OkN 1048576 (.sl (.st .api_Line) v.Lines) := h (.sl (.st .api_Line) v.Lines) (by show _ ∈ [D.v _, D.sl (.st .api_Line) v.Lines]; simp)
  have l1 : List.length (v.Lines : List api_Line) ≤ 1048576 := h1.len
  refine ⟨Nat.le_trans l1 (by omega), fun x hx => ?_⟩
  have h2 : Up.OkN 1048576 (.sl (.st .api_Rect) x.Region.Rects) := h1.each x hx (.sl (.st .api_Rect) x.Region.Rects) (by show _ ∈ [D.v _, D.sl (.st .api_Rect) x.Region.Rects, D.v _, D.v _]; simp)
  have l2 : List.length (x.Region.Rects : List api_Rect) ≤ 1048576 := h2.len
  exact Nat.le_trans l2 (by omega)
theorem bigA_ok {a : api_Application} (h : ∀ c ∈ enc (.st .api_Application) a, Up.OkN 1048576 c) : bigA a := by
  have h1 : Up.OkN 1048576 (.sl (.st .api_Version) a.Versions) := h (.sl (.st .api_Version) a.Versions) (by show _ ∈ [D.v _, D.v _, D.sl (.st .api_Version) a.Versions]; simp)
  have l1 : List.length (a.Versions : List api_Version) ≤ 1048576 := h1.len
  exact ⟨Nat.le_trans l1 (by omega), fun v hv => bigV_ok (h1.each v hv)⟩
theorem IFB.yes {c : Bool} {A B : Prop} (hc : c = true) (h : A) : IFB c A B := IFB.mk (fun _ => h) (fun e => by rw [hc] at e; cases e)
theorem IFB.no {c : Bool} {A B : Prop} (hc : c = false) (h : B) : IFB c A B := IFB.mk (fun e => by rw [hc] at e; cases e) (fun _ => h)
theorem namd_size {a b : api_Application} {v : api_Version} {o la e q : Int} {l : List api_Notice} (ha : bigA a) (h2 : a.Versions.length ≤ 1000) (hv : bigV v) (h : (b, q) = namdS a v o la e l) : b.3.length ≤ 1000000000 ∧ ∀ v ∈ b.3, v.2.length ≤ 1000000000 ∧ ∀ x ∈ v.2, x.2.1.length ≤ 1000000000 := by
  rcases namdS_cases h with ⟨_, rfl⟩ | ⟨_, rfl, _⟩
  · exact big_same ha
  · exact big_same (more_big ha h2 hv)
theorem nwd_size {a b : api_Application} {p d o la e q : Int} {l : List api_Notice} (ha : bigA a) (h2 : a.Versions.length ≤ 1000) (h : (b, q) = nwdS a p d o la e l) : b.3.length ≤ 1000000000 ∧ ∀ v ∈ b.3, v.2.length ≤ 1000000000 ∧ ∀ x ∈ v.2, x.2.1.length ≤ 1000000000 := by
  unfold nwdS at h
  split at h
  · injection h with e1 e2; subst e1; exact big_same ha
  · split at h
    · injection h with e1 e2; subst e1; exact big_same ha
    · rename_i hn
      refine namd_size ha h2 ?_ h
      have hne : a.Versions ≠ [] := fun e => hn (.inl e)
      have hm : ix a.Versions ((a.Versions.length - 1 : Nat) : Int) ∈ a.Versions := ix_mem (by omega) (by have := List.length_pos_iff.2 hne; omega)
      have := ha.2 _ hm
      exact ⟨Nat.le_trans (List.length_filter_le _ _) this.1, fun x hx => this.2 x (List.mem_filter.1 hx).1⟩
theorem lAmd_h (t : List Int) (raw : api_Application) (v : api_Version) (l : List api_Notice) (farm day by_ : Int) (hraw : bigA raw) (hv : bigV v) : lAmd_W t raw v l farm day by_ fun b => b = true := by
  unfold lAmd_W
  intro _ _ _
  refine IFB.mk (fun _ => ⟨trivial, rfl⟩) (fun h0 => ?_)
  have hr10 : raw.Versions.length ≤ 10 := by
    simp only [Bool.or_eq_false_iff, decide_eq_false_iff_not] at h0
    have : ¬ (10 : Int) < (raw.3.length : Int) := h0.1.1
    have e : raw.3.length = raw.Versions.length := rfl
    omega
  clear h0
  intro v1 v2 v3 h1 v4 h4
  have hB1 := applied_big h1
  have hv1 : v1.Versions.length ≤ 10 := by have := h1.1.2; omega
  have hp1 := applied_pre h1
  have h43 := h4.1
  refine ⟨by omega, JOIN.opq fun (J162 : List api_Notice → Prop) hJ162 => ?_⟩
  have hJ : ∀ y5, J162 y5 := fun y5 => by
    rw [hJ162]
    dsimp only
    intro _
    refine loopCmp (n := 3) (by omega) (p := fun _ => True) (fun rec k hk _ hrec => ⟨?_, ?_⟩) (fun _ => ⟨trivial, rfl⟩)
    · show (0 : Int) ≤ (k : Int) ∧ (k : Int) < ((3 : Nat) : Int); omega
    generalize ix [v4, y5, l] (k : Int) = X
    refine JOIN.opq fun (J147 : Bool → Prop) hJ147 => ?_
    have hF : J147 false := by
      rw [hJ147]
      dsimp only
      refine IFB.mk (fun h => by cases h) (fun _ _ => ?_)
      refine loopCmp (n := 2) (by omega) (p := fun _ => True) (fun rec2 m hm _ hrec2 => ⟨?_, ?_⟩) (fun _ => hrec trivial)
      · show (0 : Int) ≤ (m : Int) ∧ (m : Int) < ((2 : Nat) : Int); omega
      have hA : bigA (ix [(⟨v1.1, v1.2, v1.3⟩ : api_Application), ⟨raw.1, raw.2, raw.3⟩] (m : Int)) ∧ (ix [(⟨v1.1, v1.2, v1.3⟩ : api_Application), ⟨raw.1, raw.2, raw.3⟩] (m : Int)).Versions.length ≤ 1000 := by
        match m, hm with
        | 0, _ => exact ⟨hB1, by show v1.Versions.length ≤ 1000; omega⟩
        | 1, _ => exact ⟨hraw, by show raw.Versions.length ≤ 1000; omega⟩
      generalize ix [(⟨v1.1, v1.2, v1.3⟩ : api_Application), ⟨raw.1, raw.2, raw.3⟩] (m : Int) = A at *
      obtain ⟨hA, hA1⟩ := hA
      have hA2 : A.3.length ≤ 1999999 ∧ ∀ v ∈ A.3, v.2.length ≤ 2000000 ∧ ∀ x ∈ v.2, x.2.1.length ≤ 2000000 := hA
      refine JOIN.opq fun (J145 : Int → Int → List api_Version → Prop) hJ145 => ⟨hp1, fun v146 h146 _ => ?_⟩
      have hV6 := next_big h1 (v := v146) h146
      rw [hJ145]
      dsimp only
      refine loopCmp (n := 2) (by omega) (p := fun _ => True) (fun rec3 j hj _ hrec3 => ⟨?_, ?_⟩) (fun _ => ?_)
      · show (0 : Int) ≤ (j : Int) ∧ (j : Int) < ((2 : Nat) : Int); omega
      · have hZ : bigV (ix [(⟨v146.1, v146.2⟩ : api_Version), ⟨v.1, v.2⟩] (j : Int)) := by
          match j, hj with
          | 0, _ => exact hV6
          | 1, _ => exact hv
        generalize ix [(⟨v146.1, v146.2⟩ : api_Version), ⟨v.1, v.2⟩] (j : Int) = Z at *
        have hZ2 : Z.2.length ≤ 2000000 ∧ ∀ x ∈ Z.2, x.2.1.length ≤ 2000000 := hZ
        refine ⟨⟨hA2, hZ2⟩, fun p q e1 => ⟨⟨hA2, hZ2⟩, fun p' q' e2 => ⟨⟨hA2, hZ2⟩, fun b e e3 => ⟨⟨hA2, hZ2⟩, fun b' e' e4 => ?_⟩⟩⟩⟩
        have e12 := e1.trans e2.symm
        injection e12 with g1 g2
        subst g1 g2
        have e34 := e3.trans e4.symm
        injection e34 with g1 g2
        subst g1 g2
        refine JOIN.opq fun (J37 : Bool → Prop) hJ37 => IFB.yes (by simp [gx]) ⟨namd_size hA hA1 hZ e3, fun y hy => ?_⟩
        have : y = true := hy.2 rfl
        subst this
        rw [hJ37]
        dsimp only
        exact IFB.no (by simp) (hrec3 trivial)
      · refine ⟨by omega, fun v41 _ _ => ?_⟩
        refine loopCmp (n := 2) (by omega) (p := fun _ => True) (fun rec4 j hj _ hrec4 => ⟨?_, ?_⟩) (fun _ => hrec2 trivial)
        · show (0 : Int) ≤ (j : Int) ∧ (j : Int) < ((2 : Nat) : Int); omega
        generalize ix [by_, v41] (j : Int) = K
        have hrec4 := hrec4 trivial
        have last : ∀ (b b' : api_Application) (e e' : Int), (b, e) = nwdS A K (modQ day 40) 2 v2 v3 X → (b', e') = nwdS A K (modQ day 40) 2 v2 v3 X → JOIN [Ty.bool] (fun (y54 : Bool) => IFB (!decide (e = e') || !y54) (false = true) (rec4 (IntKind.i64.wrap ((j : Int) + 1)))) fun (J55 : Bool → Prop) => IFB (gx false !decide (e = e')) ((b.3.length ≤ 1000000000 ∧ ∀ v ∈ b.3, v.2.length ≤ 1000000000 ∧ ∀ x ∈ v.2, x.2.1.length ≤ 1000000000) ∧ ∀ y : Bool, (y = true ↔ (⟨b.1, b.2, b.3⟩ : api_Application) = ⟨b'.1, b'.2, b'.3⟩) → J55 y) (J55 false) := fun b b' e e' e3 e4 => by
          have e34 := e3.trans e4.symm
          injection e34 with g1 g2
          subst g1 g2
          refine JOIN.opq fun (J55 : Bool → Prop) hJ55 => IFB.yes (by simp [gx]) ⟨nwd_size hA hA1 e3, fun y hy => ?_⟩
          have : y = true := hy.2 rfl
          subst this
          rw [hJ55]
          dsimp only
          exact IFB.no (by simp) hrec4
        have h40 : (40 : Int) ≤ 9223372036854775807 := by omega
        repeat' first
          | exact hA2
          | exact h40
          | exact last _ _ _ _ ‹_› ‹_›
          | with_reducible apply And.intro
          | rintro _ rfl
          | intro (_ : api_Application) (_ : Int) (_ : _ = nwdS A K (modQ day 40) 2 v2 v3 X)
    rintro _ rfl _ rfl
    have hd : decide (nchkS X = nchkS X) = true := decide_eq_true rfl
    simp only []
    have h30 : (30 : Int) ≤ 9223372036854775807 := by omega
    have hl1 : ∀ d, (annS X v1.1 d).length ≤ 1000000000 := fun d => annS_len9
    have hl2 : ∀ f d, (annS X f d).length ≤ 1000000000 := fun f d => annS_len9
    repeat' first
      | exact hF
      | exact h30
      | exact hl2 _ _
      | refine JOIN.mk ?_
      | refine IFB.yes rfl ?_
      | rintro _ rfl
      | (intro (b : Bool) hb; obtain rfl : b = true := hb.2 rfl)
      | refine And.intro ?_ ?_
  intro _
  refine IFB.mk (fun h => ⟨⟨Int.NonNeg.mk _, ?_⟩, hJ _⟩) (fun _ => hJ _)
  exact of_decide_eq_true h

end RE
end Go.Proofs.YtfbfknmnkcddpaaGreat
