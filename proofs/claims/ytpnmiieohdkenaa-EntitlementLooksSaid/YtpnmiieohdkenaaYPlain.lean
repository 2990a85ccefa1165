/-
  Small laws of lists, for walks.
-/
import Derived.Test.YtpnmiieohdkenaaYEngC
import Derived.Test.YtpnmiieohdkenaaProg
import Derived.KernelRfl
set_option maxRecDepth 20000
namespace Go.Proofs.Ytpnmiieohdkenaa
open Go.RowKit
namespace RE
namespace PL
theorem here : True := trivial
end PL
open PL
theorem IFB_iff {b : Bool} {x y : Prop} : IFB b x y ↔ (b = true → x) ∧ (b = false → y) := ⟨fun h => ⟨h.t, h.f⟩, fun h => ⟨h.1, h.2⟩⟩
theorem JOIN_iff {ts : List Ty} {J : Cur ts} {B : Cur ts → Prop} : JOIN ts J B ↔ B J := ⟨fun h => h.h, fun h => ⟨h⟩⟩
/-- A loop over a list, from the front: what is said of the rest that is still to come. -/
theorem LOOP.list {ts : List Ty} {F : Cur ts → Cur ts} {v : dens ts} {α σ : Type} (l : List α) (st : Nat → σ → dens ts) (idx : dens ts → Nat) (G : Nat → List α → σ → Prop) (s0 : σ) (h0 : v = st 0 s0) (hG : G 0 l s0)
    (hidx : ∀ k s, k ≤ l.length → idx (st k s) = k)
    (hs : ∀ (rec : Cur ts) (k : Nat) (x : α) (r : List α) (s : σ), l.drop k = x :: r → l[k]? = some x → k < l.length → G k (x :: r) s → (∀ s', G (k + 1) r s' → app ts rec (st (k + 1) s')) → app ts (F rec) (st k s))
    (he : ∀ (rec : Cur ts) (s : σ), G l.length [] s → app ts (F rec) (st l.length s)) : LOOP ts F v := by
  refine ⟨fun u => ∃ k s, k ≤ l.length ∧ u = st k s ∧ G k (l.drop k) s, fun u => l.length - idx u, ⟨0, s0, Nat.zero_le _, h0, hG⟩, ?_⟩
  rintro x ⟨k, s, hk, rfl, hg⟩
  by_cases hlt : k < l.length
  · have hd : l.drop k = l[k] :: l.drop (k + 1) := List.drop_eq_getElem_cons hlt
    refine hs _ k l[k] (l.drop (k + 1)) s hd (List.getElem?_eq_getElem hlt) hlt (hd ▸ hg) fun s' hg' => ?_
    rw [app_lam]
    refine ⟨⟨k + 1, s', hlt, rfl, hg'⟩, ?_⟩
    show l.length - idx (st (k + 1) s') < l.length - idx (st k s)
    rw [hidx k s hk, hidx (k + 1) s' hlt]
    omega
  · have hk' : k = l.length := by omega
    subst hk'
    rw [List.drop_length] at hg
    exact he _ s hg
/-- A loop that counts down a number. -/
theorem LOOP.fuel {ts : List Ty} {F : Cur ts → Cur ts} {v : dens ts} (I : dens ts → Prop) (μ : dens ts → Nat) (h0 : I v)
    (hs : ∀ (rec : Cur ts) x, I x → (∀ y, I y → μ y < μ x → app ts rec y) → app ts (F rec) x) : LOOP ts F v :=
  ⟨I, μ, h0, fun x hx => hs _ x hx fun y hy hm => by rw [app_lam]; exact ⟨hy, hm⟩⟩
theorem ix_of {α : Type} [Inhabited α] {l : List α} {k : Nat} {x : α} (h : l[k]? = some x) : ix l (k : Int) = x := by
  unfold ix
  rw [Int.toNat_natCast, List.getD_eq_getElem?_getD, h]; rfl
theorem wrap_in {z : Int} (h1 : -9223372036854775808 ≤ z) (h2 : z ≤ 9223372036854775807) : IntKind.i64.wrap z = z := w64_eq h1 h2
theorem SpecOK.of_walkH {P : Program} {C : Ctx} {dr : DR} (hsp : SpecsOK P C.sp) (hdr : DrOK P dr) {n fk : Nat} {s : Spec} (h : ∀ x post, s.pt x post → HoldW (walk P C dr n fk s.f s.tp (tvs s.ts x) s.rs post)) : SpecOK P s :=
  SpecOK.of_walk hsp hdr fun x post hp => (h x post hp).h
theorem gx_t (b : Bool) : gx true b = b := rfl
theorem gx_f (b : Bool) : gx false b = !b := rfl
end RE
end Go.Proofs.Ytpnmiieohdkenaa
set_option linter.unusedVariables false
set_option maxRecDepth 100000
namespace Go.Proofs.Ytpnmiieohdkenaa
open Go.RowKit
namespace RE
open PL
theorem sub_front {α : Type} {l : List α} {k : Nat} : sub l 0 (k : Int) = l.take k := by
  unfold sub; simp
theorem ix_lt {α : Type} [Inhabited α] {l : List α} {k : Nat} (h : k < l.length) : ix l (k : Int) = l[k] := ix_of (List.getElem?_eq_getElem h)
theorem ix_mem {α : Type} [Inhabited α] {l : List α} {i : Int} (h1 : 0 ≤ i) (h2 : i < l.length) : ix l i ∈ l := List.mem_of_getElem? (ix_get (l := l) (i := i) ⟨h1, h2⟩)
theorem wrapS {k : Nat} (h : k ≤ 1000000000) : IntKind.i64.wrap ((k : Int) + 1) = ((k + 1 : Nat) : Int) := by
  rw [wrap_in (by omega) (by omega)]; rfl
theorem map_eq_iff {α β : Type} [Inhabited α] {f : α → β} {a b : List α} (h : a.length = b.length) : a.map f = b.map f ↔ ∀ j : Nat, j < a.length → f (ix a (j : Int)) = f (ix b (j : Int)) := by
  constructor
  · intro e j hj
    rw [ix_lt hj, ix_lt (by omega)]
    have := congrArg (fun l => l[j]?) e
    simpa [hj, (by omega : j < b.length)] using this
  · intro hh
    refine List.ext_getElem (by simpa using h) fun j h1 h2 => ?_
    have h1 : j < a.length := by simpa using h1
    have := hh j h1
    rw [ix_lt h1, ix_lt (by omega)] at this
    simpa using this
theorem list_eq_iff {α : Type} [Inhabited α] {a b : List α} (h : a.length = b.length) : a = b ↔ ∀ j : Nat, j < a.length → ix a (j : Int) = ix b (j : Int) := by
  have := map_eq_iff (f := id) h
  simpa using this
theorem loopCmp {n : Nat} (hn : n ≤ 1000000000) {B : (Int → Prop) → Int → Prop} {K : Prop} {p : Nat → Prop} (hB : ∀ (rec : Int → Prop) (k : Nat), k < n → (∀ j, j < k → p j) → (p k → rec (IntKind.i64.wrap ((k : Int) + 1))) → B rec (k : Int)) (hK : (∀ j, j < n → p j) → K) :
    LOOP [Ty.int IntKind.i64] (fun (rec : Int → Prop) (z : Int) => IFB (decide (z < (n : Int))) (B rec z) K) ((0 : Int), PUnit.unit) := by
  refine LOOP.fuel (fun u => ∃ k : Nat, u.1 = (k : Int) ∧ k ≤ n ∧ ∀ j, j < k → p j) (fun u => n - Int.toNat u.1) ⟨0, rfl, Nat.zero_le _, fun j hj => by omega⟩ ?_
  rintro rec ⟨(z : Int), ⟨⟩⟩ ⟨k, hz, hk, hp⟩ hrec
  have hz : z = (k : Int) := hz
  subst hz
  refine IFB.mk (fun hb => ?_) (fun hb => hK fun j hj => hp j (by have := of_decide_eq_false hb; omega))
  have hb : (k : Int) < n := of_decide_eq_true hb
  refine hB rec k (by omega) hp fun hpk => ?_
  rw [wrapS (by omega)]
  refine hrec (((k + 1 : Nat) : Int), ()) ⟨k + 1, rfl, by omega, fun j hj => ?_⟩ (by show n - ((k + 1 : Nat) : Int).toNat < n - (k : Int).toNat; omega)
  by_cases h : j = k
  · rw [h]; exact hpk
  · exact hp j (by omega)
end RE
end Go.Proofs.Ytpnmiieohdkenaa
set_option linter.unusedVariables false
set_option maxRecDepth 100000
namespace Go.Proofs.Ytpnmiieohdkenaa
open Go.RowKit
namespace RE
open PL
namespace PL
/-- An index comes before another one: of greater value, or of the same and smaller. -/
def bfR (v : Int → Int) (x y : Int) : Prop := v y < v x ∨ (v x = v y ∧ x < y)
def srtR (v : Int → Int) (l : List Int) : Prop := l.Pairwise (bfR v)
end PL
theorem bfR_trans {v : Int → Int} {x y z : Int} (h : bfR v x y) (k : bfR v y z) : bfR v x z := by
  unfold bfR at *; omega
theorem bfR_asymm {v : Int → Int} {x y : Int} (h : bfR v x y) (k : bfR v y x) : False := by
  unfold bfR at *; omega
theorem bfR_tri {v : Int → Int} {x y : Int} (h : x ≠ y) : bfR v x y ∨ bfR v y x := by
  unfold bfR; omega
theorem srt_uniq {v : Int → Int} {a b : List Int} (ha : srtR v a) (hb : srtR v b) (h : a.Perm b) : a = b :=
  List.Perm.eq_of_pairwise (fun x y _ _ h1 h2 => (bfR_asymm h1 h2).elim) ha hb h
/-- Two parts and two parts: the first ones come before the others. -/
theorem sym_split {v : Int → Int} {X1 X2 Y1 Y2 : List Int} (hX : srtR v (X1 ++ X2)) (hY : srtR v (Y1 ++ Y2)) (hc : ∀ x ∈ X1 ++ X2, ∀ y ∈ Y1 ++ Y2, x < y)
    (h1 : X1 = [] ∨ Y2 = [] ∨ ∃ A x y B, X1 = A ++ [x] ∧ Y2 = y :: B ∧ ¬ v x < v y) (h2 : X2 = [] ∨ Y1 = [] ∨ ∃ x B A y, X2 = x :: B ∧ Y1 = A ++ [y] ∧ v x < v y)
    {Z1 Z2 : List Int} (p1 : Z1.Perm (X1 ++ Y1)) (s1 : srtR v Z1) (p2 : Z2.Perm (X2 ++ Y2)) (s2 : srtR v Z2) : (Z1 ++ Z2).Perm ((X1 ++ X2) ++ (Y1 ++ Y2)) ∧ srtR v (Z1 ++ Z2) := by
  obtain ⟨x1, x2, x3⟩ := List.pairwise_append.1 hX
  obtain ⟨y1, y2, y3⟩ := List.pairwise_append.1 hY
  have a1 : ∀ x ∈ X1, ∀ y ∈ Y2, bfR v x y := fun x hx y hy => by
    rcases h1 with e | e | ⟨A, x', y', B, e1, e2, h⟩
    · rw [e] at hx; cases hx
    · rw [e] at hy; cases hy
    · have c0 : bfR v x' y' := by
        have := hc x' (by rw [e1]; simp) y' (by rw [e2]; simp)
        unfold bfR; omega
      have c1 : x = x' ∨ bfR v x x' := by
        rw [e1] at hx x1
        rcases List.mem_append.1 hx with h | h
        · exact .inr ((List.pairwise_append.1 x1).2.2 x h x' (by simp))
        · exact .inl (by simpa using h)
      have c2 : y = y' ∨ bfR v y' y := by
        rw [e2] at hy y2
        rcases List.mem_cons.1 hy with h | h
        · exact .inl h
        · exact .inr ((List.pairwise_cons.1 y2).1 y h)
      rcases c1 with rfl | c1 <;> rcases c2 with rfl | c2
      · exact c0
      · exact bfR_trans c0 c2
      · exact bfR_trans c1 c0
      · exact bfR_trans c1 (bfR_trans c0 c2)
  have a2 : ∀ y ∈ Y1, ∀ x ∈ X2, bfR v y x := fun y hy x hx => by
    rcases h2 with e | e | ⟨x', B, A, y', e1, e2, h⟩
    · rw [e] at hx; cases hx
    · rw [e] at hy; cases hy
    · have c0 : bfR v y' x' := .inl h
      have c1 : y = y' ∨ bfR v y y' := by
        rw [e2] at hy y1
        rcases List.mem_append.1 hy with h | h
        · exact .inr ((List.pairwise_append.1 y1).2.2 y h y' (by simp))
        · exact .inl (by simpa using h)
      have c2 : x = x' ∨ bfR v x' x := by
        rw [e1] at hx x2
        rcases List.mem_cons.1 hx with h | h
        · exact .inl h
        · exact .inr ((List.pairwise_cons.1 x2).1 x h)
      rcases c1 with rfl | c1 <;> rcases c2 with rfl | c2
      · exact c0
      · exact bfR_trans c0 c2
      · exact bfR_trans c1 c0
      · exact bfR_trans c1 (bfR_trans c0 c2)
  refine ⟨?_, List.pairwise_append.2 ⟨s1, s2, fun a ha b hb => ?_⟩⟩
  · refine (p1.append p2).trans ?_
    have e : (X1 ++ Y1 ++ (X2 ++ Y2)).Perm (X1 ++ X2 ++ (Y1 ++ Y2)) := by
      rw [List.append_assoc, List.append_assoc]
      refine List.Perm.append_left _ ?_
      rw [← List.append_assoc, ← List.append_assoc]
      exact List.Perm.append_right _ List.perm_append_comm
    exact e
  · have ha := p1.mem_iff.1 ha
    have hb := p2.mem_iff.1 hb
    rcases List.mem_append.1 ha with ha | ha <;> rcases List.mem_append.1 hb with hb | hb
    · exact x3 a ha b hb
    · exact a1 a ha b hb
    · exact a2 a ha b hb
    · exact y3 a ha b hb
/-- One element and others. -/
theorem sym_one {v : Int → Int} {x : Int} {Y1 Y2 : List Int} (hY : srtR v (Y1 ++ Y2)) (h1 : ∀ y ∈ Y1, bfR v y x) (h2 : ∀ y ∈ Y2, bfR v x y) : srtR v (Y1 ++ x :: Y2) := by
  obtain ⟨y1, y2, y3⟩ := List.pairwise_append.1 hY
  refine List.pairwise_append.2 ⟨y1, List.pairwise_cons.2 ⟨h2, y2⟩, fun a ha b hb => ?_⟩
  rcases List.mem_cons.1 hb with rfl | hb
  · exact h1 a ha
  · exact y3 a ha b hb
end RE
end Go.Proofs.Ytpnmiieohdkenaa
set_option linter.unusedVariables false
set_option maxRecDepth 100000
namespace Go.Proofs.Ytpnmiieohdkenaa
open Go.RowKit
namespace RE
open PL
namespace PL
def seg (l : List Int) (i j : Nat) : List Int := (l.take j).drop i
/-- Blocks of s elements, each with the same elements as that of L, in order. -/
def blkP (v : Int → Int) (L D : List Int) (s : Nat) : Prop := D.length = L.length ∧ ∀ k : Nat, (seg D (k * s) ((k + 1) * s)).Perm (seg L (k * s) ((k + 1) * s)) ∧ srtR v (seg D (k * s) ((k + 1) * s))
/-- The first k blocks of 2 s elements are in order, behind them those of s. -/
def mixP (v : Int → Int) (L D : List Int) (s k0 : Nat) : Prop := D.length = L.length ∧ (∀ k : Nat, k < k0 → (seg D (k * (2 * s)) ((k + 1) * (2 * s))).Perm (seg L (k * (2 * s)) ((k + 1) * (2 * s))) ∧ srtR v (seg D (k * (2 * s)) ((k + 1) * (2 * s)))) ∧
  ∀ k : Nat, 2 * k0 ≤ k → (seg D (k * s) ((k + 1) * s)).Perm (seg L (k * s) ((k + 1) * s)) ∧ srtR v (seg D (k * s) ((k + 1) * s))
end PL
theorem seg_split (l : List Int) {a m b : Nat} (h1 : a ≤ m) (h2 : m ≤ b) : seg l a b = seg l a m ++ seg l m b := by
  unfold seg
  have e : l.take b = l.take m ++ (l.take b).drop m := by
    conv => lhs; rw [← List.take_append_drop m (l.take b)]
    rw [List.take_take, Nat.min_eq_left h2]
  rw [e, List.drop_append, List.drop_append]
  rcases Nat.lt_or_ge m l.length with h | h
  · have e1 : (l.take m).length = m := by rw [List.length_take]; omega
    rw [e1, Nat.sub_self, Nat.sub_eq_zero_of_le h1]
    have e3 : (l.take m).drop m = [] := List.drop_eq_nil_of_le (by omega)
    rw [e3]
    rfl
  · have e2 : (l.take b).drop m = [] := List.drop_eq_nil_of_le (by rw [List.length_take]; omega)
    rw [e2]
    simp
theorem seg_parts (l : List Int) {a m b : Nat} (h1 : a ≤ m) (h2 : m ≤ b) : l = l.take a ++ seg l a m ++ seg l m b ++ l.drop b := by
  rw [List.append_assoc (l.take a), ← seg_split l h1 h2]
  have e : l.take a ++ seg l a b = l.take b := by
    unfold seg
    conv => rhs; rw [← List.take_append_drop a (l.take b)]
    rw [List.take_take, Nat.min_eq_left (Nat.le_trans h1 h2)]
  rw [e, List.take_append_drop]
theorem seg_len (l : List Int) {a b : Nat} (h : b ≤ l.length) : (seg l a b).length = b - a := by
  unfold seg; rw [List.length_drop, List.length_take]; omega
theorem seg_lenle (l : List Int) {a b : Nat} : (seg l a b).length = min b l.length - a := by
  unfold seg; rw [List.length_drop, List.length_take]
/-- A change between a and b leaves what is before and behind. -/
theorem seg_same {P X Z Q : List Int} {a b i j : Nat} (ha : a = P.length) (hb : b = P.length + X.length) (hl : Z.length = X.length) (h : j ≤ a ∨ b ≤ i) : seg (P ++ Z ++ Q) i j = seg (P ++ X ++ Q) i j := by
  subst ha hb
  unfold seg
  rcases h with h | h
  · rw [List.append_assoc, List.append_assoc, List.take_append_of_le_length h, List.take_append_of_le_length h]
  · rw [List.drop_take, List.drop_take]
    have e : ∀ Y : List Int, Y.length = X.length → (P ++ Y ++ Q).drop i = Q.drop (i - (P.length + X.length)) := fun Y hY => by
      rw [List.drop_append, List.drop_eq_nil_of_le (by simp; omega)]
      simp [hY]
    rw [e Z hl, e X rfl]
theorem seg_mid {P Z Q : List Int} {a b : Nat} (ha : a = P.length) (hb : b = P.length + Z.length) : seg (P ++ Z ++ Q) a b = Z := by
  subst ha hb
  unfold seg
  rw [List.take_append_of_le_length (by simp), List.take_of_length_le (by simp), List.drop_left]
/-- In an ascending list, elements of an earlier block are smaller. -/
theorem seg_lt {L : List Int} (hL : L.Pairwise (· < ·)) {a m b : Nat} (h1 : a ≤ m) (h2 : m ≤ b) {x y : Int} (hx : x ∈ seg L a m) (hy : y ∈ seg L m b) : x < y := by
  have h := seg_parts L h1 h2
  rw [h] at hL
  have q := (List.pairwise_append.1 hL).1
  exact (List.pairwise_append.1 q).2.2 x (List.mem_append.2 (.inr hx)) y hy
/-- The step of a round. -/
theorem mix_step {v : Int → Int} {L D Z : List Int} {s k0 m b : Nat} (hs : 0 < s) (h : mixP v L D s k0) (hm : m = k0 * (2 * s) + s) (hb : b = (k0 + 1) * (2 * s) ∨ (b = D.length ∧ b ≤ (k0 + 1) * (2 * s))) (hmb : m ≤ b) (hbl : b ≤ D.length)
    (hp : Z.Perm (seg D (k0 * (2 * s)) m ++ seg D m b)) (hz : srtR v Z) : mixP v L (D.take (k0 * (2 * s)) ++ Z ++ D.drop b) s (k0 + 1) := by
  obtain ⟨h0, h1, h2⟩ := h
  have ham : k0 * (2 * s) ≤ m := by omega
  have hdec : D = D.take (k0 * (2 * s)) ++ (seg D (k0 * (2 * s)) m ++ seg D m b) ++ D.drop b := by
    have := seg_parts D ham hmb
    rw [List.append_assoc (D.take _)] at this
    exact this
  have hPl : (D.take (k0 * (2 * s))).length = k0 * (2 * s) := by rw [List.length_take]; omega
  have hXl : (seg D (k0 * (2 * s)) m ++ seg D m b).length = b - k0 * (2 * s) := by rw [List.length_append, seg_len D (by omega), seg_len D hbl]; omega
  have hZl := hp.length_eq
  have same : ∀ i j, j ≤ k0 * (2 * s) ∨ b ≤ i → seg (D.take (k0 * (2 * s)) ++ Z ++ D.drop b) i j = seg D i j := fun i j hij => by
    conv => rhs; rw [hdec]
    exact seg_same (a := k0 * (2 * s)) (b := b) hPl.symm (by rw [hPl, hXl]; omega) hZl hij
  have hk1 : (k0 + 1) * (2 * s) = k0 * (2 * s) + 2 * s := Nat.succ_mul _ _
  refine ⟨?_, fun k hk => ?_, fun k hk => ?_⟩
  · rw [List.length_append, List.length_append, hPl, hZl, hXl, List.length_drop, h0]; omega
  · rcases Nat.lt_or_ge k k0 with h | h
    · have : (k + 1) * (2 * s) ≤ k0 * (2 * s) := Nat.mul_le_mul_right _ h
      rw [same _ _ (.inl this)]
      exact h1 k h
    · have hkk : k = k0 := by omega
      subst hkk
      have e1 : seg (D.take (k * (2 * s)) ++ Z ++ D.drop b) (k * (2 * s)) ((k + 1) * (2 * s)) = Z := by
        have hlen : (D.take (k * (2 * s)) ++ Z ++ D.drop b).length = D.length := by
          rw [List.length_append, List.length_append, hPl, hZl, hXl, List.length_drop]; omega
        have e2 : seg (D.take (k * (2 * s)) ++ Z ++ D.drop b) (k * (2 * s)) b = Z := seg_mid hPl.symm (by rw [hPl, hZl, hXl]; omega)
        rcases hb with hb | ⟨hb, hb2⟩
        · rw [← hb]; exact e2
        · unfold seg at e2 ⊢
          rw [List.take_of_length_le (by rw [hlen]; omega)]
          rw [List.take_of_length_le (by rw [hlen]; omega)] at e2
          exact e2
      rw [e1]
      refine ⟨?_, hz⟩
      refine hp.trans ?_
      obtain ⟨p1, _⟩ := h2 (2 * k) (Nat.le_refl _)
      obtain ⟨p2, _⟩ := h2 (2 * k + 1) (by omega)
      have e3 : 2 * k * s = k * (2 * s) := by rw [Nat.mul_comm 2 k, Nat.mul_assoc]
      have e4 : (2 * k + 1) * s = m := by rw [Nat.add_mul, e3]; omega
      have e5 : (2 * k + 1 + 1) * s = (k + 1) * (2 * s) := by rw [show 2 * k + 1 + 1 = 2 * (k + 1) by omega, Nat.mul_comm 2 (k + 1), Nat.mul_assoc]
      rw [e3, e4] at p1
      rw [e4, e5] at p2
      have e6 : seg D m b = seg D m ((k + 1) * (2 * s)) := by
        rcases hb with hb | ⟨hb, hb2⟩
        · rw [hb]
        · unfold seg
          rw [List.take_of_length_le (by omega), List.take_of_length_le (by omega)]
      rw [e6, seg_split L (a := k * (2 * s)) (m := m) (by omega) (by omega)]
      exact p1.append p2
  · have hks : (k0 + 1) * (2 * s) ≤ k * s := by
      have := Nat.mul_le_mul_right s hk
      rw [Nat.mul_comm 2 (k0 + 1), Nat.mul_assoc] at this
      exact this
    have hbk : b ≤ k * s := by omega
    rw [same _ _ (.inr hbk)]
    exact h2 k (by omega)
theorem mix_start {v : Int → Int} {L D : List Int} {s : Nat} (h : blkP v L D s) : mixP v L D s 0 := ⟨h.1, fun k hk => absurd hk (Nat.not_lt_zero k), fun k _ => h.2 k⟩
/-- Behind the last block nothing is left to merge. -/
theorem mix_end {v : Int → Int} {L D : List Int} {s k0 : Nat} (h : mixP v L D s k0) (hl : D.length ≤ k0 * (2 * s) + s) (hs : 0 < s) : blkP v L D (2 * s) := by
  obtain ⟨h0, h1, h2⟩ := h
  refine ⟨h0, fun k => ?_⟩
  rcases Nat.lt_or_ge k k0 with hk | hk
  · exact h1 k hk
  · rcases Nat.lt_or_ge k0 k with hk2 | hk2
    · have e : D.length ≤ k * (2 * s) := by
        have := Nat.mul_le_mul_right (2 * s) hk2
        rw [Nat.succ_mul] at this
        omega
      have e1 : ∀ l : List Int, l.length ≤ k * (2 * s) → seg l (k * (2 * s)) ((k + 1) * (2 * s)) = [] := fun l hl => by
        unfold seg; exact List.drop_eq_nil_of_le (by rw [List.length_take]; omega)
      rw [e1 D e, e1 L (by omega)]
      exact ⟨.refl _, .nil⟩
    · have : k = k0 := by omega
      subst this
      have := h2 (2 * k) (Nat.le_refl _)
      have e3 : 2 * k * s = k * (2 * s) := by rw [Nat.mul_comm 2 k, Nat.mul_assoc]
      have e4 : (2 * k + 1) * s = k * (2 * s) + s := by rw [Nat.add_mul, e3, Nat.one_mul]
      rw [e3, e4] at this
      have e5 : ∀ l : List Int, l.length ≤ k * (2 * s) + s → seg l (k * (2 * s)) ((k + 1) * (2 * s)) = seg l (k * (2 * s)) (k * (2 * s) + s) := fun l hl => by
        unfold seg
        rw [List.take_of_length_le (by rw [Nat.succ_mul]; omega), List.take_of_length_le hl]
      rw [e5 D hl, e5 L (by omega)]
      exact this
theorem blk_done {v : Int → Int} {L D : List Int} {s : Nat} (h : blkP v L D s) (hl : D.length ≤ s) : D.Perm L ∧ srtR v D := by
  obtain ⟨h0, h1⟩ := h
  have := h1 0
  have e : ∀ l : List Int, l.length ≤ s → seg l (0 * s) ((0 + 1) * s) = l := fun l hl => by
    unfold seg; rw [Nat.zero_mul, Nat.zero_add, Nat.one_mul, List.take_of_length_le hl]; rfl
  rw [e D hl, e L (by omega)] at this
  exact this
end RE
end Go.Proofs.Ytpnmiieohdkenaa
set_option linter.unusedVariables false
set_option maxRecDepth 100000
namespace Go.Proofs.Ytpnmiieohdkenaa
open Go.RowKit
namespace RE
open PL
namespace PL
/-- n elements from a on, and n from b on, change places. -/
def swapL (l : List Int) (a b n : Nat) : List Int := l.take a ++ seg l b (b + n) ++ seg l (a + n) b ++ seg l a (a + n) ++ l.drop (b + n)
/-- What is from a on before m, and what is from m on before b, change places. -/
def rotL (l : List Int) (a m b : Nat) : List Int := l.take a ++ seg l m b ++ seg l a m ++ l.drop b
/-- Element j, when i pairs have changed places. -/
def swf (l : List Int) (a b i j : Nat) : Int := if a ≤ j ∧ j < a + i then ix l ((b + (j - a) : Nat) : Int) else if b ≤ j ∧ j < b + i then ix l ((a + (j - b) : Nat) : Int) else ix l (j : Int)
end PL
theorem swapL_parts {P X M Y Q : List Int} {a b n : Nat} (ha : a = P.length) (hn : n = X.length) (hb : b = P.length + X.length + M.length) (hy : Y.length = X.length) : swapL (P ++ X ++ M ++ Y ++ Q) a b n = P ++ Y ++ M ++ X ++ Q := by
  subst ha hn hb
  unfold swapL
  have e1 : (P ++ X ++ M ++ Y ++ Q).take P.length = P := by simp
  have e2 : seg (P ++ X ++ M ++ Y ++ Q) (P.length + X.length + M.length) (P.length + X.length + M.length + X.length) = Y := seg_mid (by simp; omega) (by simp [hy]; omega)
  have e3 : seg (P ++ X ++ M ++ Y ++ Q) (P.length + X.length) (P.length + X.length + M.length) = M := by
    rw [show P ++ X ++ M ++ Y ++ Q = (P ++ X) ++ M ++ (Y ++ Q) by simp]
    exact seg_mid (by simp) (by simp)
  have e4 : seg (P ++ X ++ M ++ Y ++ Q) P.length (P.length + X.length) = X := by
    rw [show P ++ X ++ M ++ Y ++ Q = P ++ X ++ (M ++ Y ++ Q) by simp]
    exact seg_mid rfl (by simp)
  have e5 : (P ++ X ++ M ++ Y ++ Q).drop (P.length + X.length + M.length + X.length) = Q := by
    rw [show P.length + X.length + M.length + X.length = (P ++ X ++ M ++ Y).length by simp [hy]; omega, List.drop_left]
  rw [e1, e2, e3, e4, e5]
theorem rotL_parts {P X Y Q : List Int} {a m b : Nat} (ha : a = P.length) (hm : m = P.length + X.length) (hb : b = P.length + X.length + Y.length) : rotL (P ++ X ++ Y ++ Q) a m b = P ++ Y ++ X ++ Q := by
  subst ha hm hb
  unfold rotL
  have e1 : (P ++ X ++ Y ++ Q).take P.length = P := by simp
  have e2 : seg (P ++ X ++ Y ++ Q) (P.length + X.length) (P.length + X.length + Y.length) = Y := seg_mid (by simp) (by simp)
  have e4 : seg (P ++ X ++ Y ++ Q) P.length (P.length + X.length) = X := by
    rw [show P ++ X ++ Y ++ Q = P ++ X ++ (Y ++ Q) by simp]
    exact seg_mid rfl (by simp)
  have e5 : (P ++ X ++ Y ++ Q).drop (P.length + X.length + Y.length) = Q := by
    rw [show P.length + X.length + Y.length = (P ++ X ++ Y).length by simp; omega, List.drop_left]
  rw [e1, e2, e4, e5]
theorem swapL_len {l : List Int} {a b n : Nat} (h1 : a + n ≤ b) (h2 : b + n ≤ l.length) : (swapL l a b n).length = l.length := by
  unfold swapL
  simp only [List.length_append, List.length_take, List.length_drop, seg_lenle]
  omega
/-- Any part. -/
theorem seg_get (l : List Int) {a b j : Nat} (hb : b ≤ l.length) (hj : j < b - a) : (seg l a b)[j]? = l[a + j]? := by
  unfold seg
  rw [List.getElem?_drop, List.getElem?_take]
  rw [if_pos (by omega)]
theorem swapL_ix {l : List Int} {a b n : Nat} (h1 : a + n ≤ b) (h2 : b + n ≤ l.length) {j : Nat} (hj : j < l.length) : ix (swapL l a b n) (j : Int) = swf l a b n j := by
  have hx : ∀ k : Nat, k < l.length → l[k]? = some (ix l (k : Int)) := fun k hk => by rw [ix_lt hk, List.getElem?_eq_getElem hk]
  have key : (swapL l a b n)[j]? = some (swf l a b n j) := by
    have l1 : (l.take a).length = a := by rw [List.length_take]; omega
    have l2 : (seg l b (b + n)).length = n := by rw [seg_len l h2]; omega
    have l3 : (seg l (a + n) b).length = b - (a + n) := seg_len l (by omega)
    have l4 : (seg l a (a + n)).length = n := by rw [seg_len l (by omega)]; omega
    unfold swapL swf
    by_cases c1 : j < a
    · rw [if_neg (by omega), if_neg (by omega), List.append_assoc, List.append_assoc, List.append_assoc, List.getElem?_append_left (by omega), List.getElem?_take, if_pos c1, hx j hj]
    by_cases c2 : j < a + n
    · rw [if_pos ⟨by omega, c2⟩, List.append_assoc, List.append_assoc, List.append_assoc, List.getElem?_append_right (by omega), l1, List.getElem?_append_left (by omega), seg_get l h2 (by omega), hx _ (by omega)]
    by_cases c3 : j < b
    · rw [if_neg (by omega), if_neg (by omega), List.append_assoc, List.append_assoc, List.getElem?_append_right (by simp [l1, l2]; omega), List.length_append, l1, l2, List.getElem?_append_left (by omega), seg_get l (by omega) (by omega), show a + n + (j - (a + n)) = j by omega, hx j hj]
    by_cases c4 : j < b + n
    · rw [if_neg (by omega), if_pos ⟨by omega, c4⟩, List.append_assoc, List.getElem?_append_right (by simp only [List.length_append, l1, l2, l3]; omega), List.length_append, List.length_append, l1, l2, l3, show j - (a + n + (b - (a + n))) = j - b by omega, List.getElem?_append_left (by omega), seg_get l (by omega) (by omega), hx _ (by omega)]
    · rw [if_neg (by omega), if_neg (by omega), List.getElem?_append_right (by simp only [List.length_append, l1, l2, l3, l4]; omega), List.length_append, List.length_append, List.length_append, l1, l2, l3, l4, List.getElem?_drop, show b + n + (j - (a + n + (b - (a + n)) + n)) = j by omega, hx j hj]
  exact ix_of key
theorem ix_setN {α : Type} [Inhabited α] {l : List α} {i j : Nat} {x : α} : ix (l.set i x) (j : Int) = if i = j ∧ i < l.length then x else ix l (j : Int) := by
  unfold ix
  simp only [Int.toNat_natCast]
  rw [List.getD_eq_getElem?_getD, List.getD_eq_getElem?_getD, List.getElem?_set]
  by_cases e : i = j
  · subst e
    by_cases h : i < l.length
    · simp [h]
    · simp [h]
  · simp [e]
/-- One pair more. -/
theorem swf_step {l D : List Int} {a b i : Nat} (h1 : a + i < b) (h2 : b + i < l.length) (hl : D.length = l.length) (hD : ∀ j : Nat, j < l.length → ix D (j : Int) = swf l a b i j) :
    ∀ j : Nat, j < l.length → ix ((D.set (a + i) (ix D ((b + i : Nat) : Int))).set (b + i) (ix D ((a + i : Nat) : Int))) (j : Int) = swf l a b (i + 1) j := fun j hj => by
  rw [ix_setN, ix_setN, hD _ (by omega), hD _ (by omega), hD j hj]
  unfold swf
  rw [List.length_set, hl]
  by_cases c1 : b + i = j
  · subst c1
    rw [if_pos ⟨rfl, h2⟩, if_neg (by omega), if_neg (by omega), if_neg (by omega), if_pos ⟨by omega, by omega⟩, show b + i - b = i by omega]
  · rw [if_neg (fun h => c1 h.1)]
    by_cases c2 : a + i = j
    · subst c2
      rw [if_pos ⟨rfl, by omega⟩, if_neg (by omega), if_neg (by omega), if_pos ⟨by omega, by omega⟩, show a + i - a = i by omega]
    · rw [if_neg (fun h => c2 h.1)]
      (repeat' split) <;> first | rfl | (exfalso; omega)
end RE
end Go.Proofs.Ytpnmiieohdkenaa
set_option linter.unusedVariables false
namespace Go.Proofs.Ytpnmiieohdkenaa
open Go.RowKit
namespace RE
namespace PL
def lotE (nx last : Int) (l : api_Lot) : Int :=
  if l.Number ≤ last ∨ nx ≤ l.Number then 19
  else if ¬(1 ≤ l.Owner ∧ l.Owner ≤ 60) ∨ ¬(1 ≤ l.User ∧ l.User ≤ 60) then 20
  else if l.Squares < 1 ∨ 268435456 < l.Squares ∨ l.Value < 0 ∨ 1048576 < l.Value then 2
  else if l.Used < -1 ∨ 100 < l.Used then 18 else 0
def lotsE (nx : Int) : Int → List api_Lot → Int
  | _, [] => 0
  | last, l :: r => if lotE nx last l = 0 then lotsE nx l.Number r else lotE nx last l
def sumL : List api_Lot → Int
  | [] => 0
  | l :: r => l.Squares + sumL r
def chkE (x : api_Entitlements) : Int :=
  if 80 < (x.Lots.length : Int) then 1
  else if x.Next < 1 ∨ 1073741824 < x.Next ∨ x.Reserve < 0 ∨ 1099511627776 < x.Reserve then 2
  else if lotsE x.Next 0 x.Lots = 0 then (if 1099511627776 < sumL x.Lots + x.Reserve then 1 else 0) else lotsE x.Next 0 x.Lots
def ownS (n : Int) : List api_Lot → Int
  | [] => 0
  | l :: r => (if l.Owner = n then l.Squares else 0) + ownS n r
def useS (n : Int) : List api_Lot → Int
  | [] => 0
  | l :: r => (if l.User = n then l.Squares else 0) + useS n r
def heldS (x : api_Entitlements) (n : Int) : Int × Int := if chkE x = 0 then (ownS n x.Lots, useS n x.Lots) else (0, 0)
def wholeS (x : api_Entitlements) : Int := if chkE x = 0 then sumL x.Lots + x.Reserve else 0
/-- An index among indices, behind those of values that are not less, from the back. -/
def insR (v : Int → Int) (i : Int) : List Int → List Int
  | [] => [i]
  | y :: r => if v y < v i then y :: insR v i r else i :: y :: r
def lotV (l : List api_Lot) (i : Int) : Int := (ix l i).Value
def idxS (n : Int) : Int → List api_Lot → List Int
  | _, [] => []
  | k, l :: r => if l.User = n then k :: idxS n (k + 1) r else idxS n (k + 1) r
def sortS (v : Int → Int) : List Int → List Int → List Int
  | out, [] => out
  | out, i :: r => sortS v (insR v i out.reverse).reverse r
def usableS (l : List api_Lot) (n : Int) : List Int := sortS (lotV l) [] (idxS n 0 l)
def seekS (n : Int) : Int → List api_Lot → Int
  | _, [] => -1
  | k, l :: r => if l.Number = n then k else seekS n (k + 1) r
/-- Squares taken out of lot i, which goes if nothing is left. -/
def takeS (l : List api_Lot) (i : Nat) (n : Int) : List api_Lot := match l, i with
  | [], _ => []
  | x :: r, 0 => if x.Squares - n = 0 then r else { x with Squares := x.Squares - n } :: r
  | x :: r, i + 1 => x :: takeS r i n
def downS (a b : Int) : Int := if 0 ≤ a ∧ 1 ≤ b then a / b else 0
/-- A lot that is right. -/
def LotOK (l : api_Lot) : Prop := 1 ≤ l.Owner ∧ l.Owner ≤ 60 ∧ 1 ≤ l.User ∧ l.User ≤ 60 ∧ 1 ≤ l.Squares ∧ l.Squares ≤ 268435456 ∧ 0 ≤ l.Value ∧ l.Value ≤ 1048576 ∧ -1 ≤ l.Used ∧ l.Used ≤ 100
end PL
open PL
theorem lotE_ok {nx last : Int} {l : api_Lot} (h : lotE nx last l = 0) : LotOK l ∧ last < l.Number ∧ l.Number < nx := by
  unfold lotE at h
  unfold LotOK
  grind (splits := 30)
theorem lotsE_ok {nx : Int} : ∀ {r : List api_Lot} {last : Int}, lotsE nx last r = 0 → ∀ l ∈ r, LotOK l
  | [], _, _, l, h => by cases h
  | x :: r, last, h, l, hl => by
    unfold lotsE at h
    have hx : lotE nx last x = 0 := by grind
    rcases List.mem_cons.1 hl with rfl | hl
    · exact (lotE_ok hx).1
    · exact lotsE_ok (nx := nx) (r := r) (last := x.Number) (by grind) l hl
theorem lot_ext {z y : api_Lot} (h1 : z.Number = y.Number) (h2 : z.Owner = y.Owner) (h3 : z.User = y.User) (h4 : z.Squares = y.Squares) (h5 : z.Value = y.Value) (h6 : z.Used = y.Used) : y = z := by
  cases z; cases y; simp_all
theorem chkE_lots {x : api_Entitlements} (h : chkE x = 0) : x.Lots.length ≤ 80 ∧ ∀ l ∈ x.Lots, LotOK l := by
  unfold chkE at h
  exact ⟨by grind, lotsE_ok (nx := x.Next) (last := 0) (by grind)⟩
theorem chkE_res {x : api_Entitlements} (h : chkE x = 0) : 1 ≤ x.Next ∧ x.Next ≤ 1073741824 ∧ 0 ≤ x.Reserve ∧ x.Reserve ≤ 1099511627776 ∧ sumL x.Lots + x.Reserve ≤ 1099511627776 := by
  unfold chkE at h
  grind
end RE
end Go.Proofs.Ytpnmiieohdkenaa
set_option linter.unusedVariables false
set_option maxRecDepth 100000
namespace Go.Proofs.Ytpnmiieohdkenaa
open Go.RowKit
namespace RE
open PL
theorem insR_app {v : Int → Int} {i : Int} : ∀ {B A : List Int}, (∀ y ∈ B, v y < v i) → (∀ p r, A = p :: r → ¬ v p < v i) → insR v i (B ++ A) = B ++ i :: A
  | [], [], _, _ => rfl
  | [], p :: r, _, h => by
    have := h p r rfl
    simp [insR, this]
  | b :: B, A, hB, h => by
    have hb := hB b (by simp)
    simp [insR, hb, insR_app (B := B) (A := A) (fun y hy => hB y (by simp [hy])) h]
/-- Where an index goes, told by the parts of the list. -/
theorem insR_parts {v : Int → Int} {i : Int} {A B : List Int} (hB : ∀ y ∈ B, v y < v i) (hA : ∀ A' p, A = A' ++ [p] → ¬ v p < v i) : (insR v i (A ++ B).reverse).reverse = A ++ i :: B := by
  rw [List.reverse_append, insR_app (fun y hy => hB y (by simpa using hy)) (fun p r e => ?_)]
  · simp
  · have : A = r.reverse ++ [p] := by have := congrArg List.reverse e; simpa using this
    exact hA _ _ this
theorem insR_len {v : Int → Int} {i : Int} : ∀ {l : List Int}, (insR v i l).length = l.length + 1
  | [] => rfl
  | y :: r => by
    unfold insR
    split
    · simp [insR_len (l := r)]
    · simp
theorem insR_mem {v : Int → Int} {i j : Int} : ∀ {l : List Int}, j ∈ insR v i l → j = i ∨ j ∈ l
  | [], h => by simpa [insR] using h
  | y :: r, h => by
    unfold insR at h
    split at h
    · rcases List.mem_cons.1 h with rfl | h
      · simp
      · rcases insR_mem (l := r) h with h | h
        · exact .inl h
        · exact .inr (by simp [h])
    · rcases List.mem_cons.1 h with rfl | h
      · simp
      · exact .inr h
theorem sortS_app {v : Int → Int} : ∀ {l m out : List Int}, sortS v out (l ++ m) = sortS v (sortS v out l) m
  | [], m, out => rfl
  | i :: r, m, out => by
    show sortS v _ (r ++ m) = _
    rw [sortS_app (l := r)]; rfl
theorem sortS_mem {v : Int → Int} {j : Int} : ∀ {l out : List Int}, j ∈ sortS v out l → j ∈ out ∨ j ∈ l
  | [], out, h => .inl h
  | i :: r, out, h => by
    rcases sortS_mem (l := r) h with h | h
    · rcases insR_mem (by simpa using h) with h | h
      · exact .inr (by simp [h])
      · exact .inl (by simpa using h)
    · exact .inr (by simp [h])
theorem sortS_len {v : Int → Int} : ∀ {l out : List Int}, (sortS v out l).length = out.length + l.length
  | [], out => rfl
  | i :: r, out => by
    show (sortS v _ r).length = _
    rw [sortS_len (l := r), List.length_reverse, insR_len]
    simp; omega
theorem idxS_mem {n j : Int} : ∀ {l : List api_Lot} {k : Int}, j ∈ idxS n k l → k ≤ j ∧ j < k + l.length
  | [], k, h => by cases h
  | x :: r, k, h => by
    unfold idxS at h
    have hr : j ∈ idxS n (k + 1) r → k ≤ j ∧ j < k + (x :: r).length := fun h => by
      have := idxS_mem (l := r) h
      simp; omega
    split at h
    · rcases List.mem_cons.1 h with rfl | h
      · simp; omega
      · exact hr h
    · exact hr h
theorem idxS_len {n : Int} : ∀ {l : List api_Lot} {k : Int}, (idxS n k l).length ≤ l.length
  | [], k => Nat.le_refl _
  | x :: r, k => by
    unfold idxS
    have := idxS_len (n := n) (l := r) (k := k + 1)
    split <;> simp <;> omega
theorem usableS_mem {l : List api_Lot} {n j : Int} (h : j ∈ usableS l n) : 0 ≤ j ∧ j < l.length := by
  unfold usableS at h
  rcases sortS_mem h with h | h
  · cases h
  · have := idxS_mem h; omega
theorem usableS_len {l : List api_Lot} {n : Int} : (usableS l n).length ≤ l.length := by
  unfold usableS
  rw [sortS_len]
  have := idxS_len (n := n) (l := l) (k := 0)
  simpa using this
theorem ix_app {α : Type} [Inhabited α] {A B : List α} {x : α} {k : Int} (hk : k = A.length) : ix (A ++ x :: B) k = x := by
  subst hk
  exact ix_of (by simp)
theorem set_app {α : Type} {A B : List α} {x y : α} {k : Nat} (hk : k = A.length) : (A ++ x :: B).set k y = A ++ y :: B := by
  subst hk; simp
/-- A sort by insertion, as the library does it (from the front on, up to b). -/
def isF (lots : List api_Lot) (a b : Int) (K : List Int → Prop) (D : List Int) : Prop :=
  LOOP [Ty.int IntKind.i64, (Ty.int IntKind.i64).sl] (fun (rec10 : Int → List Int → Prop) (z11 : Int) (z12 : List Int) ↦ IFB (decide (z11 < b)) (LOOP [Ty.int IntKind.i64, (Ty.int IntKind.i64).sl] (fun (rec13 : Int → List Int → Prop) (z14 : Int) (z15 : List Int) ↦ (gx true (decide (a < z14)) = true → (0 : Int) ≤ z14 ∧ z14 < (↑z15.length : Int)) ∧ (gx true (decide (a < z14)) = true → (0 : Int) ≤ IntKind.i64.wrap (z14 - (1 : Int)) ∧ IntKind.i64.wrap (z14 - (1 : Int)) < (↑z15.length : Int)) ∧ JOIN [Ty.int IntKind.i64] (fun (y16 : Int) ↦ IFB (decide (a < z14) && decide (y16 < (0 : Int))) (((0 : Int) ≤ IntKind.i64.wrap (z14 - (1 : Int)) ∧ IntKind.i64.wrap (z14 - (1 : Int)) < (↑z15.length : Int)) ∧ ((0 : Int) ≤ z14 ∧ z14 < (↑z15.length : Int)) ∧ ((0 : Int) ≤ z14 ∧ z14 < (↑z15.length : Int)) ∧ ((0 : Int) ≤ IntKind.i64.wrap (z14 - (1 : Int)) ∧ IntKind.i64.wrap (z14 - (1 : Int)) < (↑(z15.set z14.toNat (ix z15 (IntKind.i64.wrap (z14 - (1 : Int))))).length : Int)) ∧ rec13 (IntKind.i64.wrap (z14 - (1 : Int))) ((z15.set z14.toNat (ix z15 (IntKind.i64.wrap (z14 - (1 : Int))))).set (IntKind.i64.wrap (z14 - (1 : Int))).toNat (ix z15 z14))) (rec10 (IntKind.i64.wrap (z11 + (1 : Int))) z15)) fun (J17 : Int → Prop) ↦ IFB (gx true (decide (a < z14))) (((0 : Int) ≤ ix z15 (IntKind.i64.wrap (z14 - (1 : Int))) ∧ ix z15 (IntKind.i64.wrap (z14 - (1 : Int))) < (↑lots.length : Int)) ∧ ((0 : Int) ≤ ix z15 z14 ∧ ix z15 z14 < (↑lots.length : Int)) ∧ JOIN [Ty.int IntKind.i64] (fun (y18 : Int) ↦ J17 y18) fun (J19 : Int → Prop) ↦ IFB (!decide ((ix lots (ix z15 (IntKind.i64.wrap (z14 - (1 : Int))))).5 = (ix lots (ix z15 (IntKind.i64.wrap (z14 - (1 : Int))))).5)) (IFB (!decide ((ix lots (ix z15 z14)).5 = (ix lots (ix z15 z14)).5)) (J19 (0 : Int)) (J19 (-1 : Int))) (IFB (!decide ((ix lots (ix z15 z14)).5 = (ix lots (ix z15 z14)).5)) (J19 (1 : Int)) (IFB (decide ((ix lots (ix z15 (IntKind.i64.wrap (z14 - (1 : Int))))).5 < (ix lots (ix z15 z14)).5)) (J19 (-1 : Int)) (IFB (decide ((ix lots (ix z15 z14)).5 < (ix lots (ix z15 (IntKind.i64.wrap (z14 - (1 : Int))))).5)) (J19 (1 : Int)) (J19 (0 : Int)))))) (J17 (0 : Int))) (z11, z12, PUnit.unit)) (K z12)) (IntKind.i64.wrap (a + (1 : Int)), D, PUnit.unit)
theorem isF_ok {lots : List api_Lot} {K : List Int → Prop} {D : List Int} (hD : ∀ d ∈ D, 0 ≤ d ∧ d < lots.length) (hlen : D.length ≤ 1000000) (hK : K (sortS (lotV lots) [] D)) : isF lots 0 D.length K D := by
  unfold isF
  refine LOOP.fuel (fun u => ∃ k : Nat, 1 ≤ k ∧ u.1 = (k : Int) ∧ (k : Int) ≤ D.length + 1 ∧ (u.2.1 : List Int) = sortS (lotV lots) [] (D.take k) ++ D.drop k) (fun u => D.length + 2 - u.1.toNat) ?_ ?_
  · refine ⟨1, Nat.le_refl _, ?_, by omega, ?_⟩
    · show IntKind.i64.wrap (0 + 1) = _
      rw [wrap_in (by omega) (by omega)]; rfl
    · cases D with
      | nil => rfl
      | cons d D => rfl
  · rintro rec ⟨z11, z12, ⟨⟩⟩ ⟨k, hk1, hz, hk2, hd⟩ hrec
    have hz : z11 = (k : Int) := hz
    have hd : z12 = sortS (lotV lots) [] (D.take k) ++ D.drop k := hd
    subst hz
    show IFB _ _ _
    refine ⟨fun hlt => ?_, fun hge => ?_⟩
    · have hlt : (k : Int) < D.length := by simpa using hlt
      have hkl : k < D.length := by omega
      have hdrop : D.drop k = D[k] :: D.drop (k + 1) := List.drop_eq_getElem_cons hkl
      have htake : D.take (k + 1) = D.take k ++ [D[k]] := by simp
      obtain ⟨x, hx⟩ : ∃ x, x = D[k] := ⟨_, rfl⟩
      obtain ⟨pre, hpre⟩ : ∃ pre, pre = sortS (lotV lots) [] (D.take k) := ⟨_, rfl⟩
      have hpl : pre.length = k := by rw [hpre, sortS_len]; simp; omega
      have hpm : ∀ y ∈ pre, 0 ≤ y ∧ y < lots.length := fun y hy => by
        rw [hpre] at hy
        rcases sortS_mem hy with h | h
        · cases h
        · exact hD y (List.mem_of_mem_take h)
      have hxm : 0 ≤ x ∧ x < lots.length := by rw [hx]; exact hD _ (List.getElem_mem hkl)
      rw [hdrop, ← hx, ← hpre] at hd
      have hfin : ∀ A B : List Int, A ++ B = pre → (∀ y ∈ B, lotV lots y < lotV lots x) → (∀ A' p, A = A' ++ [p] → ¬ lotV lots p < lotV lots x) → rec ((k : Int) + 1) (A ++ x :: (B ++ D.drop (k + 1))) := fun A B hAB hB hA => by
        have e : sortS (lotV lots) [] (D.take (k + 1)) = A ++ x :: B := by
          rw [htake, sortS_app, ← hpre, ← hx]
          show (insR (lotV lots) x pre.reverse).reverse = _
          rw [← hAB]; exact insR_parts hB hA
        have := hrec (((k : Int) + 1 : Int), (A ++ x :: (B ++ D.drop (k + 1)) : List Int), ()) ⟨k + 1, by omega, rfl, by omega, by
          show _ = sortS (lotV lots) [] (D.take (k + 1)) ++ D.drop (k + 1)
          rw [e]; simp⟩ (by show D.length + 2 - ((k : Int) + 1).toNat < D.length + 2 - (k : Int).toNat; omega)
        exact this
      have wk : IntKind.i64.wrap ((k : Int) + 1) = k + 1 := wrap_in (by omega) (by omega)
      refine LOOP.fuel (fun u => ∃ A B : List Int, A ++ B = pre ∧ u.1 = (A.length : Int) ∧ (u.2.1 : List Int) = A ++ x :: (B ++ D.drop (k + 1)) ∧ ∀ y ∈ B, lotV lots y < lotV lots x) (fun u => u.1.toNat) ?_ ?_
      · exact ⟨pre, [], by simp, by show (k : Int) = _; rw [hpl], hd, fun y hy => by cases hy⟩
      · rintro rec2 ⟨z14, z15, ⟨⟩⟩ ⟨A, B, hAB, h1, h2, hB⟩ hrec2
        have h1 : z14 = (A.length : Int) := h1
        have h2 : z15 = A ++ x :: (B ++ D.drop (k + 1)) := h2
        have hAl : A.length ≤ k := by rw [← hpl, ← hAB]; simp
        subst h1 h2
        have wj : IntKind.i64.wrap ((A.length : Int) - 1) = A.length - 1 := wrap_in (by omega) (by omega)
        have hix : ix (A ++ x :: (B ++ D.drop (k + 1))) (A.length : Int) = x := ix_app rfl
        have hL : (A ++ x :: (B ++ D.drop (k + 1))).length = D.length := by
          have : A.length + B.length = k := by rw [← hpl, ← hAB]; simp
          simp; omega
        show _ ∧ _ ∧ _
        simp only [wk, wj, hix, hL, List.length_set]
        rcases List.eq_nil_or_concat A with hA0 | ⟨A', p, hA0⟩
        · have hf := hfin A B hAB hB (fun A' p e => by rw [hA0] at e; have := congrArg List.length e; simp at this)
          have hz : (A.length : Int) = 0 := by rw [hA0]; rfl
          repeat' (first | (refine JOIN.mk ?_) | (refine IFB.mk (fun hb => ?_) (fun hb => ?_)) | (with_reducible refine And.intro ?_ ?_) | intro hh)
          all_goals (try simp only [gx_t, hz] at *)
          all_goals first | exact hf | (simp at *; done) | grind
        · have hA1 : A = A' ++ [p] := by simpa using hA0
          have hAl' : A.length = A'.length + 1 := by rw [hA1]; simp
          have hj : (A.length : Int) - 1 = (A'.length : Int) := by omega
          have hixp : ix (A ++ x :: (B ++ D.drop (k + 1))) ((A.length : Int) - 1) = p := by
            rw [hj, hA1, List.append_assoc]; exact ix_app rfl
          have hp := hpm p (by rw [← hAB, hA1]; simp)
          have hset : ((A ++ x :: (B ++ D.drop (k + 1))).set (A.length : Int).toNat p).set ((A.length : Int) - 1).toNat x = A' ++ x :: ((p :: B) ++ D.drop (k + 1)) := by
            rw [Int.toNat_natCast, set_app rfl, hj, Int.toNat_natCast, hA1, List.append_assoc]
            exact set_app rfl
          have hgo : lotV lots p < lotV lots x → rec2 ((A.length : Int) - 1) (A' ++ x :: ((p :: B) ++ D.drop (k + 1))) := fun hv => by
            have := hrec2 (((A.length : Int) - 1 : Int), (A' ++ x :: ((p :: B) ++ D.drop (k + 1)) : List Int), ()) ⟨A', p :: B, by rw [← hAB, hA1]; simp, hj, rfl, fun y hy => by
              rcases List.mem_cons.1 hy with rfl | hy
              · exact hv
              · exact hB y hy⟩ (by show ((A.length : Int) - 1).toNat < (A.length : Int).toNat; omega)
            exact this
          have hst : ¬ lotV lots p < lotV lots x → rec ((k : Int) + 1) (A ++ x :: (B ++ D.drop (k + 1))) := fun hv => hfin A B hAB hB (fun A2 p2 e => by
            rw [hA1] at e
            have := List.append_inj' e rfl
            have e2 : p = p2 := by simpa using this.2
            rw [← e2]; exact hv)
          simp only [hixp, hset]
          unfold lotV at hgo hst
          have hpos : (0 : Int) < A.length := by omega
          repeat' (first | (refine JOIN.mk ?_) | (refine IFB.mk (fun hb => ?_) (fun hb => ?_)) | (with_reducible refine And.intro ?_ ?_) | intro hh)
          all_goals (try simp only [gx_t, decide_eq_true_eq, decide_eq_false_iff_not, Bool.and_eq_true, Bool.and_eq_false_iff, Bool.not_eq_true', Bool.not_eq_false'] at *)
          all_goals first | omega | grind
    · have hge : (D.length : Int) ≤ k := by simpa using hge
      have hd' : (z12 : List Int) = sortS (lotV lots) [] (D.take k) ++ D.drop k := hd
      rw [List.take_of_length_le (by omega), List.drop_of_length_le (by omega), List.append_nil] at hd'
      rw [← hd'] at hK
      exact hK
end RE
end Go.Proofs.Ytpnmiieohdkenaa
set_option linter.unusedVariables false
set_option maxRecDepth 100000
namespace Go.Proofs.Ytpnmiieohdkenaa
open Go.RowKit
namespace RE
open PL
namespace PL
abbrev R4 := List api_Lot × Int × Int × Int
def addS (ls : List api_Lot) (re nx : Int) (l : api_Lot) : R4 :=
  if 80 ≤ ls.length ∨ 1073741824 ≤ nx then (ls, re, nx, 1) else (ls ++ [{ l with Number := nx }], re, nx + 1, 0)
def farmP (n : Int) : Prop := 1 ≤ n ∧ n ≤ 60
instance (n : Int) : Decidable (farmP n) := inferInstanceAs (Decidable (_ ∧ _))
def keptS (a : api_Act) : Int := if a.Kind = 2 then a.Squares * a.Keep / 1000000 else 0
def moveS (ls : List api_Lot) (re nx : Int) (a : api_Act) : R4 :=
  let i := seekS a.Lot 0 ls
  let l := ix ls i
  if i < 0 then (ls, re, nx, 19)
  else if ¬ farmP a.To then (ls, re, nx, 20)
  else if l.Owner ≠ l.User ∨ l.Owner = a.To then (ls, re, nx, 22)
  else if a.Squares < 1 ∨ l.Squares < a.Squares ∨ (a.Kind = 2 ∧ (a.Keep < 0 ∨ 1000000 < a.Keep)) then (ls, re, nx, 2)
  else if a.Squares - keptS a = 0 then (takeS ls i.toNat a.Squares, re + keptS a, nx, 0)
  else addS (takeS ls i.toNat a.Squares) (re + keptS a) nx ⟨l.Number, if a.Kind = 2 then a.To else l.Owner, a.To, a.Squares - keptS a, l.Value, l.Used⟩
/-- Squares used, lot by lot; the last one may be divided. -/
def useL (yr : Int) : List api_Lot → Int → List Int → List api_Lot × Option api_Lot
  | ls, _, [] => (ls, none)
  | ls, left, i :: r =>
    if left = 0 then (ls, none)
    else if (ix ls i).Squares ≤ left then useL yr (ls.set i.toNat { ix ls i with Used := yr }) (left - (ix ls i).Squares) r
    else (ls.set i.toNat { ix ls i with Squares := (ix ls i).Squares - left }, some { ix ls i with Squares := left, Used := yr })
def useAct (ls : List api_Lot) (re nx : Int) (a : api_Act) : R4 :=
  if ¬ farmP a.Farm then (ls, re, nx, 20)
  else if a.Year < 0 ∨ 100 < a.Year ∨ ∃ i ∈ usableS ls a.Farm, a.Year < (ix ls i).Used then (ls, re, nx, 18)
  else if a.Squares < 1 ∨ 268435456 < a.Squares then (ls, re, nx, 2)
  else if useS a.Farm ls < a.Squares then (ls, re, nx, 22)
  else match useL a.Year ls a.Squares (usableS ls a.Farm) with
    | (ls', none) => (ls', re, nx, 0)
    | (ls', some l) => addS ls' re nx l
def heirS (f t : Int) (l : api_Lot) : api_Lot := { l with Owner := if l.Owner = f then t else l.Owner, User := if l.User = f then t else l.User }
def lapseS (y : Int) : List api_Lot → List api_Lot
  | [] => []
  | l :: r => if l.Used ≤ y - 2 then lapseS y r else l :: lapseS y r
def lapseN (y : Int) : List api_Lot → Int
  | [] => 0
  | l :: r => if l.Used ≤ y - 2 then l.Squares + lapseN y r else lapseN y r
def actS (ls : List api_Lot) (re nx : Int) (a : api_Act) : R4 :=
  let i := seekS a.Lot 0 ls
  let l := ix ls i
  if a.Kind = 1 then
    if ¬ farmP a.To then (ls, re, nx, 20)
    else if a.Squares < 1 ∨ 268435456 < a.Squares ∨ a.Value < 0 ∨ 1048576 < a.Value then (ls, re, nx, 2)
    else if re < a.Squares then (ls, re, nx, 22)
    else addS ls (re - a.Squares) nx ⟨0, a.To, a.To, a.Squares, a.Value, -1⟩
  else if a.Kind = 2 ∨ a.Kind = 3 then moveS ls re nx a
  else if a.Kind = 4 then
    if i < 0 then (ls, re, nx, 19) else if l.Owner = l.User then (ls, re, nx, 22) else (ls.set i.toNat { l with User := l.Owner }, re, nx, 0)
  else if a.Kind = 5 then
    if ¬ farmP a.Farm ∨ ¬ farmP a.To ∨ a.Farm = a.To then (ls, re, nx, 20) else (ls.map (heirS a.Farm a.To), re, nx, 0)
  else if a.Kind = 6 then useAct ls re nx a
  else if a.Kind = 7 then
    if a.Year < 0 ∨ 100 < a.Year then (ls, re, nx, 18) else (lapseS a.Year ls, re + lapseN a.Year ls, nx, 0)
  else if a.Kind = 8 then
    if i < 0 then (ls, re, nx, 19) else if a.Squares < 1 ∨ l.Squares < a.Squares then (ls, re, nx, 2) else if l.Owner ≠ l.User then (ls, re, nx, 22)
    else (takeS ls i.toNat a.Squares, re + a.Squares, nx, 0)
  else (ls, re, nx, 14)
def applyS (x : api_Entitlements) (a : api_Act) : api_Entitlements × Int :=
  if chkE x ≠ 0 then (x, chkE x)
  else if (actS x.Lots x.Reserve x.Next a).2.2.2 ≠ 0 then (x, (actS x.Lots x.Reserve x.Next a).2.2.2)
  else (⟨(actS x.Lots x.Reserve x.Next a).1, (actS x.Lots x.Reserve x.Next a).2.1, (actS x.Lots x.Reserve x.Next a).2.2.1⟩, 0)
end PL
theorem seekS_spec {n : Int} : ∀ {l : List api_Lot} {k : Int}, 0 ≤ k → seekS n k l = -1 ∨ (k ≤ seekS n k l ∧ seekS n k l < k + l.length)
  | [], k, _ => .inl rfl
  | x :: r, k, hk => by
    unfold seekS
    split
    · right; simp; omega
    · rcases seekS_spec (n := n) (l := r) (k := k + 1) (by omega) with h | h
      · exact .inl h
      · right; simp; omega
theorem takeS_len {n : Int} : ∀ {l : List api_Lot} {i : Nat}, (takeS l i n).length ≤ l.length
  | [], _ => Nat.le_refl _
  | x :: r, 0 => by
    unfold takeS
    split <;> simp
  | x :: r, i + 1 => by
    have := takeS_len (n := n) (l := r) (i := i)
    simp [takeS]; exact this
theorem ix_set {α : Type} [Inhabited α] {l : List α} {i : Int} {v : α} (h1 : 0 ≤ i) (h2 : i < l.length) : ix (l.set i.toNat v) i = v := by
  unfold ix
  rw [List.getD_eq_getElem?_getD, List.getElem?_set, if_pos rfl, if_pos (by omega)]; rfl
theorem ix_set_ne {α : Type} [Inhabited α] {l : List α} {i j : Int} {v : α} (h1 : 0 ≤ i) (h2 : 0 ≤ j) (h : i ≠ j) : ix (l.set i.toNat v) j = ix l j := by
  unfold ix
  rw [List.getD_eq_getElem?_getD, List.getD_eq_getElem?_getD, List.getElem?_set, if_neg (by omega)]
/-- A list that is changed in place, element by element. -/
theorem map_step {α : Type} {l : List α} {f : α → α} {k : Nat} {x : α} (hk : l[k]? = some x) : ((l.take k).map f ++ l.drop k).set k (f x) = (l.take (k + 1)).map f ++ l.drop (k + 1) := by
  have hlt := (List.getElem?_eq_some_iff.1 hk).1
  have hx := (List.getElem?_eq_some_iff.1 hk).2
  have hd : l.drop k = x :: l.drop (k + 1) := by rw [← hx]; exact List.drop_eq_getElem_cons hlt
  have ht : l.take (k + 1) = l.take k ++ [x] := by rw [← hx]; simp
  rw [hd, set_app (by simp; omega), ht]; simp
theorem map_at {α : Type} [Inhabited α] {l : List α} {f : α → α} {k : Nat} {x : α} (hk : l[k]? = some x) : ix ((l.take k).map f ++ l.drop k) (k : Int) = x := by
  have hlt := (List.getElem?_eq_some_iff.1 hk).1
  have hx := (List.getElem?_eq_some_iff.1 hk).2
  have hd : l.drop k = x :: l.drop (k + 1) := by rw [← hx]; exact List.drop_eq_getElem_cons hlt
  rw [hd]; exact ix_app (by simp; omega)
theorem map_len {α : Type} {l : List α} {f : α → α} {k : Nat} : ((l.take k).map f ++ l.drop k).length = l.length := by
  simp; omega
theorem lapseN_le {y : Int} : ∀ {l : List api_Lot}, (∀ x ∈ l, 1 ≤ x.4 ∧ x.4 ≤ 268435456) → 0 ≤ lapseN y l ∧ lapseN y l ≤ 268435456 * l.length
  | [], _ => ⟨by simp [lapseN], by simp [lapseN]⟩
  | x :: r, h => by
    have h1 := lapseN_le (y := y) (l := r) (fun z hz => h z (by simp [hz]))
    have h2 := h x (by simp)
    unfold lapseN
    split <;> simp <;> omega
/-- Sums and products that are met in the acts. -/
theorem prod_in {a b : Int} (h1 : 1 ≤ a) (h2 : a ≤ 268435456) (h3 : 0 ≤ b) (h4 : b ≤ 1000000) : IntKind.i64.wrap (a * b) = a * b ∧ 0 ≤ a * b ∧ a * b ≤ 268435456000000 ∧ 0 ≤ a * b / 1000000 ∧ a * b / 1000000 ≤ a := by
  have e1 : 0 ≤ a * b := Int.mul_nonneg (by omega) h3
  have e2 : a * b ≤ 268435456 * 1000000 := Int.mul_le_mul h2 h4 h3 (by omega)
  have e3 : a * b ≤ a * 1000000 := Int.mul_le_mul_of_nonneg_left h4 (by omega)
  refine ⟨wrap_in (by omega) (by omega), e1, by omega, Int.ediv_nonneg e1 (by omega), ?_⟩
  exact Int.ediv_le_of_le_mul (by omega) e3
theorem get_mem {l : List api_Lot} {i : Int} (h1 : 0 ≤ i) (h2 : i < l.length) : ix l i ∈ l := List.mem_of_getElem? (ix_get (l := l) (i := i) ⟨h1, h2⟩)
end RE
end Go.Proofs.Ytpnmiieohdkenaa
set_option linter.unusedVariables false
set_option maxRecDepth 100000
namespace Go.Proofs.Ytpnmiieohdkenaa
open Go.RowKit
namespace RE
open PL
theorem takeS_cut {l : List api_Lot} {i : Nat} {n : Int} (h : i < l.length) (h0 : (ix l i).Squares - n = 0) : l.take i ++ l.drop (i + 1) = takeS l i n := by
  induction l generalizing i with
  | nil => simp at h
  | cons x r ih =>
    cases i with
    | zero => simp [takeS]; have : x.Squares - n = 0 := h0; simp [this]
    | succ i =>
      have hr : (ix r (i : Int)) = ix (x :: r) ((i + 1 : Nat) : Int) := by simp [ix, List.getD]
      simp only [List.take_succ_cons, List.drop_succ_cons, List.cons_append, takeS]
      rw [ih (by simpa using h) (by rw [hr]; exact h0)]
theorem takeS_set {l : List api_Lot} {i : Nat} {n : Int} (h : i < l.length) (h0 : (ix l i).Squares - n ≠ 0) : l.set i { ix l i with Squares := (ix l i).Squares - n } = takeS l i n := by
  induction l generalizing i with
  | nil => simp at h
  | cons x r ih =>
    cases i with
    | zero =>
      have h0 : ¬ x.Squares - n = 0 := h0
      have e : ix (x :: r) ((0 : Nat) : Int) = x := rfl
      simp only [takeS, List.set_cons_zero, e, if_neg h0]
    | succ i =>
      have hr : ix (x :: r) ((i + 1 : Nat) : Int) = ix r (i : Int) := by simp [ix, List.getD]
      simp only [List.set_cons_succ, takeS, hr]
      rw [ih (by simpa using h) (by rw [← hr]; exact h0)]
theorem sub_all {α : Type} {l : List α} {j : Int} (h1 : 0 ≤ j) : sub l j (l.length : Int) = l.drop j.toNat := by
  unfold sub
  rw [List.take_of_length_le (by simp)]
/-- What slices.Delete leaves. -/
theorem del_list {α : Type} {l r Y : List α} {i j : Int} (h1 : 0 ≤ i) (h2 : i ≤ j) (h3 : j ≤ l.length) :
    List.take (i + ((l.length : Int) - j)).toNat (List.take (i + ((l.length : Int) - j) - 0).toNat (l.take i.toNat ++ (sub l j (l.length : Int) ++ r)) ++ Y) = l.take i.toNat ++ l.drop j.toNat := by
  rw [sub_all (by omega), Int.sub_zero, ← List.append_assoc]
  have e : (i + ((l.length : Int) - j)).toNat = (l.take i.toNat ++ l.drop j.toNat).length := by simp; omega
  rw [e, List.take_left, List.take_left]
namespace PL
/-- The squares of the lots of which the numbers are given. -/
def SI (ls : List api_Lot) : List Int → Int
  | [] => 0
  | i :: r => (ix ls i).4 + SI ls r
end PL
theorem SI_app {ls : List api_Lot} : ∀ {l m : List Int}, SI ls (l ++ m) = SI ls l + SI ls m
  | [], m => by simp [SI]
  | i :: r, m => by
    show (ix ls i).4 + SI ls (r ++ m) = (ix ls i).4 + SI ls r + SI ls m
    rw [SI_app]; omega
theorem SI_rev {ls : List api_Lot} : ∀ {l : List Int}, SI ls l.reverse = SI ls l
  | [] => rfl
  | i :: r => by
    rw [List.reverse_cons, SI_app, SI_rev]
    show SI ls r + ((ix ls i).4 + 0) = (ix ls i).4 + SI ls r
    omega
theorem SI_ins {ls : List api_Lot} {v : Int → Int} {i : Int} : ∀ {l : List Int}, SI ls (insR v i l) = (ix ls i).4 + SI ls l
  | [] => rfl
  | y :: r => by
    unfold insR
    split
    · show (ix ls y).4 + SI ls (insR v i r) = (ix ls i).4 + ((ix ls y).4 + SI ls r)
      rw [SI_ins]; omega
    · rfl
theorem SI_sort {ls : List api_Lot} {v : Int → Int} : ∀ {l out : List Int}, SI ls (sortS v out l) = SI ls out + SI ls l
  | [], out => by show SI ls out = SI ls out + 0; omega
  | i :: r, out => by
    show SI ls (sortS v (insR v i out.reverse).reverse r) = SI ls out + ((ix ls i).4 + SI ls r)
    rw [SI_sort, SI_rev, SI_ins, SI_rev]; omega
theorem SI_idx {ls : List api_Lot} {n : Int} : ∀ {tl pre : List api_Lot}, ls = pre ++ tl → SI ls (idxS n (pre.length : Int) tl) = useS n tl
  | [], pre, h => rfl
  | x :: r, pre, h => by
    have ih := SI_idx (ls := ls) (n := n) (tl := r) (pre := pre ++ [x]) (by rw [h]; simp)
    have e : (((pre ++ [x]).length : Nat) : Int) = (pre.length : Int) + 1 := by simp
    rw [e] at ih
    have hx : ix ls (pre.length : Int) = x := by rw [h]; exact ix_app (by simp)
    unfold idxS useS
    split
    · show (ix ls _).4 + SI ls _ = _
      rw [ih, hx]
    · rw [ih]; omega
theorem SI_us {ls : List api_Lot} {n : Int} : SI ls (usableS ls n) = useS n ls := by
  unfold usableS
  rw [SI_sort]
  have := SI_idx (ls := ls) (n := n) (tl := ls) (pre := []) rfl
  show 0 + SI ls (idxS n 0 ls) = _
  rw [Int.zero_add]; exact this
namespace PL
/-- What is left of the squares, and their value so far, lot by lot. -/
def valL (ls : List api_Lot) : List Int → Int → Int → Int × Int
  | [], left, t => (left, t)
  | i :: r, left, t => valL ls r (left - min left (ix ls i).4) (t + min left (ix ls i).4 * (ix ls i).5)
def valueS (x : api_Entitlements) (n sq : Int) : Int × Int :=
  if chkE x ≠ 0 then (0, chkE x)
  else if ¬ farmP n then (0, 20)
  else if sq < 0 ∨ 268435456 < sq then (0, 2)
  else if useS n x.Lots < sq then (0, 22)
  else ((valL x.Lots (usableS x.Lots n) sq 0).2 / 100, 0)
def modS (a b : Int) : Int := if b < 1 then 0 else a % b
end PL
theorem valL_left {ls : List api_Lot} : ∀ {us : List Int} {left t : Int}, 0 ≤ left → (∀ j ∈ us, 1 ≤ (ix ls j).4) → (0 < (valL ls us left t).1 ↔ SI ls us < left)
  | [], left, t, h, _ => Iff.rfl
  | i :: r, left, t, h, hu => by
    have h1 := hu i (by simp)
    have hm : min left (ix ls i).4 ≤ left := Int.min_le_left _ _
    have ih := valL_left (ls := ls) (us := r) (left := left - min left (ix ls i).4) (t := t + min left (ix ls i).4 * (ix ls i).5) (by omega) (fun j hj => hu j (by simp [hj]))
    show 0 < (valL ls r (left - min left (ix ls i).4) (t + min left (ix ls i).4 * (ix ls i).5)).1 ↔ (ix ls i).4 + SI ls r < left
    rw [ih]
    have hs : 0 ≤ SI ls r := by
      have : ∀ {r : List Int}, (∀ j ∈ r, 1 ≤ (ix ls j).4) → 0 ≤ SI ls r := by
        intro r
        induction r with
        | nil => intro _; exact Int.le_refl _
        | cons a b ih => intro h; have := ih (fun j hj => h j (by simp [hj])); have := h a (by simp); show 0 ≤ (ix ls a).4 + SI ls b; omega
      exact this (fun j hj => hu j (by simp [hj]))
    rcases Int.le_total left (ix ls i).4 with h2 | h2
    · rw [Int.min_eq_left h2]; omega
    · rw [Int.min_eq_right h2]; omega
theorem tmod_of {a b : Int} (hb : 1 ≤ b) : (a.tmod b < 0 → a.tmod b + b = a % b) ∧ (¬ a.tmod b < 0 → a.tmod b = a % b) := by
  have h := Int.tmod_eq_emod (a := a) (b := b)
  have h1 := Int.emod_nonneg a (show b ≠ 0 by omega)
  have h2 := Int.emod_lt_of_pos a (show 0 < b by omega)
  have h3 : (b.natAbs : Int) = b := by omega
  split at h <;> constructor <;> intro h4 <;> omega
end RE
end Go.Proofs.Ytpnmiieohdkenaa
set_option linter.unusedVariables false
set_option maxRecDepth 100000
namespace Go.Proofs.Ytpnmiieohdkenaa
open Go.RowKit
namespace RE
open PL
theorem insR_srt {v : Int → Int} {i : Int} : ∀ {r : List Int}, r.Pairwise (fun a b => bfR v b a) → (∀ x ∈ r, x < i) → (insR v i r).Pairwise (fun a b => bfR v b a) ∧ (insR v i r).Perm (i :: r)
  | [], _, _ => ⟨by simp [insR], .refl _⟩
  | y :: r, h, hx => by
    obtain ⟨h1, h2⟩ := List.pairwise_cons.1 h
    unfold insR
    split
    · rename_i hv
      obtain ⟨k1, k2⟩ := insR_srt (i := i) h2 (fun x hx' => hx x (by simp [hx']))
      refine ⟨List.pairwise_cons.2 ⟨fun z hz => ?_, k1⟩, (k2.cons y).trans (.swap i y r)⟩
      rcases List.mem_cons.1 (k2.mem_iff.1 hz) with rfl | hz
      · exact .inl hv
      · exact h1 z hz
    · rename_i hv
      refine ⟨List.pairwise_cons.2 ⟨fun z hz => ?_, h⟩, .refl _⟩
      have hy : bfR v y i := by have := hx y (by simp); unfold bfR; omega
      rcases List.mem_cons.1 hz with rfl | hz
      · exact hy
      · exact bfR_trans (h1 z hz) hy
theorem sortS_srt {v : Int → Int} : ∀ {l out : List Int}, srtR v out → (∀ x ∈ out, ∀ y ∈ l, x < y) → l.Pairwise (· < ·) → srtR v (sortS v out l) ∧ (sortS v out l).Perm (out ++ l)
  | [], out, h, _, _ => ⟨h, by show out.Perm _; rw [List.append_nil]⟩
  | i :: r, out, h, hc, hl => by
    obtain ⟨l1, l2⟩ := List.pairwise_cons.1 hl
    have hr : out.reverse.Pairwise (fun a b => bfR v b a) := List.pairwise_reverse.2 h
    obtain ⟨k1, k2⟩ := insR_srt (i := i) hr (fun x hx => hc x (by simpa using hx) i (by simp))
    have h2 : srtR v (insR v i out.reverse).reverse := List.pairwise_reverse.2 k1
    have p2 : (insR v i out.reverse).reverse.Perm (i :: out) := (List.reverse_perm _).trans (k2.trans (List.Perm.cons _ (List.reverse_perm _)))
    obtain ⟨q1, q2⟩ := sortS_srt (l := r) h2 (fun x hx y hy => by
      rcases List.mem_cons.1 (p2.mem_iff.1 hx) with rfl | hx
      · exact l1 y hy
      · exact hc x hx y (by simp [hy])) l2
    refine ⟨q1, q2.trans ((p2.append_right r).trans ?_)⟩
    exact List.perm_middle.symm
theorem sort_uniq {v : Int → Int} {l l' : List Int} (hl : l.Pairwise (· < ·)) (hp : l'.Perm l) (hs : srtR v l') : l' = sortS v [] l := by
  obtain ⟨q1, q2⟩ := sortS_srt (v := v) (out := []) List.Pairwise.nil (fun x hx => by cases hx) hl
  exact srt_uniq hs q1 (hp.trans q2.symm)
theorem idxS_asc {n : Int} : ∀ {l : List api_Lot} {k : Int}, (idxS n k l).Pairwise (· < ·)
  | [], k => .nil
  | x :: r, k => by
    unfold idxS
    split
    · refine List.pairwise_cons.2 ⟨fun y hy => ?_, idxS_asc⟩
      have := idxS_mem hy
      omega
    · exact idxS_asc
end RE
end Go.Proofs.Ytpnmiieohdkenaa
set_option linter.unusedVariables false
set_option maxRecDepth 100000
namespace Go.Proofs.Ytpnmiieohdkenaa
open Go.RowKit
namespace RE
open PL

namespace PL
def inL (lots : List api_Lot) (l : List Int) : Prop := lots.length ≤ 1000000 ∧ ∀ d ∈ l, 0 ≤ d ∧ d < lots.length
def swOK (l : List Int) (a b n : Int) : Prop := 0 ≤ a ∧ 0 ≤ n ∧ a + n ≤ b ∧ b + n ≤ l.length ∧ l.length ≤ 1000000
def roOK (l : List Int) (a m b : Int) : Prop := 0 ≤ a ∧ a < m ∧ m < b ∧ b ≤ l.length ∧ l.length ≤ 1000000
def swN (l : List Int) (a b n : Int) : List Int := swapL l a.toNat b.toNat n.toNat
def roN (l : List Int) (a m b : Int) : List Int := rotL l a.toNat m.toNat b.toNat
def sgN (l : List Int) (a b : Int) : List Int := seg l a.toNat b.toNat
/-- Between a and b the same elements in order, elsewhere nothing new. -/
def ordQ (lots : List api_Lot) (l : List Int) (a b : Int) (l' : List Int) : Prop := ∃ Z : List Int, Z.Perm (sgN l a b) ∧ srtR (lotV lots) Z ∧ l' = l.take a.toNat ++ Z ++ l.drop b.toNat
def inOK (lots : List api_Lot) (l : List Int) (a b : Int) : Prop := 0 ≤ a ∧ a ≤ b ∧ b ≤ l.length ∧ l.length ≤ 1000000 ∧ inL lots l ∧ (sgN l a b).Pairwise (· < ·)
def syOK (k : Nat) (lots : List api_Lot) (l : List Int) (a m b : Int) : Prop := 0 ≤ a ∧ a < m ∧ m < b ∧ b ≤ l.length ∧ b ≤ a + k ∧ l.length ≤ 1000000 ∧ inL lots l ∧ srtR (lotV lots) (sgN l a m) ∧ srtR (lotV lots) (sgN l m b) ∧ ∀ x ∈ sgN l a m, ∀ y ∈ sgN l m b, x < y
def stOK (lots : List api_Lot) (l : List Int) (n : Int) : Prop := n = l.length ∧ l.length ≤ 100000 ∧ inL lots l ∧ l.Pairwise (· < ·)
def stQ (lots : List api_Lot) (l l' : List Int) : Prop := l'.Perm l ∧ srtR (lotV lots) l'
end PL
end RE
end Go.Proofs.Ytpnmiieohdkenaa
set_option linter.unusedVariables false
set_option maxRecDepth 100000
namespace Go.Proofs.Ytpnmiieohdkenaa
open Go.RowKit
namespace RE
open PL
theorem IFB.noL {c : Bool} {A B : Prop} (hc : c = false) (h : B) : IFB c A B := IFB.mk (fun e => by rw [hc] at e; cases e) (fun _ => h)
theorem IFB.yesL {c : Bool} {A B : Prop} (hc : c = true) (h : A) : IFB c A B := IFB.mk (fun _ => h) (fun e => by rw [hc] at e; cases e)
theorem JOIN.opqL {ts : List Ty} {J : Cur ts} {B : Cur ts → Prop} (h : ∀ J', J' = J → B J') : JOIN ts J B := JOIN.mk (h J rfl)
theorem cmp3 {A B : Int} {X : Prop} {J : Int → Prop} (h : ∀ y : Int, (y < 0 ↔ A < B) → J y) : IFB (!decide (A = A)) X (IFB (!decide (B = B)) (J 1) (IFB (decide (A < B)) (J (-1)) (IFB (decide (B < A)) (J 1) (J 0)))) := by
  refine IFB.noL (by simp) (IFB.noL (by simp) (IFB.mk (fun hb => h _ ?_) (fun hb => IFB.mk (fun hc => h _ ?_) (fun hc => h _ ?_))))
  · have := of_decide_eq_true hb; omega
  · have := of_decide_eq_false hb; omega
  · have := of_decide_eq_false hb; omega
theorem half_ok {i j : Nat} (h : i + j ≤ 4000000) : IntKind.i64.wrap ((IntKind.u64.wrap (IntKind.i64.wrap ((i : Int) + (j : Int)))).fdiv 2) = (((i + j) / 2 : Nat) : Int) := by
  have e1 : IntKind.i64.wrap ((i : Int) + (j : Int)) = (i : Int) + (j : Int) := wrap_in (by omega) (by omega)
  have e : IntKind.u64.wrap ((i : Int) + (j : Int)) = (i : Int) + (j : Int) := by
    unfold IntKind.wrap
    simp [IntKind.signed, IntKind.bits]
    omega
  rw [e1, e, Int.fdiv_eq_ediv_of_nonneg _ (by omega), wrap_in (by omega) (by omega)]
  omega
theorem wA {i j : Nat} (h : i + j ≤ 4000000) : IntKind.i64.wrap ((i : Int) + (j : Int)) = ((i + j : Nat) : Int) := by
  rw [wrap_in (by omega) (by omega)]; omega
theorem wB {i j : Nat} (h : i ≤ 4000000) (hj : j ≤ i) : IntKind.i64.wrap ((i : Int) - (j : Int)) = ((i - j : Nat) : Int) := by
  rw [wrap_in (by omega) (by omega)]; omega
theorem nat_of {z : Int} (h : 0 ≤ z) : ∃ k : Nat, z = (k : Int) := ⟨z.toNat, by omega⟩
end RE
end Go.Proofs.Ytpnmiieohdkenaa
set_option linter.unusedVariables false
set_option maxRecDepth 100000
namespace Go.Proofs.Ytpnmiieohdkenaa
open Go.RowKit
namespace RE
open PL
namespace PL
/-- The first k blocks of s are in order, the rest is as it was. -/
def insI (v : Int → Int) (L D : List Int) (s k : Nat) : Prop := D.length = L.length ∧ (∀ j : Nat, j < k → (seg D (j * s) ((j + 1) * s)).Perm (seg L (j * s) ((j + 1) * s)) ∧ srtR v (seg D (j * s) ((j + 1) * s))) ∧ D.drop (k * s) = L.drop (k * s)
end PL
theorem seg_of_drop {D L : List Int} {c b : Nat} (h : D.drop c = L.drop c) : seg D c b = seg L c b := by
  unfold seg; rw [List.drop_take, List.drop_take, h]
theorem ins_step {v : Int → Int} {L D Z : List Int} {s k b : Nat} (h : insI v L D s k) (hb : (b = (k + 1) * s ∧ b ≤ D.length) ∨ (b = D.length ∧ k * s ≤ b ∧ b ≤ (k + 1) * s)) (hp : Z.Perm (seg D (k * s) b)) (hz : srtR v Z) : insI v L (D.take (k * s) ++ Z ++ D.drop b) s (k + 1) := by
  obtain ⟨h0, h1, h2⟩ := h
  have hk1 : (k + 1) * s = k * s + s := Nat.succ_mul _ _
  have hkb : k * s ≤ b := by omega
  have hbl : b ≤ D.length := by omega
  have hPl : (D.take (k * s)).length = k * s := by rw [List.length_take]; omega
  have hZl : Z.length = b - k * s := by rw [hp.length_eq, seg_len D hbl]
  have hdec : D = D.take (k * s) ++ seg D (k * s) b ++ D.drop b := by
    have := seg_parts D (a := k * s) (m := k * s) (b := b) (Nat.le_refl _) hkb
    have e : seg D (k * s) (k * s) = [] := List.eq_nil_of_length_eq_zero (by rw [seg_len D (by omega)]; omega)
    rw [e, List.append_nil] at this
    exact this
  have hlen : (D.take (k * s) ++ Z ++ D.drop b).length = D.length := by
    rw [List.length_append, List.length_append, hPl, hZl, List.length_drop]; omega
  refine ⟨hlen.trans h0, fun j hj => ?_, ?_⟩
  · rcases Nat.lt_or_ge j k with hjk | hjk
    · have hjs : (j + 1) * s ≤ k * s := Nat.mul_le_mul_right _ hjk
      have : seg (D.take (k * s) ++ Z ++ D.drop b) (j * s) ((j + 1) * s) = seg D (j * s) ((j + 1) * s) := by
        conv => rhs; rw [hdec]
        exact seg_same (a := k * s) (b := b) hPl.symm (by rw [hPl, seg_len D hbl]; omega) (by rw [hZl, seg_len D hbl]) (.inl hjs)
      rw [this]
      exact h1 j hjk
    · have : j = k := by omega
      subst this
      have e1 : seg (D.take (j * s) ++ Z ++ D.drop b) (j * s) b = Z := seg_mid hPl.symm (by rw [hPl, hZl]; omega)
      have e2 : ∀ l : List Int, l.length = D.length → seg l (j * s) ((j + 1) * s) = seg l (j * s) b := fun l hl => by
        rcases hb with hb | hb
        · rw [hb.1]
        · unfold seg
          rw [List.take_of_length_le (by omega), List.take_of_length_le (by omega)]
      rw [e2 _ hlen, e2 L h0.symm, e1]
      exact ⟨hp.trans (by rw [seg_of_drop h2]), hz⟩
  · rcases hb with hb | hb
    · rw [← hb.1]
      have e1 : (D.take (k * s) ++ Z ++ D.drop b).drop b = D.drop b := by
        have : b = (D.take (k * s) ++ Z).length := by rw [List.length_append, hPl, hZl]; omega
        conv => lhs; rw [this]
        rw [List.drop_left, ← this]
      rw [e1]
      have := congrArg (fun l => l.drop (b - k * s)) h2
      simpa [List.drop_drop, show k * s + (b - k * s) = b by omega] using this
    · rw [List.drop_eq_nil_of_le (by omega), List.drop_eq_nil_of_le (by omega)]
theorem ins_end {v : Int → Int} {L D : List Int} {s k : Nat} (h : insI v L D s k) (hl : D.length ≤ k * s) : blkP v L D s := by
  obtain ⟨h0, h1, h2⟩ := h
  refine ⟨h0, fun j => ?_⟩
  rcases Nat.lt_or_ge j k with hj | hj
  · exact h1 j hj
  · have e : D.length ≤ j * s := Nat.le_trans hl (Nat.mul_le_mul_right _ hj)
    have e1 : ∀ l : List Int, l.length ≤ j * s → seg l (j * s) ((j + 1) * s) = [] := fun l hl => by
      unfold seg; exact List.drop_eq_nil_of_le (by rw [List.length_take]; omega)
    rw [e1 D e, e1 L (by omega)]
    exact ⟨.refl _, .nil⟩
theorem ord_perm {lots : List api_Lot} {D l' : List Int} {a b : Nat} (h1 : a ≤ b) (h2 : b ≤ D.length) (h : ordQ lots D (a : Int) (b : Int) l') : ∃ Z : List Int, Z.Perm (seg D a b) ∧ srtR (lotV lots) Z ∧ l' = D.take a ++ Z ++ D.drop b ∧ l'.Perm D := by
  obtain ⟨Z, z1, z2, z3⟩ := h
  unfold sgN at z1
  rw [Int.toNat_natCast, Int.toNat_natCast] at z1 z3
  refine ⟨Z, z1, z2, z3, ?_⟩
  have hdec : D = D.take a ++ seg D a b ++ D.drop b := by
    have := seg_parts D (a := a) (m := a) (b := b) (Nat.le_refl _) h1
    have e : seg D a a = [] := List.eq_nil_of_length_eq_zero (by rw [seg_len D (by omega)]; omega)
    rw [e, List.append_nil] at this
    exact this
  rw [z3]
  conv => rhs; rw [hdec]
  exact ((List.Perm.append_left _ z1).append_right _)
theorem seg_sub {l : List Int} {a b : Nat} {x : Int} (h : x ∈ seg l a b) : x ∈ l := by
  unfold seg at h
  exact List.mem_of_mem_take (List.mem_of_mem_drop h)
theorem seg_asc {l : List Int} {a b : Nat} (h : l.Pairwise (· < ·)) : (seg l a b).Pairwise (· < ·) := by
  unfold seg
  exact (h.sublist ((List.drop_sublist _ _).trans (List.take_sublist _ _)))
end RE
end Go.Proofs.Ytpnmiieohdkenaa
set_option linter.unusedVariables false
set_option maxRecDepth 100000
namespace Go.Proofs.Ytpnmiieohdkenaa
open Go.RowKit
namespace RE
open PL
namespace PL
def EInv (k : Int) (x : api_Entitlements) : Prop := chkE x = 0 ∧ x.Next ≤ k ∧ x.Lots.length < k ∧ ∀ l ∈ x.Lots, l.Used ≤ 5
/-- The squares of the lots of a kind. -/
def sqS (p : api_Lot → Bool) : List api_Lot → Int
  | [] => 0
  | l :: r => (if p l = true then l.Squares else 0) + sqS p r
def Vld (nx : Int) (ls : List api_Lot) : Prop := (∀ l ∈ ls, LotOK l ∧ 0 < l.Number ∧ l.Number < nx) ∧ ls.Pairwise (fun a b => a.Number < b.Number)
end PL
theorem sumL_sq : ∀ {ls : List api_Lot}, sumL ls = sqS (fun _ => true) ls
  | [] => rfl
  | l :: r => by simp [sumL, sqS, sumL_sq (ls := r)]
theorem ownS_sq {n : Int} : ∀ {ls : List api_Lot}, ownS n ls = sqS (fun l => decide (l.Owner = n)) ls
  | [] => rfl
  | l :: r => by simp [ownS, sqS, ownS_sq (ls := r)]
theorem useS_sq {n : Int} : ∀ {ls : List api_Lot}, useS n ls = sqS (fun l => decide (l.User = n)) ls
  | [] => rfl
  | l :: r => by simp [useS, sqS, useS_sq (ls := r)]
theorem lotE_iff {nx last : Int} {l : api_Lot} : lotE nx last l = 0 ↔ LotOK l ∧ last < l.Number ∧ l.Number < nx := by
  unfold lotE LotOK
  grind (splits := 30)
theorem lotsE_iff {nx : Int} : ∀ {ls : List api_Lot} {last : Int}, lotsE nx last ls = 0 ↔ (∀ l ∈ ls, LotOK l ∧ last < l.Number ∧ l.Number < nx) ∧ ls.Pairwise (fun a b => a.Number < b.Number)
  | [], last => by simp [lotsE]
  | x :: r, last => by
    have ih := lotsE_iff (nx := nx) (ls := r) (last := x.Number)
    have hx := lotE_iff (nx := nx) (last := last) (l := x)
    unfold lotsE
    rw [List.pairwise_cons]
    constructor
    · intro h
      have h1 : lotE nx last x = 0 := by grind
      rw [if_pos h1] at h
      obtain ⟨h2, h3⟩ := ih.1 h
      obtain ⟨k1, k2, k3⟩ := hx.1 h1
      refine ⟨fun l hl => ?_, fun l hl => (h2 l hl).2.1, h3⟩
      rcases List.mem_cons.1 hl with rfl | hl
      · exact ⟨k1, k2, k3⟩
      · obtain ⟨q1, q2, q3⟩ := h2 l hl
        exact ⟨q1, by omega, q3⟩
    · rintro ⟨h1, h2, h3⟩
      rw [if_pos (hx.2 (h1 x (by simp)))]
      exact ih.2 ⟨fun l hl => ⟨(h1 l (by simp [hl])).1, h2 l hl, (h1 l (by simp [hl])).2.2⟩, h3⟩
theorem chkE_iff {x : api_Entitlements} : chkE x = 0 ↔ x.Lots.length ≤ 80 ∧ 1 ≤ x.Next ∧ x.Next ≤ 1073741824 ∧ 0 ≤ x.Reserve ∧ x.Reserve ≤ 1099511627776 ∧ Vld x.Next x.Lots ∧ sumL x.Lots + x.Reserve ≤ 1099511627776 := by
  have h := lotsE_iff (nx := x.Next) (ls := x.Lots) (last := 0)
  unfold chkE Vld
  rw [← h]
  grind (splits := 30)
/-- Numbers that grow are fewer than the next one. -/
theorem inc_len {nx : Int} : ∀ {ls : List api_Lot} {last : Int}, last < nx → (∀ l ∈ ls, last < l.Number ∧ l.Number < nx) → ls.Pairwise (fun a b => a.Number < b.Number) → (ls.length : Int) < nx - last
  | [], last, h0, _, _ => by simp; omega
  | x :: r, last, h0, h1, h2 => by
    rw [List.pairwise_cons] at h2
    have hx := h1 x (by simp)
    have := inc_len (nx := nx) (ls := r) (last := x.Number) hx.2 (fun l hl => ⟨h2.1 l hl, (h1 l (by simp [hl])).2⟩) h2.2
    simp; omega
theorem chkE_len {x : api_Entitlements} (h : chkE x = 0) : (x.Lots.length : Int) < x.Next := by
  obtain ⟨_, h1, _, _, _, ⟨h2, h3⟩, _⟩ := chkE_iff.1 h
  have := inc_len (nx := x.Next) (ls := x.Lots) (last := 0) (by omega) (fun l hl => (h2 l hl).2) h3
  omega
theorem sqS_nonneg {p : api_Lot → Bool} : ∀ {ls : List api_Lot}, (∀ l ∈ ls, LotOK l) → 0 ≤ sqS p ls
  | [], _ => Int.le_refl _
  | x :: r, h => by
    have := sqS_nonneg (p := p) (ls := r) (fun l hl => h l (by simp [hl]))
    have hx := h x (by simp)
    unfold LotOK at hx
    unfold sqS
    split <;> omega
theorem sqS_app {p : api_Lot → Bool} : ∀ {l m : List api_Lot}, sqS p (l ++ m) = sqS p l + sqS p m
  | [], m => by simp [sqS]
  | x :: r, m => by
    show _ + sqS p (r ++ m) = _ + sqS p r + sqS p m
    rw [sqS_app]; omega
/-- A number of squares, or none. -/
theorem sqS_set {p : api_Lot → Bool} : ∀ {ls : List api_Lot} {i : Nat} {v : api_Lot}, i < ls.length → sqS p (ls.set i v) = sqS p ls - (if p (ix ls i) = true then (ix ls i).Squares else 0) + (if p v = true then v.Squares else 0)
  | [], i, v, h => by simp at h
  | x :: r, 0, v, h => by
    have e : ix (x :: r) ((0 : Nat) : Int) = x := rfl
    simp only [List.set_cons_zero, sqS, e]; omega
  | x :: r, i + 1, v, h => by
    have hr : ix (x :: r) ((i + 1 : Nat) : Int) = ix r (i : Int) := by simp [ix, List.getD]
    have := sqS_set (p := p) (ls := r) (i := i) (v := v) (by simpa using h)
    simp only [List.set_cons_succ, sqS, hr]; omega
theorem sqS_take {p : api_Lot → Bool} {n : Int} (hp : ∀ l : api_Lot, ∀ s, p { l with Squares := s } = p l) : ∀ {ls : List api_Lot} {i : Nat}, i < ls.length → sqS p (takeS ls i n) = sqS p ls - (if p (ix ls i) = true then n else 0)
  | [], i, h => by simp at h
  | x :: r, 0, h => by
    have e : ix (x :: r) ((0 : Nat) : Int) = x := rfl
    simp only [takeS, sqS, e]
    split
    · split <;> omega
    · simp only [sqS, hp]
      split <;> omega
  | x :: r, i + 1, h => by
    have hr : ix (x :: r) ((i + 1 : Nat) : Int) = ix r (i : Int) := by simp [ix, List.getD]
    have := sqS_take (p := p) hp (n := n) (ls := r) (i := i) (by simpa using h)
    simp only [takeS, sqS, hr]; omega
theorem takeS_num {n : Int} : ∀ {ls : List api_Lot} {i : Nat}, ((takeS ls i n).map (·.Number)).Sublist (ls.map (·.Number))
  | [], i => by simp [takeS]
  | x :: r, 0 => by
    unfold takeS
    split
    · simp
    · simp
  | x :: r, i + 1 => by
    have := takeS_num (n := n) (ls := r) (i := i)
    simp only [takeS, List.map_cons]
    exact this.cons_cons _
theorem takeS_mem {n : Int} {y : api_Lot} : ∀ {ls : List api_Lot} {i : Nat}, y ∈ takeS ls i n → y ∈ ls ∨ (i < ls.length ∧ (ix ls i).Squares - n ≠ 0 ∧ y = { ix ls i with Squares := (ix ls i).Squares - n })
  | [], i, h => by simp [takeS] at h
  | x :: r, 0, h => by
    have e : ix (x :: r) ((0 : Nat) : Int) = x := rfl
    unfold takeS at h
    split at h
    · exact .inl (by simp [h])
    · rename_i hn
      rcases List.mem_cons.1 h with h | h
      · exact .inr ⟨by simp, by rw [e]; exact hn, by rw [e]; exact h⟩
      · exact .inl (by simp [h])
  | x :: r, i + 1, h => by
    have hr : ix (x :: r) ((i + 1 : Nat) : Int) = ix r (i : Int) := by simp [ix, List.getD]
    simp only [takeS] at h
    rcases List.mem_cons.1 h with h | h
    · exact .inl (by simp [h])
    · rcases takeS_mem (ls := r) h with h | ⟨h1, h2, h3⟩
      · exact .inl (by simp [h])
      · exact .inr ⟨by simpa using h1, by rw [hr]; exact h2, by rw [hr]; exact h3⟩
/-- Lots that are right, of numbers out of a valid list, in order. -/
theorem PL.Vld.sub {nx : Int} {ls ls' : List api_Lot} (h : Vld nx ls) (h1 : ∀ l ∈ ls', LotOK l) (h2 : (ls'.map (·.Number)).Sublist (ls.map (·.Number))) : Vld nx ls' := by
  refine ⟨fun l hl => ?_, ?_⟩
  · have : l.Number ∈ ls.map (·.Number) := h2.subset (List.mem_map_of_mem hl)
    obtain ⟨q, hq, e⟩ := List.mem_map.1 this
    obtain ⟨_, k1, k2⟩ := h.1 q hq
    exact ⟨h1 l hl, by omega, by omega⟩
  · have := (List.pairwise_map.2 h.2).sublist h2
    exact List.pairwise_map.1 this
theorem PL.Vld.set {nx : Int} {ls : List api_Lot} (h : Vld nx ls) {i : Nat} {v : api_Lot} (hi : i < ls.length) (hv : LotOK v) (hn : v.Number = (ix ls i).Number) : Vld nx (ls.set i v) := by
  refine h.sub (fun l hl => ?_) ?_
  · rcases List.mem_or_eq_of_mem_set hl with h' | rfl
    · exact (h.1 l h').1
    · exact hv
  · have e : (ls.set i v).map (·.Number) = ls.map (·.Number) := by
      rw [List.map_set]
      refine List.ext_getElem? fun j => ?_
      rw [List.getElem?_set]
      split
      · rename_i e
        subst e
        rw [if_pos (by simpa using hi), List.getElem?_map, List.getElem?_eq_getElem hi, hn]
        simp [ix, List.getD, List.getElem?_eq_getElem hi]
      · rfl
    rw [e]
    exact List.Sublist.refl _
theorem PL.Vld.take {nx n : Int} {ls : List api_Lot} (h : Vld nx ls) {i : Nat} (hi : i < ls.length) (h1 : 0 ≤ n) (h2 : n ≤ (ix ls i).Squares) : Vld nx (takeS ls i n) := by
  refine h.sub (fun l hl => ?_) takeS_num
  rcases takeS_mem hl with hl | ⟨k1, k2, rfl⟩
  · exact (h.1 l hl).1
  · have hm := (h.1 _ (get_mem (l := ls) (i := (i : Int)) (by omega) (by omega))).1
    unfold LotOK at hm ⊢
    dsimp only
    omega
theorem PL.Vld.app {nx : Int} {ls : List api_Lot} (h : Vld nx ls) {v : api_Lot} (hv : LotOK v) (hn : v.Number = nx) (h1 : 1 ≤ nx) : Vld (nx + 1) (ls ++ [v]) := by
  refine ⟨fun l hl => ?_, ?_⟩
  · rcases List.mem_append.1 hl with hl | hl
    · obtain ⟨k1, k2, k3⟩ := h.1 l hl
      exact ⟨k1, k2, by omega⟩
    · rw [List.mem_singleton.1 hl]
      exact ⟨hv, by omega, by omega⟩
  · rw [List.pairwise_append]
    refine ⟨h.2, List.pairwise_singleton _ _, fun a ha b hb => ?_⟩
    rw [List.mem_singleton.1 hb]
    have := (h.1 a ha).2.2
    omega
/-- What an act leaves: a list of lots, what is in the reserve, the next number. -/
structure Kept (P : api_Lot → Prop) (x : api_Entitlements) (r : R4) : Prop where
  v : Vld r.2.2.1 r.1
  len : r.1.length ≤ 80
  re : 0 ≤ r.2.1
  nx1 : x.Next ≤ r.2.2.1
  nx2 : r.2.2.1 ≤ x.Next + 1
  nx3 : r.2.2.1 ≤ 1073741824
  sum : sumL r.1 + r.2.1 = sumL x.Lots + x.Reserve
  p : ∀ l ∈ r.1, P l
theorem Kept.add {P : api_Lot → Prop} {x : api_Entitlements} {ls : List api_Lot} {re nx : Int} {l : api_Lot} (hnx : nx = x.Next) (h1 : 1 ≤ nx) (h2 : nx ≤ 1073741824) (hv : Vld nx ls) (hl : ls.length ≤ 80) (hre : 0 ≤ re) (hlo : LotOK l) (hs : sumL ls + l.Squares + re = sumL x.Lots + x.Reserve) (hp : ∀ l ∈ ls, P l) (hpl : P { l with Number := nx })
    (he : (addS ls re nx l).2.2.2 = 0) : Kept P x (addS ls re nx l) := by
  unfold addS at he ⊢
  split at he
  · cases he
  · rename_i hc
    rw [if_neg hc]
    rw [sumL_sq] at hs
    refine ⟨hv.app (v := { l with Number := nx }) hlo rfl h1, ?_, hre, ?_, ?_, ?_, ?_, ?_⟩
    · simp; omega
    · show x.Next ≤ nx + 1; omega
    · show nx + 1 ≤ x.Next + 1; omega
    · show nx + 1 ≤ 1073741824; omega
    · show sumL (ls ++ _) + re = _
      rw [sumL_sq, sqS_app]
      simp [sqS]; omega
    · intro q hq
      rcases List.mem_append.1 hq with hq | hq
      · exact hp q hq
      · rw [List.mem_singleton.1 hq]; exact hpl
theorem lapse_sum {y : Int} : ∀ {ls : List api_Lot}, sumL (lapseS y ls) + lapseN y ls = sumL ls
  | [] => rfl
  | x :: r => by
    have := lapse_sum (y := y) (ls := r)
    unfold lapseS lapseN
    split
    · simp only [sumL]; omega
    · simp only [sumL]; omega
theorem lapse_sub {y : Int} : ∀ {ls : List api_Lot}, (lapseS y ls).Sublist ls
  | [] => List.Sublist.refl _
  | x :: r => by
    unfold lapseS
    split
    · exact (lapse_sub (ls := r)).cons _
    · exact (lapse_sub (ls := r)).cons_cons _
theorem lapseN_nonneg {y : Int} {ls : List api_Lot} (h : ∀ l ∈ ls, LotOK l) : 0 ≤ lapseN y ls :=
  (lapseN_le (y := y) (l := ls) fun x hx => by have := h x hx; unfold LotOK at this; omega).1
theorem heir_sum {f t : Int} : ∀ {ls : List api_Lot}, sumL (ls.map (heirS f t)) = sumL ls
  | [] => rfl
  | x :: r => by
    have := heir_sum (f := f) (t := t) (ls := r)
    simp only [List.map_cons, sumL, heirS]
    rw [← this]
/-- Squares used, lot by lot. -/
theorem useL_kept {yr nx : Int} (hy : 0 ≤ yr ∧ yr ≤ 100) : ∀ {us : List Int} {ls : List api_Lot} {left : Int}, Vld nx ls → (∀ j ∈ us, 0 ≤ j ∧ j < ls.length) → 0 ≤ left → left ≤ 268435456 →
    Vld nx (useL yr ls left us).1 ∧ (useL yr ls left us).1.length = ls.length ∧ (∀ l ∈ (useL yr ls left us).1, l.Used = yr ∨ ∃ q ∈ ls, l.Used = q.Used) ∧ ((useL yr ls left us).2 = none → sumL (useL yr ls left us).1 = sumL ls) ∧
    ∀ v, (useL yr ls left us).2 = some v → LotOK v ∧ v.Used = yr ∧ sumL (useL yr ls left us).1 + v.Squares = sumL ls
  | [], ls, left, hv, hu, h0, h1 => by
    refine ⟨hv, rfl, fun l hl => .inr ⟨l, hl, rfl⟩, fun _ => rfl, fun v h => ?_⟩
    cases h
  | i :: r, ls, left, hv, hu, h0, h1 => by
    obtain ⟨i1, i2⟩ := hu i (by simp)
    obtain ⟨k, rfl⟩ : ∃ k : Nat, i = (k : Int) := ⟨i.toNat, by omega⟩
    have hk : k < ls.length := by omega
    have hm := hv.1 _ (get_mem (l := ls) (i := (k : Int)) (by omega) (by omega))
    have hmo := hm.1
    unfold LotOK at hmo
    unfold useL
    simp only [Int.toNat_natCast]
    split
    · refine ⟨hv, rfl, fun l hl => .inr ⟨l, hl, rfl⟩, fun _ => rfl, fun v h => ?_⟩
      cases h
    · split
      · rename_i hle
        have hv' : Vld nx (ls.set k { ix ls (k : Int) with Used := yr }) := hv.set hk (by unfold LotOK; dsimp only; omega) rfl
        have hs : sumL (ls.set k { ix ls (k : Int) with Used := yr }) = sumL ls := by
          rw [sumL_sq, sumL_sq, sqS_set hk]; simp
        obtain ⟨q1, q2, q3, q4, q5⟩ := useL_kept (nx := nx) hy (us := r) (ls := ls.set k { ix ls (k : Int) with Used := yr }) (left := left - (ix ls (k : Int)).Squares) hv' (fun j hj => by have := hu j (by simp [hj]); rw [List.length_set]; exact this) (by omega) (by omega)
        refine ⟨q1, by rw [q2, List.length_set], fun l hl => ?_, fun h => by rw [q4 h, hs], fun v h => by rw [hs] at q5; exact q5 v h⟩
        rcases q3 l hl with h | ⟨q, hq, h⟩
        · exact .inl h
        · rcases List.mem_or_eq_of_mem_set hq with hq | rfl
          · exact .inr ⟨q, hq, h⟩
          · exact .inl h
      · rename_i hn1 hn2
        refine ⟨hv.set hk (by unfold LotOK; dsimp only; omega) rfl, by rw [List.length_set], fun l hl => ?_, fun h => (by cases h), fun v h => ?_⟩
        · rcases List.mem_or_eq_of_mem_set hl with hq | rfl
          · exact .inr ⟨l, hq, rfl⟩
          · exact .inr ⟨_, get_mem (l := ls) (i := (k : Int)) (by omega) (by omega), rfl⟩
        · injection h with h
          subst h
          refine ⟨by unfold LotOK; dsimp only; omega, rfl, ?_⟩
          rw [sumL_sq, sumL_sq, sqS_set hk]
          simp; omega
theorem act_kept {P : api_Lot → Prop} {x : api_Entitlements} {a : api_Act} (hx : chkE x = 0) (hp0 : ∀ l ∈ x.Lots, P l) (hpu : ∀ l q : api_Lot, P l → q.Used = l.Used → P q) (hpn : ∀ q : api_Lot, q.Used = -1 → P q) (hpy : ∀ q : api_Lot, 0 ≤ a.Year → q.Used = a.Year → P q)
    (he : (actS x.Lots x.Reserve x.Next a).2.2.2 = 0) : Kept P x (actS x.Lots x.Reserve x.Next a) := by
  obtain ⟨c1, c2, c3, c4, c5, c6, c7⟩ := chkE_iff.1 hx
  obtain ⟨ls, re, nx⟩ := x
  dsimp only at *
  have hs0 := seekS_spec (n := a.Lot) (l := ls) (k := 0) (Int.le_refl _)
  obtain ⟨i, hi⟩ : ∃ i, seekS a.Lot 0 ls = i := ⟨_, rfl⟩
  have hsum0 : ∀ {l : List api_Lot}, (∀ q ∈ l, LotOK q) → 0 ≤ sumL l := fun h => by rw [sumL_sq]; exact sqS_nonneg h
  have hlm : 0 ≤ i → ∃ k : Nat, i = (k : Int) ∧ k < ls.length ∧ LotOK (ix ls (k : Int)) ∧ P (ix ls (k : Int)) := fun h => by
    have h2 : i < ls.length := by rw [← hi]; rw [← hi] at h; omega
    exact ⟨i.toNat, by omega, by omega, by rw [show ((i.toNat : Nat) : Int) = i by omega]; exact ⟨(c6.1 _ (get_mem h h2)).1, hp0 _ (get_mem h h2)⟩⟩
  have hsame : ∀ {l : List api_Lot} {r : Int}, Vld nx l → l.length ≤ ls.length → 0 ≤ r → sumL l + r = sumL ls + re → (∀ q ∈ l, P q) → Kept P ⟨ls, re, nx⟩ (l, r, nx, 0) := fun q1 q2 q3 q4 q5 =>
    ⟨q1, Nat.le_trans q2 (by omega), q3, Int.le_refl _, by show nx ≤ nx + 1; omega, c3, q4, q5⟩
  have htk : ∀ {k : Nat} {n : Int}, k < ls.length → LotOK (ix ls (k : Int)) → P (ix ls (k : Int)) → 1 ≤ n → n ≤ (ix ls (k : Int)).Squares → Vld nx (takeS ls k n) ∧ (takeS ls k n).length ≤ ls.length ∧ sumL (takeS ls k n) = sumL ls - n ∧ ∀ q ∈ takeS ls k n, P q := fun {k n} q1 q2 q3 q4 q5 => by
    refine ⟨c6.take q1 (by omega) q5, takeS_len, ?_, fun q hq => ?_⟩
    · rw [sumL_sq, sumL_sq, sqS_take (fun _ _ => rfl) q1]; simp
    · rcases takeS_mem hq with hq | ⟨_, _, rfl⟩
      · exact hp0 q hq
      · exact hpu _ _ q3 rfl
  unfold actS at he ⊢
  rw [hi] at he ⊢
  simp only at he ⊢
  by_cases k1 : a.Kind = 1
  · rw [if_pos k1] at he ⊢
    split at he <;> rename_i g1
    · cases he
    rw [if_neg g1]
    split at he <;> rename_i g2
    · cases he
    rw [if_neg g2]
    split at he <;> rename_i g3
    · cases he
    rw [if_neg g3]
    have g1 : farmP a.To := Classical.not_not.1 g1
    unfold farmP at g1
    refine Kept.add rfl c2 c3 c6 c1 (by omega) (by unfold LotOK; dsimp only; omega) (by dsimp only; omega) hp0 (hpn _ rfl) he
  rw [if_neg k1] at he ⊢
  by_cases k2 : a.Kind = 2 ∨ a.Kind = 3
  · rw [if_pos k2] at he ⊢
    unfold moveS at he ⊢
    rw [hi] at he ⊢
    simp only at he ⊢
    split at he <;> rename_i g1
    · cases he
    rw [if_neg g1]
    split at he <;> rename_i g2
    · cases he
    rw [if_neg g2]
    split at he <;> rename_i g3
    · cases he
    rw [if_neg g3]
    split at he <;> rename_i g4
    · cases he
    rw [if_neg g4]
    obtain ⟨k, rfl, hk1, hk2, hk3⟩ := hlm (by omega)
    have g2 : farmP a.To := Classical.not_not.1 g2
    unfold farmP at g2
    have hk2' := hk2
    unfold LotOK at hk2'
    obtain ⟨t1, t2, t3, t4⟩ := htk hk1 hk2 hk3 (by omega) (show a.Squares ≤ _ by omega)
    have hkp : 0 ≤ keptS a ∧ keptS a ≤ a.Squares := by
      unfold keptS
      split
      · have := prod_in (a := a.Squares) (b := a.Keep) (by omega) (by omega) (by omega) (by omega)
        omega
      · omega
    simp only [Int.toNat_natCast] at he ⊢
    split at he <;> rename_i g5
    · rw [if_pos g5]
      exact hsame t1 t2 (by omega) (by omega) t4
    · rw [if_neg g5]
      refine Kept.add rfl c2 c3 t1 (by omega) (by omega) ?_ (by dsimp only; omega) t4 (hpu _ _ hk3 rfl) he
      unfold LotOK
      dsimp only
      split <;> omega
  rw [if_neg k2] at he ⊢
  by_cases k4 : a.Kind = 4
  · rw [if_pos k4] at he ⊢
    split at he <;> rename_i g1
    · cases he
    rw [if_neg g1]
    split at he <;> rename_i g2
    · cases he
    rw [if_neg g2]
    obtain ⟨k, rfl, hk1, hk2, hk3⟩ := hlm (by omega)
    have hk2' := hk2
    unfold LotOK at hk2'
    simp only [Int.toNat_natCast]
    refine hsame (c6.set hk1 (by unfold LotOK; dsimp only; omega) rfl) (by rw [List.length_set]; exact Nat.le_refl _) c4 ?_ fun q hq => ?_
    · rw [sumL_sq, sumL_sq, sqS_set hk1]; simp
    · rcases List.mem_or_eq_of_mem_set hq with hq | rfl
      · exact hp0 q hq
      · exact hpu _ _ hk3 rfl
  rw [if_neg k4] at he ⊢
  by_cases k5 : a.Kind = 5
  · rw [if_pos k5] at he ⊢
    split at he <;> rename_i g1
    · cases he
    rw [if_neg g1]
    have g1 : farmP a.Farm ∧ farmP a.To := by
      constructor <;> (apply Classical.not_not.1; intro h; exact g1 (by simp [h]))
    unfold farmP at g1
    refine hsame (c6.sub (fun q hq => ?_) ?_) (by simp) c4 (by rw [heir_sum]) fun q hq => ?_
    · obtain ⟨l, hl, rfl⟩ := List.mem_map.1 hq
      have := (c6.1 l hl).1
      unfold LotOK at this ⊢
      unfold heirS
      dsimp only
      split <;> split <;> omega
    · rw [List.map_map]
      exact List.Sublist.refl _
    · obtain ⟨l, hl, rfl⟩ := List.mem_map.1 hq
      exact hpu _ _ (hp0 l hl) rfl
  rw [if_neg k5] at he ⊢
  by_cases k6 : a.Kind = 6
  · rw [if_pos k6] at he ⊢
    unfold useAct at he ⊢
    split at he <;> rename_i g1
    · cases he
    rw [if_neg g1]
    split at he <;> rename_i g2
    · cases he
    rw [if_neg g2]
    split at he <;> rename_i g3
    · cases he
    rw [if_neg g3]
    split at he <;> rename_i g4
    · cases he
    rw [if_neg g4]
    have g2 : 0 ≤ a.Year ∧ a.Year ≤ 100 := by
      constructor <;> (apply Classical.byContradiction; intro h; exact g2 (by omega))
    obtain ⟨q1, q2, q3, q4, q5⟩ := useL_kept (yr := a.Year) (nx := nx) g2 (us := usableS ls a.Farm) (ls := ls) (left := a.Squares) c6 (fun j hj => usableS_mem hj) (by omega) (by omega)
    obtain ⟨ls', o, hU⟩ : ∃ ls' o, useL a.Year ls a.Squares (usableS ls a.Farm) = (ls', o) := ⟨_, _, rfl⟩
    rw [hU] at q1 q2 q3 q4 q5 he ⊢
    have hP' : ∀ l ∈ ls', P l := fun l hl => by
      rcases q3 l hl with h | ⟨q, hq, h⟩
      · exact hpy l g2.1 h
      · exact hpu q l (hp0 q hq) h
    cases o with
    | none => exact hsame q1 (Nat.le_of_eq q2) c4 (by rw [q4 rfl]) hP'
    | some v =>
      obtain ⟨v1, v2, v3⟩ := q5 v rfl
      have q2 : ls'.length = ls.length := q2
      have v3 : sumL ls' + v.Squares = sumL ls := v3
      exact Kept.add rfl c2 c3 q1 (by omega) c4 v1 (by dsimp only; omega) hP' (hpy _ g2.1 v2) he
  rw [if_neg k6] at he ⊢
  by_cases k7 : a.Kind = 7
  · rw [if_pos k7] at he ⊢
    split at he <;> rename_i g1
    · cases he
    rw [if_neg g1]
    have hn := lapseN_nonneg (y := a.Year) (ls := ls) (fun l hl => (c6.1 l hl).1)
    have hs := lapse_sum (y := a.Year) (ls := ls)
    refine hsame (c6.sub (fun q hq => (c6.1 q (lapse_sub.subset hq)).1) (lapse_sub.map _)) lapse_sub.length_le (by omega) (by omega) fun q hq => hp0 q (lapse_sub.subset hq)
  rw [if_neg k7] at he ⊢
  by_cases k8 : a.Kind = 8
  · rw [if_pos k8] at he ⊢
    split at he <;> rename_i g1
    · cases he
    rw [if_neg g1]
    split at he <;> rename_i g2
    · cases he
    rw [if_neg g2]
    split at he <;> rename_i g3
    · cases he
    rw [if_neg g3]
    obtain ⟨k, rfl, hk1, hk2, hk3⟩ := hlm (by omega)
    obtain ⟨t1, t2, t3, t4⟩ := htk hk1 hk2 hk3 (by omega) (show a.Squares ≤ _ by omega)
    exact hsame t1 t2 (by omega) (by simp only [Int.toNat_natCast]; omega) t4
  · rw [if_neg k8] at he
    cases he
/-- What any act leaves of a valid register. -/
theorem apply_kept {x : api_Entitlements} {a : api_Act} (hx : chkE x = 0) : chkE (applyS x a).1 = 0 ∧ x.Next ≤ (applyS x a).1.Next ∧ (applyS x a).1.Next ≤ x.Next + 1 ∧ sumL (applyS x a).1.Lots + (applyS x a).1.Reserve = sumL x.Lots + x.Reserve := by
  unfold applyS
  rw [if_neg (by simp [hx])]
  split
  · exact ⟨hx, Int.le_refl _, by show x.Next ≤ x.Next + 1; omega, rfl⟩
  · rename_i h
    have h : (actS x.Lots x.Reserve x.Next a).2.2.2 = 0 := Classical.not_not.1 h
    obtain ⟨k1, k2, k3, k4, k5, k6, k7, _⟩ := act_kept (P := fun _ => True) hx (fun _ _ => trivial) (fun _ _ _ _ => trivial) (fun _ _ => trivial) (fun _ _ _ => trivial) h
    obtain ⟨c1, c2, c3, c4, c5, c6, c7⟩ := chkE_iff.1 hx
    have hs : 0 ≤ sumL (actS x.Lots x.Reserve x.Next a).1 := by rw [sumL_sq]; exact sqS_nonneg fun l hl => (k1.1 l hl).1
    refine ⟨chkE_iff.2 ⟨k2, ?_, k6, k3, ?_, k1, ?_⟩, k4, k5, k7⟩
    · show 1 ≤ (actS x.Lots x.Reserve x.Next a).2.2.1; omega
    · show (actS x.Lots x.Reserve x.Next a).2.1 ≤ (1099511627776 : Int); omega
    · show sumL (actS x.Lots x.Reserve x.Next a).1 + (actS x.Lots x.Reserve x.Next a).2.1 ≤ (1099511627776 : Int); omega
theorem PL.EInv.apply {k : Int} {x : api_Entitlements} {a : api_Act} (h : EInv k x) (ha : a.Year ≤ 5) : EInv (k + 1) (applyS x a).1 := by
  obtain ⟨h1, h2, h3, h4⟩ := h
  obtain ⟨q1, q2, q3, _⟩ := apply_kept (a := a) h1
  have := chkE_len q1
  refine ⟨q1, by omega, by omega, ?_⟩
  unfold applyS
  rw [if_neg (by simp [h1])]
  split
  · exact h4
  · rename_i he
    have he : (actS x.Lots x.Reserve x.Next a).2.2.2 = 0 := Classical.not_not.1 he
    exact (act_kept (P := fun l => l.Used ≤ 5) h1 h4 (fun l q hl hq => by omega) (fun q hq => by omega) (fun q _ hq => by omega) he).p
theorem PL.EInv.mono {k k' : Int} {x : api_Entitlements} (h : EInv k x) (hk : k ≤ k') : EInv k' x := ⟨h.1, by have := h.2.1; omega, by have := h.2.2.1; omega, h.2.2.2⟩
end RE
end Go.Proofs.Ytpnmiieohdkenaa
