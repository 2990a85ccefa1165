/-
  Chapter 22: lines, there, limited of the program.
-/
import Derived.Test.YtblcakaohlgagaaGreatUCopB
import Derived.Test.YtblcakaohlgagaaGreatUEngC
set_option maxRecDepth 100000
set_option linter.unusedVariables false
namespace Go.Proofs.YtblcakaohlgagaaGreat
open Go.RowKit
namespace RE
open PL

namespace PL
/-- What lines returns. -/
def linesR (l : List api_Version) (L : List Ln) (e : Int) : Prop := (beginF l ≠ 0 ∧ L = [] ∧ e = beginF l) ∨ (beginF l = 0 ∧ L = linV l ∧ e = 0)
end PL

def plines_P (l : List (api_Version)) (post : List (crosscheck_line) → Int → Prop) : Prop := manyV l ∧ ∀ (L : List Ln) (e : Int), linesR l L e → post L e
def plines_sp : Spec := ⟨47, false, true, [.sl (.st .api_Version)], .tup [.dat (.sl (.st .crosscheck_line)), .dat (.int .i64)], fun x post => plines_P (x.1 : List (api_Version)) (fun y0 y1 => post (y0, y1, ()))⟩
def plines_C : CtxR := ⟨tau, [rule1 pval_sp], lookJ [(0, 9, ⟨[(12, .dat (.int .i64)), (5, .dat .bool), (4, .own 136 (.st .crosscheck_line))], [], [13, 14, 15, 16, 7, 6, 17, 18, 19, 41, 39, 38, 37, 40, 36, 35, 34, 33, 32, 31, 30, 29, 28, 27, 26, 25, 8, 9, 24, 23, 22, 20, 21, 42, 43, 44, 45], [], []⟩), (0, 15, ⟨[(20, .dat (.int .i64)), (5, .dat .bool), (4, .own 136 (.st .crosscheck_line))], [], [21, 22, 23, 24, 9, 8, 25, 26, 27, 28, 29, 30, 31, 32, 33, 34, 35, 36, 40, 37, 38, 39, 41], [0], []⟩)]⟩
def plines_W (l : List (api_Version)) (post : List (crosscheck_line) → Int → Prop) : Prop := (↑l.length : Int) ≤ (9223372036854775807 : Int) → LOOP [Ty.int IntKind.i64, Ty.bool, (Ty.st Sn.crosscheck_line).sl] (fun (rec1 : Int → Bool → List crosscheck_line → Prop) (z2 : Int) (z3 : Bool) (z4 : List crosscheck_line) ↦ IFB (decide (z2 < (↑l.length : Int))) (((0 : Int) ≤ z2 ∧ z2 < (↑l.length : Int)) ∧ ((↑(ix l z2).2.length : Int) ≤ (9223372036854775807 : Int) → LOOP [Ty.int IntKind.i64, Ty.bool, (Ty.st Sn.crosscheck_line).sl] (fun (rec5 : Int → Bool → List crosscheck_line → Prop) (z6 : Int) (z7 : Bool) (z8 : List crosscheck_line) ↦ IFB (decide (z6 < (↑(ix l z2).2.length : Int))) (((0 : Int) ≤ z6 ∧ z6 < (↑(ix l z2).2.length : Int)) ∧ (z8.length + [{ place := { Application := z2, Line := z6 : api_Place }, rects := (ix (ix l z2).2 z6).2.1 : crosscheck_line }].length) * (40 : Nat) ≤ (140737488355328 : Nat) ∧ JOIN [Ty.bool] (fun (y9 : Bool) ↦ rec5 (IntKind.i64.wrap (z6 + (1 : Int))) (z7 && y9) (z8 ++ [{ place := { Application := z2, Line := z6 : api_Place }, rects := (ix (ix l z2).2 z6).2.1 : crosscheck_line }])) fun (J10 : Bool → Prop) ↦ IFB (gx true z7) (∀ (v11 : Bool), (v11 = true ↔ validP (ix (ix l z2).2 z6).2.1) → J10 v11) (J10 false)) ((↑z8.length : Int) ≤ (9223372036854775807 : Int) → IFB (decide ((60 : Int) < (↑z8.length : Int))) (post [] (1 : Int)) (rec1 (IntKind.i64.wrap (z2 + (1 : Int))) z7 z8))) ((0 : Int), z3, z4, PUnit.unit))) (IFB (!z3) (post [] (7 : Int)) (post z4 (0 : Int)))) ((0 : Int), true, [], PUnit.unit)
theorem plines_w (l : List (api_Version)) (post : dens (shT plines_sp.rs []) → Prop) : plines_W l (fun y0 y1 => post (y0, y1, ())) = walkG (callR Tryz.prog plines_C (drawR Tryz.prog tau) 6 0) 47 false [tv (.sl (.st .api_Version)) l] plines_sp.rs post := by kernel_rfl
theorem plines_of (h : ∀ (l : List (api_Version)) (post : List (crosscheck_line) → Int → Prop), plines_P l post → plines_W l post) : SpecOK Tryz.prog plines_sp := SpecOK.of_rules (C := plines_C) (dr := drawR Tryz.prog tau) (n := 6) (fk := 0) (.cons (rule1_ok pval_ok) .nil) (drawR_ok tau) fun x post hp => HoldW.of (plines_w x.1 post) (h x.1 (fun y0 y1 => post (y0, y1, ())) hp)
namespace PL
def plnI (l : List api_Version) (z : Int) (b : Bool) (L : List Ln) : Prop := ∃ k : Nat, z = (k : Int) ∧ k ≤ l.length ∧ L = linN l k ∧ L.length ≤ 60 ∧ (b = true ↔ ∀ x ∈ L, validP x.rects)
def plnJ (l : List api_Version) (k : Nat) (z : Int) (b : Bool) (L : List Ln) : Prop := ∃ j : Nat, z = (j : Int) ∧ j ≤ (ix l (k : Int)).Lines.length ∧ L = linN l k ++ rowL l k j ∧ (b = true ↔ ∀ x ∈ L, validP x.rects)
end PL
theorem plines_h (l : List api_Version) (post : List (crosscheck_line) → Int → Prop) (hp : plines_P l post) : plines_W l post := by
  obtain ⟨⟨h1, h2⟩, hp⟩ := hp
  unfold plines_W
  refine fun _ => LOOP.fuel (fun u => plnI l u.1 u.2.1 u.2.2.1) (fun u => l.length - Int.toNat u.1) ⟨0, rfl, Nat.zero_le _, rfl, Nat.zero_le _, fun _ x hx => (by cases hx), fun _ => rfl⟩ ?_
  rintro rec ⟨(z : Int), (b : Bool), (L : List Ln), ⟨⟩⟩ ⟨k, i1, i2, i3, i4, i5⟩ hrec
  have i1 : z = (k : Int) := i1
  have q3 : L = linN l k := i3
  have q4 : L.length ≤ 60 := i4
  have q5 : b = true ↔ ∀ x ∈ L, validP x.rects := i5
  clear i3 i4 i5
  subst i1
  refine IFB.mk (fun hb => ?_) (fun hb => ?_)
  · have hb : (k : Int) < l.length := of_decide_eq_true hb
    have hx : (ix l (k : Int)).Lines.length ≤ 1000 := h2 _ (ix_mem (l := l) (i := (k : Int)) (by omega) hb)
    refine ⟨⟨by omega, hb⟩, fun _ => ?_⟩
    refine LOOP.fuel (fun u => plnJ l k u.1 u.2.1 u.2.2.1) (fun u => (ix l (k : Int)).Lines.length - Int.toNat u.1) ⟨0, rfl, Nat.zero_le _, by show L = linN l k ++ []; rw [List.append_nil]; exact q3, q5⟩ ?_
    rintro rec2 ⟨(z2 : Int), (b2 : Bool), (L2 : List Ln), ⟨⟩⟩ ⟨j, j1, j2, j3, j4⟩ hrec2
    have j1 : z2 = (j : Int) := j1
    have r3 : L2 = linN l k ++ rowL l k j := j3
    have r4 : b2 = true ↔ ∀ x ∈ L2, validP x.rects := j4
    clear j3 j4
    subst j1
    have hlen : L2.length ≤ 60 + j := by rw [r3, List.length_append, rowL_len, ← q3]; omega
    refine IFB.mk (fun hc => ?_) (fun hc => fun _ => ?_)
    · have hc : (j : Int) < (ix l (k : Int)).Lines.length := of_decide_eq_true hc
      refine ⟨⟨by omega, hc⟩, by simp only [List.length_cons, List.length_nil]; omega, JOIN.opq fun (J : Bool → Prop) hJ => ?_⟩
      have fin : ∀ y : Bool, ((b2 && y) = true ↔ ∀ x ∈ L2 ++ [(⟨⟨(k : Int), (j : Int)⟩, (ix (ix l (k : Int)).2 (j : Int)).2.1⟩ : Ln)], validP x.rects) → J y := fun y hy => by
        rw [hJ]
        show rec2 (IntKind.i64.wrap ((j : Int) + 1)) _ _
        rw [wrapS (by omega)]
        refine hrec2 (((j + 1 : Nat) : Int), b2 && y, _, ()) ⟨j + 1, rfl, by omega, ?_, hy⟩ (by show (ix l (k : Int)).Lines.length - ((j + 1 : Nat) : Int).toNat < (ix l (k : Int)).Lines.length - (j : Int).toNat; omega)
        show L2 ++ _ = _
        rw [rowL_succ, ← List.append_assoc, ← r3]
      refine IFB.mk (fun hn v hv => fin v ?_) (fun hn => fin false ?_)
      · have hn : b2 = true := hn
        rw [hn, Bool.true_and, hv]
        have j4 := r4.1 hn
        constructor
        · intro h x hx
          rcases List.mem_append.1 hx with hx | hx
          · exact j4 x hx
          · rw [List.mem_singleton] at hx; rw [hx]; exact h
        · intro h
          exact h ⟨⟨(k : Int), (j : Int)⟩, _⟩ (List.mem_append.2 (.inr (List.mem_singleton.2 rfl)))
      · have hn : b2 = false := hn
        rw [Bool.and_false]
        constructor
        · intro h; cases h
        · intro h
          have := r4.2 fun x hx => h x (List.mem_append.2 (.inl hx))
          rw [hn] at this; cases this
    · have hc : ¬ (j : Int) < (ix l (k : Int)).Lines.length := of_decide_eq_false hc
      have hj : j = (ix l (k : Int)).Lines.length := by omega
      have e : L2 = linN l (k + 1) := by rw [r3, hj, linN_succ]
      refine IFB.mk (fun hd => ?_) (fun hd => ?_)
      · have hd : (60 : Int) < (L2.length : Int) := of_decide_eq_true hd
        have := begin_lim (l := l) (k := k + 1) (by omega) (by rw [← e]; omega)
        exact hp [] 1 (.inl ⟨by rw [this]; decide, rfl, this.symm⟩)
      · have hd : ¬ (60 : Int) < (L2.length : Int) := of_decide_eq_false hd
        show rec (IntKind.i64.wrap ((k : Int) + 1)) b2 L2
        rw [wrapS (by omega)]
        exact hrec (((k + 1 : Nat) : Int), b2, L2, ()) ⟨k + 1, rfl, by omega, e, by show L2.length ≤ 60; omega, r4⟩ (by show l.length - ((k + 1 : Nat) : Int).toNat < l.length - (k : Int).toNat; omega)
  · have hb : ¬ (k : Int) < l.length := of_decide_eq_false hb
    have hk : k = l.length := by omega
    have e : L = linV l := by rw [q3, hk]; rfl
    rw [e] at q4 q5
    refine IFB.mk (fun hn => ?_) (fun hn => ?_)
    · have hn : b = false := by simpa using hn
      have := begin_bad q4 (fun h => by have := q5.2 h; rw [hn] at this; cases this)
      exact hp [] 7 (.inl ⟨by rw [this]; decide, rfl, this.symm⟩)
    · have hn : b = true := by simpa using hn
      rw [e]
      exact hp _ 0 (.inr ⟨begin_ok q4 (q5.1 hn), rfl, rfl⟩)
theorem plines_ok : SpecOK Tryz.prog plines_sp := plines_of plines_h

def pthere_P (l : List (api_Version)) (p : api_Place) (post : Bool → Prop) : Prop := (l.length ≤ 1000000) ∧ ∀ q : Bool, (q = true ↔ thereP l p) → post q
def pthere_sp : Spec := ⟨48, false, false, [.sl (.st .api_Version), .st .api_Place], .dat (.bool), fun x post => pthere_P (x.1 : List (api_Version)) (x.2.1 : api_Place) (fun y0 => post (y0, ()))⟩
def pthere_C : CtxR := ⟨tau, [], lookJ []⟩
def pthere_W (l : List (api_Version)) (p : api_Place) (post : Bool → Prop) : Prop := (gx true (decide ((0 : Int) ≤ p.1)) = true → (↑l.length : Int) ≤ (9223372036854775807 : Int)) → ((gx true (decide ((0 : Int) ≤ p.1) && decide (p.1 < (↑l.length : Int)) && decide ((0 : Int) ≤ p.2)) = true → (0 : Int) ≤ p.1 ∧ p.1 < (↑l.length : Int)) ∧ ((gx true (decide ((0 : Int) ≤ p.1) && decide (p.1 < (↑l.length : Int)) && decide ((0 : Int) ≤ p.2)) = true → (↑(ix l p.1).2.length : Int) ≤ (9223372036854775807 : Int)) → post (decide ((0 : Int) ≤ p.1) && decide (p.1 < (↑l.length : Int)) && decide ((0 : Int) ≤ p.2) && decide (p.2 < (↑(ix l p.1).2.length : Int))))) ∧ (gx true (decide ((0 : Int) ≤ p.1) && decide (p.1 < (↑l.length : Int)) && decide ((0 : Int) ≤ p.2)) = true → (0 : Int) ≤ p.1 ∧ p.1 < (↑l.length : Int)) ∧ ((gx true (decide ((0 : Int) ≤ p.1) && decide (p.1 < (↑l.length : Int)) && decide ((0 : Int) ≤ p.2)) = true → (↑(ix l p.1).2.length : Int) ≤ (9223372036854775807 : Int)) → post (decide ((0 : Int) ≤ p.1) && decide (p.1 < (↑l.length : Int)) && decide ((0 : Int) ≤ p.2) && decide (p.2 < (↑(ix l p.1).2.length : Int)))) ∧ ((gx true (decide ((0 : Int) ≤ p.1) && decide (p.1 < (↑l.length : Int)) && decide ((0 : Int) ≤ p.2)) = true → (↑(ix l p.1).2.length : Int) ≤ (9223372036854775807 : Int)) → post (decide ((0 : Int) ≤ p.1) && decide (p.1 < (↑l.length : Int)) && decide ((0 : Int) ≤ p.2) && decide (p.2 < (↑(ix l p.1).2.length : Int)))) ∧ ((gx true (decide ((0 : Int) ≤ p.1) && decide (p.1 < (↑l.length : Int)) && decide ((0 : Int) ≤ p.2)) = true → (↑(ix l p.1).2.length : Int) ≤ (9223372036854775807 : Int)) → post (decide ((0 : Int) ≤ p.1) && decide (p.1 < (↑l.length : Int)) && decide ((0 : Int) ≤ p.2) && decide (p.2 < (↑(ix l p.1).2.length : Int))))
theorem pthere_w (l : List (api_Version)) (p : api_Place) (post : dens (shT pthere_sp.rs []) → Prop) : pthere_W l p (fun y0 => post (y0, ())) = walkG (callR Tryz.prog pthere_C (drawR Tryz.prog tau) 6 0) 48 false [tv (.sl (.st .api_Version)) l, tv (.st .api_Place) p] pthere_sp.rs post := by kernel_rfl
theorem pthere_of (h : ∀ (l : List (api_Version)) (p : api_Place) (post : Bool → Prop), pthere_P l p post → pthere_W l p post) : SpecOK Tryz.prog pthere_sp := SpecOK.of_rules (C := pthere_C) (dr := drawR Tryz.prog tau) (n := 6) (fk := 0) .nil (drawR_ok tau) fun x post hp => HoldW.of (pthere_w x.1 x.2.1 post) (h x.1 x.2.1 (fun y0 => post (y0, ())) hp)
theorem pthere_ok : SpecOK Tryz.prog pthere_sp := pthere_of fun l p post hp => by
  obtain ⟨h1, hp⟩ := hp
  unfold pthere_W
  have hl : (l.length : Int) ≤ 9223372036854775807 := by omega
  have fin : ∀ q : Bool, q = (decide (0 ≤ p.1) && decide (p.1 < (l.length : Int)) && decide (0 ≤ p.2) && decide (p.2 < ((ix l p.1).2.length : Int))) → post q := fun q hq => hp q (by
    rw [hq]
    simp only [Bool.and_eq_true, decide_eq_true_eq]
    unfold thereP
    constructor
    · rintro ⟨⟨⟨a, b⟩, c⟩, d⟩; exact ⟨a, b, c, d⟩
    · rintro ⟨a, b, c, d⟩; exact ⟨⟨⟨a, b⟩, c⟩, d⟩)
  have hA : gx true (decide (0 ≤ p.1) && decide (p.1 < (l.length : Int)) && decide (0 ≤ p.2)) = true → 0 ≤ p.1 ∧ p.1 < (l.length : Int) := fun h => by
    rw [gx_t] at h
    simp only [Bool.and_eq_true, decide_eq_true_eq] at h
    exact h.1
  repeat' (first | exact hA | exact fin _ rfl | with_reducible apply And.intro | intro _)

def plimit_P (l : List (api_Version)) (post : Int → Prop) : Prop := (manyV l) ∧ post (limitF l)
def plimit_sp : Spec := ⟨40, false, false, [.sl (.st .api_Version)], .dat (.int .i64), fun x post => plimit_P (x.1 : List (api_Version)) (fun y0 => post (y0, ()))⟩
def plimit_C : CtxR := ⟨tau, [], lookJ [(0, 5, ⟨[(9, .dat (.int .i64))], [], [10, 11, 12, 4, 13, 14, 15, 25, 24, 23, 22, 21, 20, 6, 19, 18, 16, 17, 26], [], []⟩), (0, 11, ⟨[(16, .dat (.int .i64))], [], [17, 18, 19, 6, 20, 21, 22, 23, 24, 25], [], []⟩)]⟩
def plimit_W (l : List (api_Version)) (post : Int → Prop) : Prop := (↑l.length : Int) ≤ (9223372036854775807 : Int) → LOOP [Ty.int IntKind.i64] (fun (rec1 : Int → Prop) (z2 : Int) ↦ IFB (decide (z2 < (↑l.length : Int))) (((0 : Int) ≤ z2 ∧ z2 < (↑l.length : Int)) ∧ ((↑(ix l z2).2.length : Int) ≤ (9223372036854775807 : Int) → LOOP [Ty.int IntKind.i64] (fun (rec3 : Int → Prop) (z4 : Int) ↦ IFB (decide (z4 < (↑(ix l z2).2.length : Int))) (((0 : Int) ≤ z4 ∧ z4 < (↑(ix l z2).2.length : Int)) ∧ ((↑(ix (ix l z2).2 z4).2.1.length : Int) ≤ (9223372036854775807 : Int) → IFB (decide ((120 : Int) < (↑(ix (ix l z2).2 z4).2.1.length : Int))) (post (1 : Int)) (rec3 (IntKind.i64.wrap (z4 + (1 : Int)))))) (rec1 (IntKind.i64.wrap (z2 + (1 : Int))))) ((0 : Int), PUnit.unit))) (post (0 : Int))) ((0 : Int), PUnit.unit)
theorem plimit_w (l : List (api_Version)) (post : dens (shT plimit_sp.rs []) → Prop) : plimit_W l (fun y0 => post (y0, ())) = walkG (callR Tryz.prog plimit_C (drawR Tryz.prog tau) 6 0) 40 false [tv (.sl (.st .api_Version)) l] plimit_sp.rs post := by kernel_rfl
theorem plimit_of (h : ∀ (l : List (api_Version)) (post : Int → Prop), plimit_P l post → plimit_W l post) : SpecOK Tryz.prog plimit_sp := SpecOK.of_rules (C := plimit_C) (dr := drawR Tryz.prog tau) (n := 6) (fk := 0) .nil (drawR_ok tau) fun x post hp => HoldW.of (plimit_w x.1 post) (h x.1 (fun y0 => post (y0, ())) hp)
theorem plimit_ok : SpecOK Tryz.prog plimit_sp := plimit_of fun l post hp => by
  obtain ⟨⟨h1, h2⟩, hp⟩ := hp
  unfold plimit_W
  intro _
  refine loopCmp (n := l.length) (by omega) (p := fun i => ∀ j : Nat, j < (ix l (i : Int)).Lines.length → (ix (ix l (i : Int)).Lines (j : Int)).Region.Rects.length ≤ 120) (fun rec k hk _ hrec => ⟨by omega, fun _ => ?_⟩) fun hall => ?_
  · have hx : (ix l (k : Int)).Lines.length ≤ 1000 := h2 _ (ix_mem (l := l) (i := (k : Int)) (by omega) (by omega))
    refine loopCmp (n := (ix l (k : Int)).Lines.length) (by omega) (p := fun j => (ix (ix l (k : Int)).Lines (j : Int)).Region.Rects.length ≤ 120) (fun rec2 j hj _ hrec2 => ⟨by omega, fun _ => IFB.mk (fun hn => ?_) (fun hn => hrec2 ?_)⟩) fun hall2 => hrec hall2
    · have hn : (120 : Int) < ((ix (ix l (k : Int)).Lines (j : Int)).Region.Rects.length : Int) := of_decide_eq_true hn
      rw [limitF_1 (fun h => by have := limit_row.1 h k hk j hj; omega)] at hp
      exact hp
    · have hn : ¬ (120 : Int) < ((ix (ix l (k : Int)).Lines (j : Int)).Region.Rects.length : Int) := of_decide_eq_false hn
      omega
  · rw [limitF_0 (limit_row.2 hall)] at hp
    exact hp

end RE
end Go.Proofs.YtblcakaohlgagaaGreat
set_option maxRecDepth 100000
set_option linter.unusedVariables false
namespace Go.Proofs.YtblcakaohlgagaaGreat
open Go.RowKit
namespace RE
open PL

theorem errY_zero {l : List api_Version} : ∀ {ys : List api_Yield}, errY l ys = 0 → ∀ z ∈ ys, thereP l z.1 ∧ validP z.2.1
  | [], _, z, hz => by cases hz
  | a :: ys, h, z, hz => by
    unfold errY at h
    split at h
    · cases h
    · rename_i h1
      split at h
      · cases h
      · rename_i h2
        rcases List.mem_cons.1 hz with rfl | hz
        · exact ⟨Classical.not_not.1 h1, Classical.not_not.1 h2⟩
        · exact errY_zero h z hz
theorem canon_prop {l : List Rc} (h : Canon l) (hb : ∀ x y, cov l x y = true → 0 ≤ x ∧ x < 16384 ∧ 0 ≤ y ∧ y < 16384) : ∀ r ∈ l, proper r := fun r hr => by
  obtain ⟨a, b, c, d, e, f⟩ := canon_box h hb r hr
  exact ⟨a, b, c, d, e, f⟩
theorem gave_proper {l : List api_Version} (hv : ∀ x ∈ linV l, validP x.rects) {ys : List api_Yield} (hy : ∀ z ∈ ys, thereP l z.1) {p : api_Place} (hp : thereP l p) : ∀ r ∈ gat (ys.foldl give1 l) p, proper r := by
  obtain ⟨q1, q2⟩ := (gives_ok hy).2 p hp
  obtain ⟨_, v2, v3⟩ := hv ⟨p, gat l p⟩ (mem_linV.2 ⟨hp, rfl⟩)
  exact canon_prop (q1 v3) fun x y hc => proper_box v2 ((q2 x y).1 hc).1
def pgvI (l : List api_Version) (y : List api_Yield) (z : Int) (m : List api_Version) : Prop := ∃ k : Nat, z = (k : Int) ∧ k ≤ y.length ∧ m = (y.take k).foldl give1 l
end RE
end Go.Proofs.YtblcakaohlgagaaGreat
set_option linter.unusedVariables false
set_option maxRecDepth 100000
namespace Go.Proofs.YtblcakaohlgagaaGreat
open Go.RowKit
namespace RE
open PL
namespace PL
/-- Rectangles within 30 by 10 squares. -/
def inBox (l : List Rc) : Prop := ∀ r ∈ l, 0 ≤ r.Left ∧ r.Left < r.Right ∧ r.Right ≤ 30 ∧ 0 ≤ r.Low ∧ r.Low < r.High ∧ r.High ≤ 10
/-- Lines that are few, small, and at different places. -/
def smallF (L : List Ln) : Prop := L.length ≤ 60 ∧ (L.map (·.place)).Nodup ∧ ∀ x ∈ L, inBox x.rects ∧ x.rects.length ≤ 120
end PL
theorem nodup_lt : ∀ {n : Nat} {l : List Nat}, l.Nodup → (∀ a ∈ l, a < n) → l.length ≤ n
  | 0, l, _, h => by
    match l with
    | [] => exact Nat.le_refl _
    | a :: _ => exact absurd (h a (List.mem_cons_self ..)) (Nat.not_lt_zero _)
  | n + 1, l, hn, h => by
    have h1 : (l.erase n).length ≤ n := nodup_lt (hn.erase n) fun a ha => by
      have hm := (hn.mem_erase_iff).1 ha
      have := h a hm.2
      have hne := hm.1
      omega
    have h2 : l.length ≤ (l.erase n).length + 1 := by
      by_cases hm : n ∈ l
      · have := List.length_erase_of_mem hm; omega
      · rw [List.erase_of_not_mem hm]; omega
    omega
theorem box_cov2 {l : List Rc} (h : inBox l) {x y : Int} (hc : cov l x y = true) : 0 ≤ x ∧ x < 30 ∧ 0 ≤ y ∧ y < 10 := by
  obtain ⟨r, hr, h1, h2, h3, h4⟩ := cov_iff.1 hc
  obtain ⟨a, b, c, d, e, f⟩ := h r hr
  omega
theorem box_proper {l : List Rc} (h : inBox l) : ∀ r ∈ l, proper r := fun r hr => by
  obtain ⟨a, b, c, d, e, f⟩ := h r hr
  exact ⟨a, b, by omega, d, e, by omega⟩
theorem can_inBox {l : List Rc} (hc : Canon l) (h : ∀ x y, cov l x y = true → 0 ≤ x ∧ x < 30 ∧ 0 ≤ y ∧ y < 10) : inBox l ∧ l.length ≤ 300 := by
  refine ⟨fun r hr => canon_box hc h r hr, ?_⟩
  have := canon_len hc (x0 := 0) (x1 := 30) (y0 := 0) (y1 := 10) (by omega) (by omega) h
  omega
theorem who_cov {L : List Ln} {x y : Int} (h : who L x y ≠ []) (hb : ∀ l ∈ L, inBox l.rects) : 0 ≤ x ∧ x < 30 ∧ 0 ≤ y ∧ y < 10 := by
  obtain ⟨p, hp⟩ := List.exists_mem_of_ne_nil _ h
  obtain ⟨l, hl, hc, _⟩ := who_mem.1 hp
  exact box_cov2 (hb l hl) hc
theorem who_len {L : List Ln} {x y : Int} : (who L x y).length ≤ L.length := by unfold who; rw [List.length_map]; exact List.length_filter_le _ _
/-- A face is small. -/
theorem face_small {L : List Ln} {F : List Fc} (h : FacesOK L F) (hb : ∀ l ∈ L, inBox l.rects) {f : Fc} (hf : f ∈ F) : inBox f.rects ∧ f.rects.length ≤ 300 ∧ f.claims.length ≤ L.length := by
  obtain ⟨h1, h2, h3, h4⟩ := h.each f hf
  obtain ⟨q1, q2⟩ := can_inBox h1 fun x y hc => who_cov (L := L) (by rw [h4 x y hc]; exact h3) hb
  obtain ⟨x, y, hc⟩ := canon_some h1 h2
  exact ⟨q1, q2, by rw [← h4 x y hc]; exact who_len⟩
open Classical in
/-- A square of a face. -/
noncomputable def pick (f : Fc) : Nat := if h : ∃ xy : Int × Int, cov f.rects xy.1 xy.2 = true then ((Classical.choose h).1 * 10 + (Classical.choose h).2).toNat else 0
theorem pick_ok {f : Fc} (h1 : Canon f.rects) (h2 : f.rects ≠ []) : ∃ x y, cov f.rects x y = true ∧ pick f = (x * 10 + y).toNat := by
  obtain ⟨x, y, hc⟩ := canon_some h1 h2
  have h : ∃ xy : Int × Int, cov f.rects xy.1 xy.2 = true := ⟨(x, y), hc⟩
  refine ⟨(Classical.choose h).1, (Classical.choose h).2, Classical.choose_spec h, ?_⟩
  unfold pick
  rw [dif_pos h]
theorem faces_few {L : List Ln} {F : List Fc} (h : FacesOK L F) (hb : ∀ l ∈ L, inBox l.rects) : F.length ≤ 300 := by
  have e : F.length = (F.map pick).length := by rw [List.length_map]
  rw [e]
  refine nodup_lt ?_ ?_
  · rw [List.nodup_iff_pairwise_ne, List.pairwise_map]
    refine h.ne.imp_of_mem fun {f g} hf hg hne he => hne ?_
    obtain ⟨a1, a2, a3, a4⟩ := h.each f hf
    obtain ⟨b1, b2, b3, b4⟩ := h.each g hg
    obtain ⟨x, y, c1, e1⟩ := pick_ok a1 a2
    obtain ⟨u, v, c2, e2⟩ := pick_ok b1 b2
    have w1 := a4 x y c1
    have w2 := b4 u v c2
    have r1 := who_cov (L := L) (x := x) (y := y) (by rw [w1]; exact a3) hb
    have r2 := who_cov (L := L) (x := u) (y := v) (by rw [w2]; exact b3) hb
    rw [e1, e2] at he
    have ex : x = u := by omega
    have ey : y = v := by omega
    rw [← w1, ← w2, ex, ey]
  · intro a ha
    obtain ⟨f, hf, rfl⟩ := List.mem_map.1 ha
    obtain ⟨a1, a2, a3, a4⟩ := h.each f hf
    obtain ⟨x, y, c1, e1⟩ := pick_ok a1 a2
    have r1 := who_cov (L := L) (x := x) (y := y) (by rw [a4 x y c1]; exact a3) hb
    omega
theorem small_take {L : List Ln} (h : smallF L) (k : Nat) : smallF (L.take k) := by
  obtain ⟨h1, h2, h3⟩ := h
  refine ⟨by rw [List.length_take]; omega, ?_, fun x hx => h3 x (List.mem_of_mem_take hx)⟩
  rw [List.map_take]
  exact h2.sublist (List.take_sublist _ _)
theorem facesS_take {L : List Ln} {k : Nat} {x : Ln} (hk : L[k]? = some x) : facesS (L.take (k + 1)) = faceStep (facesS (L.take k)) ((L.take k).flatMap (·.rects)) x := by
  have hl := (List.getElem?_eq_some_iff.1 hk).1
  have e : L.take (k + 1) = L.take k ++ [x] := by
    rw [List.take_succ_eq_append_getElem hl]
    congr 2
    exact (List.getElem?_eq_some_iff.1 hk).2
  rw [e]
  unfold facesS
  rw [facesG_app, List.nil_append]
theorem flat_small {L : List Ln} (h3 : ∀ x ∈ L, inBox x.rects ∧ x.rects.length ≤ 120) : (∀ r ∈ L.flatMap (·.rects), proper r) ∧ (L.flatMap (·.rects)).length ≤ 120 * L.length := by
  induction L with
  | nil => exact ⟨fun r hr => (by cases hr), Nat.zero_le _⟩
  | cons a L ih =>
    obtain ⟨i1, i2⟩ := ih fun x hx => h3 x (List.mem_cons_of_mem _ hx)
    obtain ⟨a1, a2⟩ := h3 a (List.mem_cons_self ..)
    refine ⟨fun r hr => ?_, ?_⟩
    · rw [List.flatMap_cons] at hr
      rcases List.mem_append.1 hr with hr | hr
      · exact box_proper a1 r hr
      · exact i1 r hr
    · rw [List.flatMap_cons, List.length_append, List.length_cons]; omega
end RE
end Go.Proofs.YtblcakaohlgagaaGreat
set_option maxRecDepth 100000
set_option linter.unusedVariables false
namespace Go.Proofs.YtblcakaohlgagaaGreat
open Go.RowKit
namespace RE
open PL

def pclrO_P (l : List (api_Rect)) (post : List (api_Rect) → Prop) : Prop := (l.length ≤ 4000000) ∧ post (l)
def pclrO_sp : Spec := ⟨93, false, true, [.sl (.st .api_Rect)], .own 89 (.st .api_Rect), fun x post => pclrO_P (x.1 : List (api_Rect)) (fun y0 => post (y0, ()))⟩
def pclrO_C : CtxR := ⟨tau, [], lookJ []⟩
def pclrO_W (l : List (api_Rect)) (post : List (api_Rect) → Prop) : Prop := ∀ (v1 : Bool), (v1 = true → l = []) → IFB v1 (post []) (((0 : Nat) + l.length) * (32 : Nat) ≤ (140737488355328 : Nat) ∧ post ([] ++ l))
theorem pclrO_w (l : List (api_Rect)) (post : dens (shT pclrO_sp.rs []) → Prop) : pclrO_W l (fun y0 => post (y0, ())) = walkG (callR Tryz.prog pclrO_C (drawR Tryz.prog tau) 6 0) 93 false [tv (.sl (.st .api_Rect)) l] pclrO_sp.rs post := by kernel_rfl
theorem pclrO_of (h : ∀ (l : List (api_Rect)) (post : List (api_Rect) → Prop), pclrO_P l post → pclrO_W l post) : SpecOK Tryz.prog pclrO_sp := SpecOK.of_rules (C := pclrO_C) (dr := drawR Tryz.prog tau) (n := 6) (fk := 0) .nil (drawR_ok tau) fun x post hp => HoldW.of (pclrO_w x.1 post) (h x.1 (fun y0 => post (y0, ())) hp)
theorem pclrO_ok : SpecOK Tryz.prog pclrO_sp := pclrO_of fun l post hp => by
  obtain ⟨hl, hp⟩ := hp
  unfold pclrO_W
  refine fun v hv => IFB.mk (fun h => ?_) (fun _ => ⟨by omega, ?_⟩)
  · rw [hv h] at hp; exact hp
  · rw [List.nil_append]; exact hp

def pclpO_P (l : List (api_Place)) (post : List (api_Place) → Prop) : Prop := (l.length ≤ 4000000) ∧ post (l)
def pclpO_sp : Spec := ⟨96, false, true, [.sl (.st .api_Place)], .own 53 (.st .api_Place), fun x post => pclpO_P (x.1 : List (api_Place)) (fun y0 => post (y0, ()))⟩
def pclpO_C : CtxR := ⟨tau, [], lookJ []⟩
def pclpO_W (l : List (api_Place)) (post : List (api_Place) → Prop) : Prop := ∀ (v1 : Bool), (v1 = true → l = []) → IFB v1 (post []) (((0 : Nat) + l.length) * (16 : Nat) ≤ (140737488355328 : Nat) ∧ post ([] ++ l))
theorem pclpO_w (l : List (api_Place)) (post : dens (shT pclpO_sp.rs []) → Prop) : pclpO_W l (fun y0 => post (y0, ())) = walkG (callR Tryz.prog pclpO_C (drawR Tryz.prog tau) 6 0) 96 false [tv (.sl (.st .api_Place)) l] pclpO_sp.rs post := by kernel_rfl
theorem pclpO_of (h : ∀ (l : List (api_Place)) (post : List (api_Place) → Prop), pclpO_P l post → pclpO_W l post) : SpecOK Tryz.prog pclpO_sp := SpecOK.of_rules (C := pclpO_C) (dr := drawR Tryz.prog tau) (n := 6) (fk := 0) .nil (drawR_ok tau) fun x post hp => HoldW.of (pclpO_w x.1 post) (h x.1 (fun y0 => post (y0, ())) hp)
theorem pclpO_ok : SpecOK Tryz.prog pclpO_sp := pclpO_of fun l post hp => by
  obtain ⟨hl, hp⟩ := hp
  unfold pclpO_W
  refine fun v hv => IFB.mk (fun h => ?_) (fun _ => ⟨by omega, ?_⟩)
  · rw [hv h] at hp; exact hp
  · rw [List.nil_append]; exact hp

def pfaces_P (L : List (crosscheck_line)) (post : List (crosscheck_face) → Prop) : Prop := (smallF L) ∧ post (facesS L)
def pfaces_sp : Spec := ⟨52, false, true, [.sl (.st .crosscheck_line)], .dat (.sl (.st .crosscheck_face)), fun x post => pfaces_P (x.1 : List (crosscheck_line)) (fun y0 => post (y0, ()))⟩
def pfaces_C : CtxR := ⟨tau, [rule1 pclrO_sp, rule1 pclpO_sp, ruleCC pchoN_sp 39 (ruleC pchoB_sp 95)], lookJ [(0, 9, ⟨[(15, .dat (.int .i64)), (4, .own 89 (.st .api_Rect)), (3, .own 102 (.st .crosscheck_face))], [], [16, 17, 18, 6, 19, 20, 60, 23, 24, 9, 33, 34, 35, 36, 37, 38, 39, 40, 41, 42, 43, 44, 32, 31, 30, 10, 29, 28, 27, 26, 25, 45, 46, 47, 48, 49, 11, 50, 51, 52, 53, 54, 55, 56, 57, 58, 59, 21, 22, 75, 74, 73, 72, 71, 70, 69, 68, 67, 66, 65, 12, 64, 63, 62, 61, 7, 76, 81, 80, 79, 78, 77, 82], [], []⟩), (0, 1000021, ⟨[(4, .own 89 (.st .api_Rect))], [], [77, 78, 79, 80, 81], [], []⟩), (0, 40, ⟨[(4, .dat (.sl (.st .api_Rect))), (7, .own 102 (.st .crosscheck_face))], [], [61, 62, 63, 64, 12, 65, 66, 67, 68, 69, 70, 71, 72, 73, 74, 75], [0, 3], []⟩), (0, 17, ⟨[(21, .dat (.int .i64)), (7, .own 102 (.st .crosscheck_face))], [], [22, 59, 58, 57, 56, 55, 54, 53, 52, 51, 50, 11, 49, 48, 47, 46, 45, 25, 26, 27, 28, 29, 10, 30, 31, 32, 44, 43, 42, 41, 40, 39, 38, 37, 36, 35, 34, 33, 9, 24, 23, 60], [], []⟩), (0, 32, ⟨[(7, .own 102 (.st .crosscheck_face))], [], [23, 24, 9, 33, 34, 35, 36, 37, 38, 39, 40, 41, 42, 43, 44, 32, 31, 30, 10, 29, 28, 27, 26, 25, 45, 46, 47, 48, 49, 11, 50, 51, 52, 53, 54, 55, 56, 57, 58, 59], [3], []⟩), (0, 26, ⟨[(7, .own 102 (.st .crosscheck_face))], [], [25, 26, 27, 28, 29, 10, 30, 31, 32, 44, 43, 42, 41, 40, 39, 38, 37, 36, 35, 34, 33], [3], []⟩), (0, 1000012, ⟨[(7, .own 102 (.st .crosscheck_face))], [], [33, 34, 35, 36, 37, 38, 39, 40, 41, 42, 43, 44], [3], []⟩)]⟩
def pfaces_W (L : List (crosscheck_line)) (post : List (crosscheck_face) → Prop) : Prop := (↑L.length : Int) ≤ (9223372036854775807 : Int) → LOOP [Ty.int IntKind.i64, (Ty.st Sn.api_Rect).sl, (Ty.st Sn.crosscheck_face).sl] (fun (rec1 : Int → List api_Rect → List crosscheck_face → Prop) (z2 : Int) (z3 : List api_Rect) (z4 : List crosscheck_face) ↦ IFB (decide (z2 < (↑L.length : Int))) (((0 : Int) ≤ z2 ∧ z2 < (↑L.length : Int)) ∧ ((↑z4.length : Int) ≤ (9223372036854775807 : Int) → LOOP [Ty.int IntKind.i64, (Ty.st Sn.crosscheck_face).sl] (fun (rec5 : Int → List crosscheck_face → Prop) (z6 : Int) (z7 : List crosscheck_face) ↦ IFB (decide (z6 < (↑z4.length : Int))) (JOIN [(Ty.st Sn.crosscheck_face).sl] (fun (y8 : List crosscheck_face) ↦ rec5 (IntKind.i64.wrap (z6 + (1 : Int))) y8) fun (J9 : List crosscheck_face → Prop) ↦ ((0 : Int) ≤ z6 ∧ z6 < (↑z4.length : Int)) ∧ JOIN [(Ty.st Sn.crosscheck_face).sl] (fun (y10 : List crosscheck_face) ↦ (((∀ (v11 : api_Rect), v11 ∈ (ix z4 z6).1 → (0 : Int) ≤ v11.1 ∧ v11.1 < v11.3 ∧ v11.3 ≤ (16384 : Int) ∧ (0 : Int) ≤ v11.2 ∧ v11.2 < v11.4 ∧ v11.4 ≤ (16384 : Int)) ∧ (ix z4 z6).1.length ≤ (8000 : Nat)) ∧ (∀ (v12 : api_Rect), v12 ∈ (ix L z2).2 → (0 : Int) ≤ v12.1 ∧ v12.1 < v12.3 ∧ v12.3 ≤ (16384 : Int) ∧ (0 : Int) ≤ v12.2 ∧ v12.2 < v12.4 ∧ v12.4 ≤ (16384 : Int)) ∧ (ix L z2).2.length ≤ (8000 : Nat)) ∧ ((↑(canonF fun (x y : Int) ↦ howS (3 : Int) (cov (ix z4 z6).1 x y) (cov (ix L z2).2 x y)).length : Int) ≤ (9223372036854775807 : Int) → IFB (decide ((0 : Int) < (↑(canonF fun (x y : Int) ↦ howS (3 : Int) (cov (ix z4 z6).1 x y) (cov (ix L z2).2 x y)).length : Int))) ((y10.length + [{ rects := canonF fun (x y : Int) ↦ howS (3 : Int) (cov (ix z4 z6).1 x y) (cov (ix L z2).2 x y), claims := (ix z4 z6).2 : crosscheck_face }].length) * (48 : Nat) ≤ (140737488355328 : Nat) ∧ J9 (y10 ++ [{ rects := canonF fun (x y : Int) ↦ howS (3 : Int) (cov (ix z4 z6).1 x y) (cov (ix L z2).2 x y), claims := (ix z4 z6).2 : crosscheck_face }])) (J9 y10))) fun (J13 : List crosscheck_face → Prop) ↦ (((∀ (v14 : api_Rect), v14 ∈ (ix z4 z6).1 → (0 : Int) ≤ v14.1 ∧ v14.1 < v14.3 ∧ v14.3 ≤ (16384 : Int) ∧ (0 : Int) ≤ v14.2 ∧ v14.2 < v14.4 ∧ v14.4 ≤ (16384 : Int)) ∧ (ix z4 z6).1.length ≤ (8000 : Nat)) ∧ (∀ (v15 : api_Rect), v15 ∈ (ix L z2).2 → (0 : Int) ≤ v15.1 ∧ v15.1 < v15.3 ∧ v15.3 ≤ (16384 : Int) ∧ (0 : Int) ≤ v15.2 ∧ v15.2 < v15.4 ∧ v15.4 ≤ (16384 : Int)) ∧ (ix L z2).2.length ≤ (8000 : Nat)) ∧ ((↑(canonF fun (x y : Int) ↦ howS (2 : Int) (cov (ix z4 z6).1 x y) (cov (ix L z2).2 x y)).length : Int) ≤ (9223372036854775807 : Int) → IFB (decide ((0 : Int) < (↑(canonF fun (x y : Int) ↦ howS (2 : Int) (cov (ix z4 z6).1 x y) (cov (ix L z2).2 x y)).length : Int))) (JOIN [(Ty.st Sn.crosscheck_face).sl] (fun (y16 : List crosscheck_face) ↦ J13 y16) fun (J17 : List crosscheck_face → Prop) ↦ ((ix z4 z6).2.length ≤ (4000000 : Nat) ∧ ((ix z4 z6).2.length + [{ Application := (ix L z2).1.1, Line := (ix L z2).1.2 : api_Place }].length) * (16 : Nat) ≤ (140737488355328 : Nat) ∧ (z7.length + [{ rects := canonF fun (x y : Int) ↦ howS (2 : Int) (cov (ix z4 z6).1 x y) (cov (ix L z2).2 x y), claims := (ix z4 z6).2 ++ [{ Application := (ix L z2).1.1, Line := (ix L z2).1.2 : api_Place }] : crosscheck_face }].length) * (48 : Nat) ≤ (140737488355328 : Nat) ∧ J17 (z7 ++ [{ rects := canonF fun (x y : Int) ↦ howS (2 : Int) (cov (ix z4 z6).1 x y) (cov (ix L z2).2 x y), claims := (ix z4 z6).2 ++ [{ Application := (ix L z2).1.1, Line := (ix L z2).1.2 : api_Place }] : crosscheck_face }])) ∧ (ix z4 z6).2.length ≤ (4000000 : Nat) ∧ ((ix z4 z6).2.length + [{ Application := (ix L z2).1.1, Line := (ix L z2).1.2 : api_Place }].length) * (16 : Nat) ≤ (140737488355328 : Nat) ∧ (z7.length + [{ rects := canonF fun (x y : Int) ↦ howS (2 : Int) (cov (ix z4 z6).1 x y) (cov (ix L z2).2 x y), claims := (ix z4 z6).2 ++ [{ Application := (ix L z2).1.1, Line := (ix L z2).1.2 : api_Place }] : crosscheck_face }].length) * (48 : Nat) ≤ (140737488355328 : Nat) ∧ J17 (z7 ++ [{ rects := canonF fun (x y : Int) ↦ howS (2 : Int) (cov (ix z4 z6).1 x y) (cov (ix L z2).2 x y), claims := (ix z4 z6).2 ++ [{ Application := (ix L z2).1.1, Line := (ix L z2).1.2 : api_Place }] : crosscheck_face }])) (J13 z7))) (JOIN [(Ty.st Sn.api_Rect).sl, (Ty.st Sn.crosscheck_face).sl] (fun (y18 : List api_Rect) (y19 : List crosscheck_face) ↦ JOIN [(Ty.st Sn.api_Rect).sl] (fun (y20 : List api_Rect) ↦ rec1 (IntKind.i64.wrap (z2 + (1 : Int))) y20 y19) fun (J21 : List api_Rect → Prop) ↦ y18.length ≤ (4000000 : Nat) ∧ (y18.length + (ix L z2).2.length) * (32 : Nat) ≤ (140737488355328 : Nat) ∧ J21 (y18 ++ (ix L z2).2)) fun (J22 : List api_Rect → List crosscheck_face → Prop) ↦ (((∀ (v23 : api_Rect), v23 ∈ (ix L z2).2 → (0 : Int) ≤ v23.1 ∧ v23.1 < v23.3 ∧ v23.3 ≤ (16384 : Int) ∧ (0 : Int) ≤ v23.2 ∧ v23.2 < v23.4 ∧ v23.4 ≤ (16384 : Int)) ∧ (ix L z2).2.length ≤ (8000 : Nat)) ∧ (∀ (v24 : api_Rect), v24 ∈ z3 → (0 : Int) ≤ v24.1 ∧ v24.1 < v24.3 ∧ v24.3 ≤ (16384 : Int) ∧ (0 : Int) ≤ v24.2 ∧ v24.2 < v24.4 ∧ v24.4 ≤ (16384 : Int)) ∧ z3.length ≤ (8000 : Nat)) ∧ ((↑(canonF fun (x y : Int) ↦ howS (3 : Int) (cov (ix L z2).2 x y) (cov z3 x y)).length : Int) ≤ (9223372036854775807 : Int) → IFB (decide ((0 : Int) < (↑(canonF fun (x y : Int) ↦ howS (3 : Int) (cov (ix L z2).2 x y) (cov z3 x y)).length : Int))) ((z7.length + [{ rects := canonF fun (x y : Int) ↦ howS (3 : Int) (cov (ix L z2).2 x y) (cov z3 x y), claims := [{ Application := (ix L z2).1.1, Line := (ix L z2).1.2 : api_Place }] : crosscheck_face }].length) * (48 : Nat) ≤ (140737488355328 : Nat) ∧ J22 z3 (z7 ++ [{ rects := canonF fun (x y : Int) ↦ howS (3 : Int) (cov (ix L z2).2 x y) (cov z3 x y), claims := [{ Application := (ix L z2).1.1, Line := (ix L z2).1.2 : api_Place }] : crosscheck_face }])) (J22 z3 z7)))) ((0 : Int), [], PUnit.unit))) (post z4)) ((0 : Int), [], [], PUnit.unit)
theorem pfaces_w (L : List (crosscheck_line)) (post : dens (shT pfaces_sp.rs []) → Prop) : pfaces_W L (fun y0 => post (y0, ())) = walkG (callR Tryz.prog pfaces_C (drawR Tryz.prog tau) 8 0) 52 false [tv (.sl (.st .crosscheck_line)) L] pfaces_sp.rs post := by kernel_rfl
theorem pfaces_of (h : ∀ (L : List (crosscheck_line)) (post : List (crosscheck_face) → Prop), pfaces_P L post → pfaces_W L post) : SpecOK Tryz.prog pfaces_sp := SpecOK.of_rules (C := pfaces_C) (dr := drawR Tryz.prog tau) (n := 8) (fk := 0) (.cons (rule1_ok pclrO_ok) (.cons (rule1_ok pclpO_ok) (.cons (ruleCC_ok pchoN_ok (ruleC_ok pchoB_ok) rfl) .nil))) (drawR_ok tau) fun x post hp => HoldW.of (pfaces_w x.1 post) (h x.1 (fun y0 => post (y0, ())) hp)
def pfaI (L : List Ln) (z : Int) (a : List Rc) (b : List Fc) : Prop := ∃ k : Nat, z = (k : Int) ∧ k ≤ L.length ∧ a = (L.take k).flatMap (·.rects) ∧ b = facesS (L.take k)
def pfaJ (F : List Fc) (x : Ln) (z : Int) (b : List Fc) : Prop := ∃ j : Nat, z = (j : Int) ∧ j ≤ F.length ∧ b = (F.take j).flatMap (face1 x) ∧ b.length ≤ 2 * j
theorem pfaces_ok : SpecOK Tryz.prog pfaces_sp := pfaces_of fun L post hp => by
  obtain ⟨hs, hp⟩ := hp
  have hL : L.length ≤ 60 := hs.1
  unfold pfaces_W
  refine fun _ => LOOP.fuel (fun u => pfaI L u.1 u.2.1 u.2.2.1) (fun u => L.length - Int.toNat u.1) ⟨0, rfl, Nat.zero_le _, rfl, rfl⟩ ?_
  rintro rec ⟨(z : Int), (a : List Rc), (b : List Fc), ⟨⟩⟩ ⟨k, i1, i2, i3, i4⟩ hrec
  have i1 : z = (k : Int) := i1
  have q3 : a = (L.take k).flatMap (·.rects) := i3
  have q4 : b = facesS (L.take k) := i4
  clear i3 i4
  subst i1
  refine IFB.mk (fun hb => ?_) (fun hb => ?_)
  rotate_left
  · have hb : ¬ (k : Int) < L.length := of_decide_eq_false hb
    have hk : k = L.length := by omega
    rw [hk, List.take_length] at q4
    show post b
    rw [q4]; exact hp
  have hb : (k : Int) < L.length := of_decide_eq_true hb
  have hkl : k < L.length := by omega
  obtain ⟨x, hx⟩ : ∃ x, L[k]? = some x := ⟨_, List.getElem?_eq_getElem hkl⟩
  have hix : ix L (k : Int) = x := ix_of hx
  have hsk := small_take hs k
  have hok : FacesOK (L.take k) b := by rw [q4]; exact faces_ok hsk.2.1
  have hbk : ∀ l ∈ L.take k, inBox l.rects := fun l hl => (hsk.2.2 l hl).1
  have hlk : (L.take k).length ≤ 60 := hsk.1
  have hfew := faces_few hok hbk
  obtain ⟨hx1, hx2⟩ := hs.2.2 x (List.mem_of_getElem? hx)
  have hxp := box_proper hx1
  obtain ⟨ha1, ha2⟩ := flat_small hsk.2.2
  rw [← q3] at ha1 ha2
  have hstep := facesS_take hx
  rw [← q4, ← q3] at hstep
  refine ⟨⟨by omega, hb⟩, fun _ => ?_⟩
  dsimp only
  rw [hix]
  have hX : (∀ v : api_Rect, v ∈ x.2 → 0 ≤ v.1 ∧ v.1 < v.3 ∧ v.3 ≤ 16384 ∧ 0 ≤ v.2 ∧ v.2 < v.4 ∧ v.4 ≤ 16384) ∧ x.2.length ≤ 8000 := ⟨hxp, by show x.rects.length ≤ 8000; omega⟩
  refine LOOP.fuel (fun u => pfaJ b x u.1 u.2.1) (fun u => b.length - Int.toNat u.1) ⟨0, rfl, Nat.zero_le _, rfl, Nat.le_refl _⟩ ?_
  rintro rec2 ⟨(z2 : Int), (c : List Fc), ⟨⟩⟩ ⟨j, j1, j2, j3, j4⟩ hrec2
  have j1 : z2 = (j : Int) := j1
  have r3 : c = (b.take j).flatMap (face1 x) := j3
  have r4 : c.length ≤ 2 * j := j4
  clear j3 j4
  subst j1
  refine IFB.mk (fun hc => ?_) (fun hc => ?_)
  · have hc : (j : Int) < b.length := of_decide_eq_true hc
    have hj : j < b.length := by omega
    obtain ⟨f, hf⟩ : ∃ f, b[j]? = some f := ⟨_, List.getElem?_eq_getElem hj⟩
    have hif : ix b (j : Int) = f := ix_of hf
    obtain ⟨f1, f2, f3⟩ := face_small hok hbk (List.mem_of_getElem? hf)
    have hfp := box_proper f1
    have htk : (b.take (j + 1)).flatMap (face1 x) = c ++ face1 x f := by
      rw [List.take_succ_eq_append_getElem hj, List.flatMap_append, ← r3, ← (List.getElem?_eq_some_iff.1 hf).2]; simp
    have hF : (∀ v : api_Rect, v ∈ f.1 → 0 ≤ v.1 ∧ v.1 < v.3 ∧ v.3 ≤ 16384 ∧ 0 ≤ v.2 ∧ v.2 < v.4 ∧ v.4 ≤ 16384) ∧ f.1.length ≤ 8000 := ⟨hfp, by show f.rects.length ≤ 8000; omega⟩
    refine JOIN.opq fun (J : List Fc → Prop) hJ => ⟨⟨by omega, hc⟩, JOIN.opq fun (K : List Fc → Prop) hK => ?_⟩
    dsimp only
    rw [hif]
    have hfl : f.2.length ≤ 60 := by show f.claims.length ≤ 60; omega
    have hlast : ∀ y : List Fc, y = c ++ face1 x f → J y := fun y hy => by
      rw [hJ]
      show rec2 (IntKind.i64.wrap ((j : Int) + 1)) y
      rw [wrapS (by omega)]
      refine hrec2 (((j + 1 : Nat) : Int), y, ()) ⟨j + 1, rfl, hj, by show y = _; rw [htk, hy], ?_⟩ (by show b.length - ((j + 1 : Nat) : Int).toNat < b.length - (j : Int).toNat; omega)
      show y.length ≤ 2 * (j + 1)
      rw [hy, List.length_append]
      have : (face1 x f).length ≤ 2 := by
        unfold face1
        rw [List.length_append]
        have := optF_len (r := andC f.rects x.rects) (c := f.claims ++ [x.place])
        have := optF_len (r := notC f.rects x.rects) (c := f.claims)
        omega
      omega
    have hKy : ∀ y : List Fc, y = c ++ optF (andC f.rects x.rects) (f.claims ++ [x.place]) → K y := fun y hy => by
      have hyl : y.length ≤ 2 * j + 1 := by
        rw [hy, List.length_append]
        have := optF_len (r := andC f.rects x.rects) (c := f.claims ++ [x.place])
        omega
      rw [hK]
      dsimp only
      rw [hif]
      have hn : (canonF (comb (howS 3) f.1 x.2)).length ≤ 300 := (can_inBox (can_not f.rects x.rects) fun u v hc => box_cov2 f1 (cov_not.1 hc).1).2
      refine ⟨⟨hF, hX⟩, fun _ => IFB.mk (fun hd => ⟨by simp only [List.length_cons, List.length_nil]; omega, hlast _ ?_⟩) (fun hd => hlast _ ?_)⟩
      · have hd : (0 : Int) < ((canonF (comb (howS 3) f.1 x.2)).length : Int) := of_decide_eq_true hd
        have hne : notC f.rects x.rects ≠ [] := fun e => by
          have e : canonF (comb (howS 3) f.1 x.2) = [] := e
          rw [e] at hd; exact absurd hd (by decide)
        rw [hy]
        unfold face1
        rw [← List.append_assoc]
        congr 1
        conv => rhs; unfold optF
        rw [if_neg hne]; rfl
      · have hd : ¬ (0 : Int) < ((canonF (comb (howS 3) f.1 x.2)).length : Int) := of_decide_eq_false hd
        have hne : notC f.rects x.rects = [] := List.eq_nil_of_length_eq_zero (by show (canonF (comb (howS 3) f.1 x.2)).length = 0; omega)
        rw [hy]
        unfold face1
        rw [← List.append_assoc]
        conv => rhs; arg 2; unfold optF
        rw [if_pos hne, List.append_nil]
    have ha : (canonF (comb (howS 2) f.1 x.2)).length ≤ 300 := (can_inBox (can_and f.rects x.rects) fun u v hc => box_cov2 f1 (cov_and.1 hc).1).2
    refine ⟨⟨hF, hX⟩, fun _ => IFB.mk (fun hd => JOIN.opq fun (M : List Fc → Prop) hM => ?_) (fun hd => hKy _ ?_)⟩
    · have hd : (0 : Int) < ((canonF (comb (howS 2) f.1 x.2)).length : Int) := of_decide_eq_true hd
      have hne : andC f.rects x.rects ≠ [] := fun e => by
        have e : canonF (comb (howS 2) f.1 x.2) = [] := e
        rw [e] at hd; exact absurd hd (by decide)
      have fin : M (c ++ [(⟨canonF (comb (howS 2) f.1 x.2), f.2 ++ [⟨x.1.1, x.1.2⟩]⟩ : Fc)]) := by
        rw [hM]
        refine hKy _ ?_
        conv => rhs; unfold optF
        rw [if_neg hne]; rfl
      have c1 : f.2.length ≤ 4000000 := by omega
      have c2 : (f.2.length + [(⟨x.1.1, x.1.2⟩ : api_Place)].length) * 16 ≤ 140737488355328 := by simp only [List.length_cons, List.length_nil]; omega
      have c3 : (c.length + [(⟨canonF (comb (howS 2) f.1 x.2), f.2 ++ [⟨x.1.1, x.1.2⟩]⟩ : Fc)].length) * 48 ≤ 140737488355328 := by simp only [List.length_cons, List.length_nil]; omega
      repeat' first
        | exact fin
        | exact c1
        | exact c2
        | exact c3
        | with_reducible apply And.intro
    · have hd : ¬ (0 : Int) < ((canonF (comb (howS 2) f.1 x.2)).length : Int) := of_decide_eq_false hd
      have hne : andC f.rects x.rects = [] := List.eq_nil_of_length_eq_zero (by show (canonF (comb (howS 2) f.1 x.2)).length = 0; omega)
      conv => rhs; arg 2; unfold optF
      rw [if_pos hne, List.append_nil]
  · have hc : ¬ (j : Int) < b.length := of_decide_eq_false hc
    have hj : j = b.length := by omega
    rw [hj, List.take_length] at r3
    have hcl : c.length ≤ 600 := by omega
    refine JOIN.opq fun (J : List Rc → List Fc → Prop) hJ => ?_
    have hA : (∀ v : api_Rect, v ∈ a → 0 ≤ v.1 ∧ v.1 < v.3 ∧ v.3 ≤ 16384 ∧ 0 ≤ v.2 ∧ v.2 < v.4 ∧ v.4 ≤ 16384) ∧ a.length ≤ 8000 := ⟨ha1, by omega⟩
    have hJy : ∀ y : List Fc, y = facesS (L.take (k + 1)) → J a y := fun y hy => by
      rw [hJ]
      dsimp only
      refine JOIN.opq fun (K : List Rc → Prop) hK => ⟨by omega, ?_, ?_⟩
      · have : x.2.length ≤ 8000 := hX.2
        omega
      · rw [hK]
        show rec (IntKind.i64.wrap ((k : Int) + 1)) _ y
        rw [wrapS (by omega)]
        refine hrec (((k + 1 : Nat) : Int), _, y, ()) ⟨k + 1, rfl, hkl, ?_, hy⟩ (by show L.length - ((k + 1 : Nat) : Int).toNat < L.length - (k : Int).toNat; omega)
        show a ++ x.2 = _
        rw [List.take_succ_eq_append_getElem hkl, List.flatMap_append, ← q3, (List.getElem?_eq_some_iff.1 hx).2]; simp
    have hn : (canonF (comb (howS 3) x.2 a)).length ≤ 300 := (can_inBox (can_not x.rects a) fun u v hc => box_cov2 hx1 (cov_not.1 hc).1).2
    refine ⟨⟨hX, hA⟩, fun _ => IFB.mk (fun hd => ⟨by simp only [List.length_cons, List.length_nil]; omega, hJy _ ?_⟩) (fun hd => hJy _ ?_)⟩
    · have hd : (0 : Int) < ((canonF (comb (howS 3) x.2 a)).length : Int) := of_decide_eq_true hd
      have hne : notC x.rects a ≠ [] := fun e => by
        have e : canonF (comb (howS 3) x.2 a) = [] := e
        rw [e] at hd; exact absurd hd (by decide)
      rw [hstep]
      unfold faceStep
      rw [← r3]
      congr 1
      conv => rhs; unfold optF
      rw [if_neg hne]; rfl
    · have hd : ¬ (0 : Int) < ((canonF (comb (howS 3) x.2 a)).length : Int) := of_decide_eq_false hd
      have hne : notC x.rects a = [] := List.eq_nil_of_length_eq_zero (by show (canonF (comb (howS 3) x.2 a)).length = 0; omega)
      rw [hstep]
      unfold faceStep
      rw [← r3]
      conv => rhs; arg 2; unfold optF
      rw [if_pos hne, List.append_nil]

end RE
end Go.Proofs.YtblcakaohlgagaaGreat
