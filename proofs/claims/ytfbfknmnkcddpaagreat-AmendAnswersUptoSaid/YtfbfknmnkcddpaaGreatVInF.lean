/-
  Chapter 14: Reduces and Check of the reference.
-/
import Derived.Test.YtfbfknmnkcddpaaGreatVAmd
set_option maxRecDepth 100000
set_option linter.unusedVariables false
namespace Go.Proofs.YtfbfknmnkcddpaaGreat
open Go.RowKit
namespace RE
open PL

namespace PL
/-- What Reduces says of two versions, of any kind. -/
def redR (a b : api_Version) (q : Bool) (e : Int) : Prop := (20 < a.2.length ∨ 20 < b.2.length) ∧ q = false ∧ e = 1 ∨ ¬ (20 < a.2.length ∨ 20 < b.2.length) ∧ ¬ (linesV a.2 ∧ linesV b.2) ∧ q = false ∧ e = 7 ∨ ¬ (20 < a.2.length ∨ 20 < b.2.length) ∧ (linesV a.2 ∧ linesV b.2) ∧ (q = true ↔ reducesP a b) ∧ e = 0
end PL

def rred_P (a : api_Version) (b : api_Version) (post : Bool → Int → Prop) : Prop := ∀ (q : Bool) (e : Int), redR a b q e → post q e
def rred_sp : Spec := ⟨30, false, false, [.st .api_Version, .st .api_Version], .tup [.dat (.bool), .dat (.int .i64)], fun x post => rred_P (x.1 : api_Version) (x.2.1 : api_Version) (fun y0 y1 => post (y0, y1, ()))⟩
def rred_C : CtxR := ⟨tau, [rule1 rval_sp, rule1 rwit_sp], lookJ [(0, 29, ⟨[(49, .dat (.int .i64))], [], [50, 51, 52, 11, 53, 54, 55, 90, 88, 87, 86, 85, 84, 83, 82, 81, 80, 79, 78, 77, 76, 75, 74, 73, 72, 71, 70, 69, 68, 67, 66, 65, 64, 63, 62, 89, 61, 60, 14, 59, 58, 12, 56, 57, 91, 92, 93], [], []⟩), (0, 37, ⟨[(56, .dat (.int .i64)), (12, .dat .bool)], [], [57, 58, 59, 14, 60, 61, 89, 62, 63, 64, 65, 66, 67, 68, 69, 70, 71, 72, 73, 74, 75, 76, 77, 78, 79, 80, 81, 82, 83, 84, 85, 86, 87, 88, 90], [], []⟩), (0, 9, ⟨[(29, .dat (.int .i64))], [], [30, 31, 32, 7, 33, 34, 35, 44, 43, 42, 41, 40, 9, 39, 38, 36, 37, 45], [], []⟩), (0, 15, ⟨[(36, .dat (.int .i64))], [], [37, 38, 39, 9, 40, 41, 42, 43, 44], [], []⟩)]⟩
def rred_W (a : api_Version) (b : api_Version) (post : Bool → Int → Prop) : Prop := (↑a.2.length : Int) ≤ (9223372036854775807 : Int) → (gx false (decide ((20 : Int) < (↑a.2.length : Int))) = true → (↑b.2.length : Int) ≤ (9223372036854775807 : Int)) → IFB (decide ((20 : Int) < (↑a.2.length : Int)) || decide ((20 : Int) < (↑b.2.length : Int))) (post false (1 : Int)) ((↑[{ Day := a.1, Lines := a.2 : api_Version }, { Day := b.1, Lines := b.2 : api_Version }].length : Int) ≤ (9223372036854775807 : Int) → LOOP [Ty.int IntKind.i64] (fun (rec1 : Int → Prop) (z2 : Int) ↦ IFB (decide (z2 < (↑[{ Day := a.1, Lines := a.2 : api_Version }, { Day := b.1, Lines := b.2 : api_Version }].length : Int))) (((0 : Int) ≤ z2 ∧ z2 < (↑[{ Day := a.1, Lines := a.2 : api_Version }, { Day := b.1, Lines := b.2 : api_Version }].length : Int)) ∧ ((↑(ix [{ Day := a.1, Lines := a.2 : api_Version }, { Day := b.1, Lines := b.2 : api_Version }] z2).2.length : Int) ≤ (9223372036854775807 : Int) → LOOP [Ty.int IntKind.i64] (fun (rec3 : Int → Prop) (z4 : Int) ↦ IFB (decide (z4 < (↑(ix [{ Day := a.1, Lines := a.2 : api_Version }, { Day := b.1, Lines := b.2 : api_Version }] z2).2.length : Int))) (((0 : Int) ≤ z4 ∧ z4 < (↑(ix [{ Day := a.1, Lines := a.2 : api_Version }, { Day := b.1, Lines := b.2 : api_Version }] z2).2.length : Int)) ∧ ∀ (v5 : Bool), (v5 = true ↔ validP (ix (ix [{ Day := a.1, Lines := a.2 : api_Version }, { Day := b.1, Lines := b.2 : api_Version }] z2).2 z4).2.1) → IFB (!v5) (post false (7 : Int)) (rec3 (IntKind.i64.wrap (z4 + (1 : Int))))) (rec1 (IntKind.i64.wrap (z2 + (1 : Int))))) ((0 : Int), PUnit.unit))) ((↑b.2.length : Int) ≤ (9223372036854775807 : Int) → LOOP [Ty.int IntKind.i64] (fun (rec6 : Int → Prop) (z7 : Int) ↦ IFB (decide (z7 < (↑b.2.length : Int))) (((0 : Int) ≤ z7 ∧ z7 < (↑b.2.length : Int)) ∧ ((↑a.2.length : Int) ≤ (9223372036854775807 : Int) → LOOP [Ty.int IntKind.i64, Ty.bool] (fun (rec8 : Int → Bool → Prop) (z9 : Int) (z10 : Bool) ↦ IFB (decide (z9 < (↑a.2.length : Int))) (((0 : Int) ≤ z9 ∧ z9 < (↑a.2.length : Int)) ∧ JOIN [Ty.bool] (fun (y11 : Bool) ↦ rec8 (IntKind.i64.wrap (z9 + (1 : Int))) (z10 || decide ((ix b.2 z7).1 = (ix a.2 z9).1) && decide ((ix b.2 z7).3 = (ix a.2 z9).3) && decide (IntKind.i64.wrap (↑(Nat.instAndOp.1 ((ix b.2 z7).4 % (18446744073709551616 : Int)).toNat (Nat.instXorOp.1 ((18446744073709551615 : Nat)) ((ix a.2 z9).4 % (18446744073709551616 : Int)).toNat)) : Int) = (0 : Int)) && y11)) fun (J12 : Bool → Prop) ↦ IFB (gx false z10 && gx true (decide ((ix b.2 z7).1 = (ix a.2 z9).1) && decide ((ix b.2 z7).3 = (ix a.2 z9).3) && decide (IntKind.i64.wrap (↑(Nat.instAndOp.1 ((ix b.2 z7).4 % (18446744073709551616 : Int)).toNat (Nat.instXorOp.1 ((18446744073709551615 : Nat)) ((ix a.2 z9).4 % (18446744073709551616 : Int)).toNat)) : Int) = (0 : Int)))) (∀ (v13 : Bool), (v13 = true ↔ withinP (ix b.2 z7).2.1 (ix a.2 z9).2.1) → J12 v13) (J12 false)) (IFB (!z10) (post false (0 : Int)) (rec6 (IntKind.i64.wrap (z7 + (1 : Int)))))) ((0 : Int), false, PUnit.unit))) (post true (0 : Int))) ((0 : Int), PUnit.unit))) ((0 : Int), PUnit.unit))
theorem rred_w (a : api_Version) (b : api_Version) (post : dens (shT rred_sp.rs []) → Prop) : rred_W a b (fun y0 y1 => post (y0, y1, ())) = walkG (callR Tryz.prog rred_C (drawR Tryz.prog tau) 10 0) 30 false [tv (.st .api_Version) a, tv (.st .api_Version) b] rred_sp.rs post := by kernel_rfl
theorem rred_of (h : ∀ (a : api_Version) (b : api_Version) (post : Bool → Int → Prop), rred_P a b post → rred_W a b post) : SpecOK Tryz.prog rred_sp := SpecOK.of_rules (C := rred_C) (dr := drawR Tryz.prog tau) (n := 10) (fk := 0) (.cons (rule1_ok rval_ok) (.cons (rule1_ok rwit_ok) .nil)) (drawR_ok tau) fun x post hp => HoldW.of (rred_w x.1 x.2.1 post) (h x.1 x.2.1 (fun y0 y1 => post (y0, y1, ())) hp)

open Classical in
noncomputable def anyL (x : api_Line) (la : List api_Line) (k : Nat) : Bool := decide (∃ j : Nat, j < k ∧ lessL x (ix la (j : Int)))
open Classical in
theorem anyL_iff {x : api_Line} {la : List api_Line} {k : Nat} : anyL x la k = true ↔ ∃ j : Nat, j < k ∧ lessL x (ix la (j : Int)) := by
  unfold anyL
  exact decide_eq_true_iff
theorem anyL_succ {x : api_Line} {la : List api_Line} {k : Nat} {y : Bool} (h : y = true ↔ withinP x.2.1 (ix la (k : Int)).2.1) : anyL x la (k + 1) = (anyL x la k || (lessB x (ix la (k : Int)) && y)) := by
  apply bool_iff
  rw [anyL_iff, Bool.or_eq_true, anyL_iff, Bool.and_eq_true]
  constructor
  · rintro ⟨j, hj, hl⟩
    by_cases e : j = k
    · subst e; exact .inr ⟨hl.1, h.2 hl.2⟩
    · exact .inl ⟨j, by omega, hl⟩
  · rintro (⟨j, hj, hl⟩ | ⟨h1, h2⟩)
    · exact ⟨j, by omega, hl⟩
    · exact ⟨k, by omega, h1, h.1 h2⟩
theorem anyL_skip {x : api_Line} {la : List api_Line} {k : Nat} {y : Bool} (h : anyL x la k = true ∨ lessB x (ix la (k : Int)) = false) : anyL x la (k + 1) = (anyL x la k || (lessB x (ix la (k : Int)) && y)) := by
  apply bool_iff
  rcases h with h | h
  · rw [h, Bool.true_or]
    rw [anyL_iff] at h ⊢
    obtain ⟨j, hj, hl⟩ := h
    exact ⟨fun _ => rfl, fun _ => ⟨j, by omega, hl⟩⟩
  · rw [h, Bool.false_and, Bool.or_false]
    rw [anyL_iff, anyL_iff]
    constructor
    · rintro ⟨j, hj, hl⟩
      by_cases e : j = k
      · subst e; rw [hl.1] at h; cases h
      · exact ⟨j, by omega, hl⟩
    · rintro ⟨j, hj, hl⟩; exact ⟨j, by omega, hl⟩
theorem rred_ok : SpecOK Tryz.prog rred_sp := rred_of fun a b post hp => by
  obtain ⟨da, la⟩ := a
  obtain ⟨db, lb⟩ := b
  unfold rred_W
  dsimp only
  intro _ _
  refine IFB.mk (fun hb => ?_) (fun hb => ?_)
  · refine hp _ _ (.inl ⟨?_, rfl, rfl⟩)
    simp only [Bool.or_eq_true, decide_eq_true_eq] at hb
    show 20 < la.length ∨ 20 < lb.length
    omega
  have hs : ¬ (20 < la.length ∨ 20 < lb.length) := by
    simp only [Bool.or_eq_false_iff, decide_eq_false_iff_not] at hb
    omega
  intro _
  have hL : ∀ k : Nat, k < 2 → (ix [(⟨da, la⟩ : api_Version), ⟨db, lb⟩] (k : Int)).2.length ≤ 20 := fun k hk => by
    match k, hk with
    | 0, _ => show la.length ≤ 20; omega
    | 1, _ => show lb.length ≤ 20; omega
  refine loopCmp (n := 2) (by omega) (p := fun j => linesV (ix [(⟨da, la⟩ : api_Version), ⟨db, lb⟩] (j : Int)).2) (fun rec k hk hpre hrec => ⟨?_, ?_⟩) fun hall => ?_
  · show (0 : Int) ≤ (k : Int) ∧ (k : Int) < ((2 : Nat) : Int)
    omega
  · intro _
    have hk20 := hL k hk
    have hno : ¬ linesV (ix [(⟨da, la⟩ : api_Version), ⟨db, lb⟩] (k : Int)).2 → post false 7 := fun h => by
      refine hp _ _ (.inr (.inl ⟨hs, fun ⟨h1, h2⟩ => h ?_, rfl, rfl⟩))
      match k, hk with
      | 0, _ => exact h1
      | 1, _ => exact h2
    generalize (ix [(⟨da, la⟩ : api_Version), ⟨db, lb⟩] (k : Int)).2 = lk at *
    refine loopCmp (n := lk.length) (by omega) (p := fun j => validP (ix lk (j : Int)).2.1) (fun rec2 m hm _ hrec2 => ⟨by omega, fun v hv => IFB.mk (fun h => ?_) (fun h => hrec2 (hv.1 (by simpa using h)))⟩) fun hall => ?_
    · refine hno fun hl => ?_
      have := hv.2 (hl _ (ix_mem (l := lk) (i := (m : Int)) (by omega) (by omega)))
      rw [this] at h; cases h
    · refine hrec fun x hx => ?_
      obtain ⟨j, hj, rfl⟩ := List.getElem_of_mem hx
      have := hall j hj
      rwa [ix_lt hj] at this
  have hva : linesV la := hall 0 (by omega)
  have hvb : linesV lb := hall 1 (by omega)
  have hfin : ∀ q : Bool, (q = true ↔ reducesP ⟨da, la⟩ ⟨db, lb⟩) → post q 0 := fun q hq => hp _ _ (.inr (.inr ⟨hs, ⟨hva, hvb⟩, hq, rfl⟩))
  intro _
  refine loopCmp (n := lb.length) (by omega) (p := fun j => ∃ y ∈ la, lessL (ix lb (j : Int)) y) (fun rec k hk hpre hrec => ⟨by omega, ?_⟩) fun hall2 => ?_
  · intro _
    refine loopF (t := .bool) (n := la.length) (by omega) (fun m => anyL (ix lb (k : Int)) la m) (fun (rec2 : Int → Bool → Prop) m hm hrec2 => ?_) ?_
    · refine ⟨by omega, JOIN.opq fun (J12 : Bool → Prop) hJ12 => ?_⟩
      have hJ : ∀ y : Bool, anyL (ix lb (k : Int)) la (m + 1) = (anyL (ix lb (k : Int)) la m || (lessB (ix lb (k : Int)) (ix la (m : Int)) && y)) → J12 y := fun y h => by
        rw [hJ12]
        rw [h] at hrec2
        exact hrec2
      refine IFB.mk (fun h v hv => hJ v (anyL_succ hv)) (fun h => hJ false (anyL_skip ?_))
      cases h1 : anyL (ix lb (k : Int)) la m
      · refine .inr ?_
        cases h2 : lessB (ix lb (k : Int)) (ix la (m : Int))
        · rfl
        · exfalso
          have h : (gx false (anyL (ix lb (k : Int)) la m) && gx true (lessB (ix lb (k : Int)) (ix la (m : Int)))) = false := h
          rw [h1, h2] at h
          cases h
      · exact .inl rfl
    · show IFB (!(anyL (ix lb (k : Int)) la la.length)) _ _
      have hex : anyL (ix lb (k : Int)) la la.length = true ↔ ∃ y ∈ la, lessL (ix lb (k : Int)) y := by
        rw [anyL_iff]
        constructor
        · rintro ⟨j, hj, hl⟩; exact ⟨_, ix_mem (by omega) (by omega), hl⟩
        · rintro ⟨y, hy, hl⟩
          obtain ⟨j, hj, rfl⟩ := List.getElem_of_mem hy
          exact ⟨j, hj, by rw [ix_lt hj]; exact hl⟩
      refine IFB.mk (fun h => ?_) (fun h => hrec (hex.1 (by simpa using h)))
      refine hfin false ⟨fun h => (by cases h), fun hr => ?_⟩
      have := hex.2 (hr _ (ix_mem (l := lb) (i := (k : Int)) (by omega) (by omega)))
      rw [this] at h; cases h
  · refine hfin true ⟨fun _ x hx => ?_, fun _ => rfl⟩
    obtain ⟨j, hj, rfl⟩ := List.getElem_of_mem hx
    have := hall2 j hj
    rwa [ix_lt hj] at this
def rchk_P (a : api_Application) (o : Int) (la : Int) (e : Int) (post : Int → Prop) : Prop := ∀ q : Int, q = chkS a o la e → post q
def rchk_sp : Spec := ⟨19, false, false, [.st .api_Application, .int .i64, .int .i64, .int .i64], .dat (.int .i64), fun x post => rchk_P (x.1 : api_Application) (x.2.1 : Int) (x.2.2.1 : Int) (x.2.2.2.1 : Int) (fun y0 => post (y0, ()))⟩
def rchk_C : CtxR := ⟨tau, [rule1 rval_sp, rule1 rred_sp], lookJ [(0, 33, ⟨[(74, .dat (.int .i64))], [], [75, 135, 134, 16, 15, 133, 132, 123, 131, 130, 129, 128, 127, 126, 125, 124, 121, 120, 119, 118, 122, 117, 116, 115, 107, 106, 108, 109, 14, 110, 111, 112, 113, 114, 105, 104, 103, 102, 101, 100, 99, 97, 96, 95, 94, 93, 92, 91, 90, 89, 88, 87, 86, 85, 84, 98, 83, 82, 81, 80, 79, 11, 12, 78, 77, 76, 136], [], []⟩), (0, 64, ⟨[], [], [76, 77, 78, 12, 11, 79, 80, 81, 82, 83, 98, 84, 85, 86, 87, 88, 89, 90, 91, 92, 93, 94, 95, 96, 97, 99, 100, 101, 102, 103, 104, 105, 114, 113, 112, 111, 110, 14, 109, 108, 106, 107, 115, 116, 117, 122, 118, 119, 120, 121, 124, 125, 126, 127, 128, 129, 130, 131, 123, 132, 133, 15, 16, 134, 135], [], []⟩), (0, 47, ⟨[(106, .dat (.int .i64))], [], [107, 108, 109, 14, 110, 111, 112, 113, 114], [], []⟩), (0, 21, ⟨[(62, .dat (.int .i64))], [], [63, 64, 65, 10, 66, 67, 68, 69, 70], [], []⟩)]⟩
def rchk_W (a : api_Application) (o : Int) (la : Int) (e : Int) (post : Int → Prop) : Prop := IFB (decide (o < (0 : Int)) || decide (la < o) || decide (e < la) || decide ((36864 : Int) < e)) (post (9 : Int)) (IFB (decide (a.1 < (1 : Int)) || decide ((60 : Int) < a.1)) (post (2 : Int)) (IFB (decide (a.2 < (0 : Int)) || decide ((100 : Int) < a.2)) (post (18 : Int)) ((↑a.3.length : Int) ≤ (9223372036854775807 : Int) → (gx false (decide ((↑a.3.length : Int) < (1 : Int))) = true → (↑a.3.length : Int) ≤ (9223372036854775807 : Int)) → IFB (decide ((↑a.3.length : Int) < (1 : Int)) || decide ((40 : Int) < (↑a.3.length : Int))) (post (1 : Int)) ((↑a.3.length : Int) ≤ (9223372036854775807 : Int) → LOOP [Ty.int IntKind.i64] (fun (rec1 : Int → Prop) (z2 : Int) ↦ IFB (decide (z2 < (↑a.3.length : Int))) (((0 : Int) ≤ z2 ∧ z2 < (↑a.3.length : Int)) ∧ ((↑(ix a.3 z2).2.length : Int) ≤ (9223372036854775807 : Int) → IFB (decide ((20 : Int) < (↑(ix a.3 z2).2.length : Int))) (post (1 : Int)) (rec1 (IntKind.i64.wrap (z2 + (1 : Int)))))) ((↑a.3.length : Int) ≤ (9223372036854775807 : Int) → LOOP [Ty.int IntKind.i64] (fun (rec3 : Int → Prop) (z4 : Int) ↦ IFB (decide (z4 < (↑a.3.length : Int))) (JOIN [] (rec3 (IntKind.i64.wrap (z4 + (1 : Int)))) fun (J5 : Prop) ↦ ((0 : Int) ≤ z4 ∧ z4 < (↑a.3.length : Int)) ∧ ((gx false (decide ((ix a.3 z4).1 < o)) && gx true (decide ((0 : Int) < z4))) = true → (0 : Int) ≤ IntKind.i64.wrap (z4 - (1 : Int)) ∧ IntKind.i64.wrap (z4 - (1 : Int)) < (↑a.3.length : Int)) ∧ IFB (decide ((ix a.3 z4).1 < o) || decide ((0 : Int) < z4) && decide ((ix a.3 z4).1 < (ix a.3 (IntKind.i64.wrap (z4 - (1 : Int)))).1)) (post (9 : Int)) (IFB (decide (e < (ix a.3 z4).1)) (post (21 : Int)) ((↑(ix a.3 z4).2.length : Int) ≤ (9223372036854775807 : Int) → LOOP [Ty.int IntKind.i64] (fun (rec6 : Int → Prop) (z7 : Int) ↦ IFB (decide (z7 < (↑(ix a.3 z4).2.length : Int))) (((0 : Int) ≤ z7 ∧ z7 < (↑(ix a.3 z4).2.length : Int)) ∧ ∀ (v8 : Bool), (v8 = true ↔ validP (ix (ix a.3 z4).2 z7).2.1) → IFB (!v8) (post (7 : Int)) (rec6 (IntKind.i64.wrap (z7 + (1 : Int))))) (IFB (decide ((0 : Int) < z4) && decide (la < (ix a.3 z4).1)) (((0 : Int) ≤ IntKind.i64.wrap (z4 - (1 : Int)) ∧ IntKind.i64.wrap (z4 - (1 : Int)) < (↑a.3.length : Int)) ∧ ∀ (v9 : Bool) (v10 : Int), redR { Day := (ix a.3 (IntKind.i64.wrap (z4 - (1 : Int)))).1, Lines := (ix a.3 (IntKind.i64.wrap (z4 - (1 : Int)))).2 : api_Version } { Day := (ix a.3 z4).1, Lines := (ix a.3 z4).2 : api_Version } v9 v10 → IFB (!v9) (post (22 : Int)) J5) J5)) ((0 : Int), PUnit.unit)))) (post (0 : Int))) ((0 : Int), PUnit.unit))) ((0 : Int), PUnit.unit)))))
theorem rchk_w (a : api_Application) (o : Int) (la : Int) (e : Int) (post : dens (shT rchk_sp.rs []) → Prop) : rchk_W a o la e (fun y0 => post (y0, ())) = walkG (callR Tryz.prog rchk_C (drawR Tryz.prog tau) 10 0) 19 false [tv (.st .api_Application) a, tv (.int .i64) o, tv (.int .i64) la, tv (.int .i64) e] rchk_sp.rs post := by kernel_rfl
theorem rchk_of (h : ∀ (a : api_Application) (o : Int) (la : Int) (e : Int) (post : Int → Prop), rchk_P a o la e post → rchk_W a o la e post) : SpecOK Tryz.prog rchk_sp := SpecOK.of_rules (C := rchk_C) (dr := drawR Tryz.prog tau) (n := 10) (fk := 0) (.cons (rule1_ok rval_ok) (.cons (rule1_ok rred_ok) .nil)) (drawR_ok tau) fun x post hp => HoldW.of (rchk_w x.1 x.2.1 x.2.2.1 x.2.2.2.1 post) (h x.1 x.2.1 x.2.2.1 x.2.2.2.1 (fun y0 => post (y0, ())) hp)
theorem rchk_ok : SpecOK Tryz.prog rchk_sp := rchk_of fun a o la e post hp => by
  have hp := hp _ rfl
  obtain ⟨f, y, l⟩ := a
  unfold chkS at hp
  unfold rchk_W
  dsimp only at hp ⊢
  have d4 : (decide (o < 0) || decide (la < o) || decide (e < la) || decide (36864 < e)) = true ↔ ¬ (0 ≤ o ∧ o ≤ la ∧ la ≤ e ∧ e ≤ 36864) := by
    simp only [Bool.or_eq_true, decide_eq_true_eq]; omega
  refine IFB.mk (fun hb => ?_) (fun hb => IFB.mk (fun hb2 => ?_) (fun hb2 => IFB.mk (fun hb3 => ?_) (fun hb3 => ?_)))
  · rw [if_pos (d4.1 hb)] at hp
    exact hp
  all_goals rw [if_neg (fun h => by rw [d4.2 h] at hb; cases hb)] at hp
  · rw [if_pos (by simpa using hb2)] at hp; exact hp
  all_goals rw [if_neg (by simpa using hb2)] at hp
  · rw [if_pos (by simpa using hb3)] at hp; exact hp
  rw [if_neg (by simpa using hb3)] at hp
  intro _ _
  refine IFB.mk (fun hb => ?_) (fun hb => ?_)
  · rw [if_pos] at hp
    · exact hp
    · simp only [Bool.or_eq_true, decide_eq_true_eq] at hb
      rcases hb with hb | hb
      · exact .inl (by omega)
      · exact .inr (.inl (by omega))
  have hn1 : 1 ≤ l.length ∧ l.length ≤ 40 := by
    simp only [Bool.or_eq_false_iff, decide_eq_false_iff_not] at hb; omega
  intro _
  refine loopCmp (n := l.length) (by omega) (p := fun j => (ix l (j : Int)).2.length ≤ 20) (fun rec k hk hpre hrec => ⟨by omega, fun _ => IFB.mk (fun h => ?_) (fun h => hrec (by have := of_decide_eq_false h; omega))⟩) fun hall => ?_
  · rw [if_pos (.inr (.inr ⟨_, ix_mem (l := l) (i := (k : Int)) (by omega) (by omega), by have := of_decide_eq_true h; show 20 < (ix l (k : Int)).2.length; omega⟩))] at hp
    exact hp
  have hn2 : ∀ v ∈ l, v.2.length ≤ 20 := fun v hv => by
    obtain ⟨j, hj, rfl⟩ := List.getElem_of_mem hv
    have := hall j hj
    rwa [ix_lt hj] at this
  rw [if_neg (by
    rintro (h | h | ⟨v, hv, h⟩)
    · omega
    · omega
    · have := hn2 v hv; have h : 20 < v.2.length := h; omega)] at hp
  intro _
  have hpv : ∀ {k : Nat} {P : api_Version → Prop}, (∃ q, prevV l k = some q ∧ P q) ↔ 0 < k ∧ P (ix l ((k - 1 : Nat) : Int)) := fun {k P} => by
    unfold prevV
    split
    · rename_i h; constructor
      · rintro ⟨q, hq, _⟩; cases hq
      · intro h2; omega
    · rename_i h; constructor
      · rintro ⟨q, hq, h2⟩; injection hq with hq; subst hq; exact ⟨by omega, h2⟩
      · intro h2; exact ⟨_, rfl, h2.2⟩
  have hval : ∀ {k : Nat}, chkAt o la e l k = 0 → linesV (ix l (k : Int)).2 := fun {k} h => by
    unfold chkAt chk1 at h
    apply Classical.byContradiction
    intro hn
    split at h
    · cases h
    · split at h
      · cases h
      · first
          | (rw [if_pos hn] at h; cases h)
          | cases h
  refine loopCmp (n := l.length) (by omega) (p := fun j => chkAt o la e l j = 0) (fun rec k hk hpre hrec => JOIN.opq fun (J5 : Prop) hJ5 => ?_) fun hall2 => ?_
  · have hx : ix l (k : Int) ∈ l := ix_mem (by omega) (by omega)
    have hvl := hn2 _ hx
    have hw : 0 < k → IntKind.i64.wrap ((k : Int) - 1) = ((k - 1 : Nat) : Int) := fun h => by rw [wrap_in (by omega) (by omega)]; omega
    have hout : ∀ c : Int, c ≠ 0 → chkAt o la e l k = c → post c := fun c hc h => by
      rw [firstE_at hpre (by rw [h]; exact hc) hk, h] at hp
      exact hp
    have hJ : chkAt o la e l k = 0 → J5 := fun h => by rw [hJ5]; exact hrec h
    unfold chkAt chk1 at hout hJ
    simp only [hpv] at hout hJ
    have hd : (decide ((ix l (k : Int)).1 < o) || decide (0 < (k : Int)) && decide ((ix l (k : Int)).1 < (ix l (IntKind.i64.wrap ((k : Int) - 1))).1)) = true ↔ ((ix l (k : Int)).1 < o ∨ 0 < k ∧ (ix l (k : Int)).1 < (ix l ((k - 1 : Nat) : Int)).1) := by
      simp only [Bool.or_eq_true, Bool.and_eq_true, decide_eq_true_eq]
      constructor
      · rintro (h | ⟨h1, h2⟩)
        · exact .inl h
        · rw [hw (by omega)] at h2; exact .inr ⟨by omega, h2⟩
      · rintro (h | ⟨h1, h2⟩)
        · exact .inl h
        · rw [hw h1]; exact .inr ⟨by omega, h2⟩
    refine ⟨by omega, fun h => ?_, IFB.mk (fun h => ?_) (fun h => IFB.mk (fun h2 => ?_) (fun h2 _ => ?_))⟩
    · have : 0 < (k : Int) := by
        simp only [gx, Bool.and_eq_true, decide_eq_true_eq, cond_true] at h
        exact h.2
      rw [hw (by omega)]
      omega
    · exact hout 9 (by decide) (if_pos (hd.1 h))
    · refine hout 21 (by decide) ?_
      rw [if_neg (fun q => by rw [hd.2 q] at h; cases h), if_pos (by simpa using h2)]
    · refine loopCmp (n := (ix l (k : Int)).2.length) (by omega) (p := fun j => validP (ix (ix l (k : Int)).2 (j : Int)).2.1) (fun rec2 m hm _ hrec2 => ⟨by omega, fun v hv => IFB.mk (fun h3 => ?_) (fun h3 => hrec2 (hv.1 (by simpa using h3)))⟩) fun hall3 => ?_
      · refine hout 7 (by decide) ?_
        rw [if_neg (fun q => by rw [hd.2 q] at h; cases h), if_neg (by simpa using h2), if_pos]
        intro hl
        have := hv.2 (hl _ (ix_mem (l := (ix l (k : Int)).2) (i := (m : Int)) (by omega) (by omega)))
        rw [this] at h3; cases h3
      · have hlv : linesV (ix l (k : Int)).2 := fun x hx => by
          obtain ⟨j, hj, rfl⟩ := List.getElem_of_mem hx
          have := hall3 j hj
          rwa [ix_lt hj] at this
        rw [if_neg (fun q => by rw [hd.2 q] at h; cases h), if_neg (by simpa using h2), if_neg (fun q => q hlv)] at hJ
        refine IFB.mk (fun h4 => ?_) (fun h4 => hJ (if_neg ?_))
        · simp only [Bool.and_eq_true, decide_eq_true_eq] at h4
          have hk0 : 0 < k := by omega
          rw [hw hk0]
          refine ⟨by omega, fun q9 e10 hr => ?_⟩
          have hpl := hn2 _ (ix_mem (l := l) (i := ((k - 1 : Nat) : Int)) (by omega) (by omega))
          have hpval := hval (hpre (k - 1) (by omega))
          rcases hr with ⟨hr, _⟩ | ⟨_, hr, _⟩ | ⟨_, _, hr, _⟩
          · exfalso
            have hr : 20 < (ix l ((k - 1 : Nat) : Int)).2.length ∨ 20 < (ix l (k : Int)).2.length := hr
            omega
          · exact absurd ⟨hpval, hlv⟩ hr
          · refine IFB.mk (fun h5 => ?_) (fun h5 => hJ (if_neg ?_))
            · refine hout 22 (by decide) ?_
              have hne : ¬ reducesP (ix l ((k - 1 : Nat) : Int)) (ix l (k : Int)) := fun q => by
                have : q9 = true := hr.2 q
                rw [this] at h5; cases h5
              rw [if_neg (fun q => by rw [hd.2 q] at h; cases h), if_neg (by simpa using h2), if_neg (fun q => q hlv), if_pos ⟨_, by unfold prevV; rw [if_neg (by omega)], h4.2, hne⟩]
            · rintro ⟨w, hw2, _, q⟩
              unfold prevV at hw2
              rw [if_neg (by omega)] at hw2
              injection hw2 with hw2
              subst hw2
              exact q (hr.1 (by simpa using h5))
        · rintro ⟨w, hw2, q2, _⟩
          have q1 : 0 < k := by
            unfold prevV at hw2
            split at hw2
            · cases hw2
            · omega
          have : (decide (0 < (k : Int)) && decide (la < (ix l (k : Int)).1)) = true := by
            rw [decide_eq_true (by omega), decide_eq_true q2]; rfl
          rw [this] at h4; cases h4
  · rw [firstE_zero.2 hall2] at hp
    exact hp

end RE
end Go.Proofs.YtfbfknmnkcddpaaGreat
