/-
  Chapter 21: walks of Check.
-/
import Derived.Test.YtpnmiieohdkenaaYPlain
import Derived.Test.YtpnmiieohdkenaaYSort
set_option maxRecDepth 100000
set_option linter.unusedVariables false
namespace Go.Proofs.Ytpnmiieohdkenaa
open Go.RowKit
namespace RE
open PL
def echk_P (x : api_Entitlements) (post : Int → Prop) : Prop := (True) ∧ post (chkE x)
def echk_sp : Spec := ⟨16, false, false, [.st .api_Entitlements], .dat (.int .i64), fun x post => echk_P (x.1 : api_Entitlements) (fun y0 => post (y0, ()))⟩
def echk_C : Ctx := ⟨tau, [], lookJ [(12255, 7, ⟨[(8, .dat (.int .i64)), (3, .dat (.int .i64))], [], [9, 10, 11, 5, 12, 13, 14, 15, 16], [], []⟩), (0, 13, ⟨[(32, .dat (.int .i64))], [], [33, 34, 3, 35, 36, 37, 4, 38, 39, 41], [], []⟩), (8171, 0, ⟨[(0, .dat (.int .i64))], [], [], [], []⟩)]⟩
def echk_W (x : api_Entitlements) (post : Int → Prop) : Prop := (↑x.1.length : Int) ≤ (9223372036854775807 : Int) → IFB (decide ((80 : Int) < (↑x.1.length : Int))) (post (1 : Int)) (IFB (decide (x.3 < (1 : Int)) || decide ((1073741824 : Int) < x.3) || decide (x.2 < (0 : Int)) || decide ((1099511627776 : Int) < x.2)) (post (2 : Int)) ((↑x.1.length : Int) ≤ (9223372036854775807 : Int) → LOOP [Ty.int IntKind.i64] (fun (rec1 : Int → Prop) (z2 : Int) ↦ IFB (decide (z2 < (↑x.1.length : Int))) (JOIN [Ty.int IntKind.i64] (fun (y3 : Int) ↦ IFB (!decide (y3 = (0 : Int))) (post y3) (rec1 (IntKind.i64.wrap (z2 + (1 : Int))))) fun (J4 : Int → Prop) ↦ ((0 : Int) ≤ z2 ∧ z2 < (↑x.1.length : Int)) ∧ ((gx false (decide ((ix x.1 z2).1 < (1 : Int)) || decide (x.3 ≤ (ix x.1 z2).1)) && gx true (decide ((0 : Int) < z2))) = true → (0 : Int) ≤ IntKind.i64.wrap (z2 - (1 : Int)) ∧ IntKind.i64.wrap (z2 - (1 : Int)) < (↑x.1.length : Int)) ∧ IFB (decide ((ix x.1 z2).1 < (1 : Int)) || decide (x.3 ≤ (ix x.1 z2).1) || decide ((0 : Int) < z2) && decide ((ix x.1 z2).1 ≤ (ix x.1 (IntKind.i64.wrap (z2 - (1 : Int)))).1)) (J4 (19 : Int)) (JOIN [Ty.bool] (fun (y5 : Bool) ↦ IFB (!(decide ((1 : Int) ≤ (ix x.1 z2).2) && decide ((ix x.1 z2).2 ≤ (60 : Int))) || !y5) (J4 (20 : Int)) (JOIN [Ty.bool] (fun (y6 : Bool) ↦ IFB (!(decide ((1 : Int) ≤ (ix x.1 z2).4) && decide ((ix x.1 z2).4 ≤ (268435456 : Int))) || !y6) (J4 (2 : Int)) (IFB (decide ((ix x.1 z2).6 < (-1 : Int)) || decide ((100 : Int) < (ix x.1 z2).6)) (J4 (18 : Int)) (J4 (0 : Int)))) fun (J7 : Bool → Prop) ↦ IFB (gx false !(decide ((1 : Int) ≤ (ix x.1 z2).4) && decide ((ix x.1 z2).4 ≤ (268435456 : Int)))) (J7 (decide ((0 : Int) ≤ (ix x.1 z2).5) && decide ((ix x.1 z2).5 ≤ (1048576 : Int)))) (J7 false))) fun (J8 : Bool → Prop) ↦ IFB (gx false !(decide ((1 : Int) ≤ (ix x.1 z2).2) && decide ((ix x.1 z2).2 ≤ (60 : Int)))) (J8 (decide ((1 : Int) ≤ (ix x.1 z2).3) && decide ((ix x.1 z2).3 ≤ (60 : Int)))) (J8 false))) ((↑x.1.length : Int) ≤ (9223372036854775807 : Int) → LOOP [Ty.int IntKind.i64, Ty.int IntKind.i64] (fun (rec9 : Int → Int → Prop) (z10 z11 : Int) ↦ IFB (decide (z10 < (↑x.1.length : Int))) (((0 : Int) ≤ z10 ∧ z10 < (↑x.1.length : Int)) ∧ rec9 (IntKind.i64.wrap (z10 + (1 : Int))) (IntKind.i64.wrap (z11 + (ix x.1 z10).4))) (IFB (decide ((1099511627776 : Int) < IntKind.i64.wrap (z11 + x.2))) (post (1 : Int)) (post (0 : Int)))) ((0 : Int), (0 : Int), PUnit.unit))) ((0 : Int), PUnit.unit)))
theorem echk_w (x : api_Entitlements) (post : dens (shT echk_sp.rs []) → Prop) : echk_W x (fun y0 => post (y0, ())) = walk Try.prog echk_C (drawR Try.prog tau) 8 0 16 false [tv (.st .api_Entitlements) x] echk_sp.rs post := by kernel_rfl
theorem echk_of (h : ∀ (x : api_Entitlements) (post : Int → Prop), echk_P x post → echk_W x post) : SpecOK Try.prog echk_sp := SpecOK.of_walkH (C := echk_C) (dr := drawR Try.prog tau) (n := 8) (fk := 0) .nil (drawR_ok tau) fun x post hp => HoldW.of (echk_w x.1 post) (h x.1 (fun y0 => post (y0, ())) hp)
theorem echk_ok : SpecOK Try.prog echk_sp := echk_of fun x post hp => by
  obtain ⟨_, hp⟩ := hp
  unfold echk_W
  intro hlen
  refine ⟨fun h => ?_, fun h1 => ?_⟩
  · have e : chkE x = 1 := by unfold chkE; grind
    rw [e] at hp; exact hp
  refine ⟨fun h => ?_, fun h2 => ?_⟩
  · have e : chkE x = 2 := by unfold chkE; grind
    rw [e] at hp; exact hp
  intro _
  refine LOOP.list (x.Lots) (fun k (s : Int) => ((k : Int), ())) (fun u => (u.1.toNat)) (fun k r (s : Int) => (k = 0 → s = 0) ∧ (0 < k → s = (ix x.Lots ((k : Int) - 1)).Number ∧ 1 ≤ s) ∧ lotsE x.Next 0 x.Lots = lotsE x.Next s r) (0) rfl (by grind) (fun k s h => by simp) ?_ ?_
  · intro rec k y r s hd hk hkl hG hrec
    have hx := ix_of hk
    have w1 : IntKind.i64.wrap ((k : Int) + 1) = k + 1 := wrap_in (by grind) (by grind)
    have w2 : IntKind.i64.wrap ((k : Int) - 1) = k - 1 := wrap_in (by grind) (by grind)
    obtain ⟨g1, g2, g3⟩ := hG
    have hrec : lotsE x.Next 0 x.Lots = lotsE x.Next y.Number r → 1 ≤ y.Number → rec ((k : Int) + 1) := fun q1 q2 => hrec y.Number (by grind)
    rw [lotsE] at g3
    unfold chkE at hp
    show IFB _ _ _
    simp only [w1, w2, hx]
    repeat' (first | (refine JOIN.mk ?_) | (refine IFB.mk (fun hb => ?_) (fun hb => ?_)) | (with_reducible refine And.intro ?_ ?_) | intro hh)
    all_goals (try simp only [Bool.or_eq_true, Bool.and_eq_true, Bool.not_eq_true', decide_eq_true_eq, decide_eq_false_iff_not, Bool.or_eq_false_iff, Bool.and_eq_false_iff, Bool.not_eq_false', gx_t, gx_f] at *)
    all_goals first | exact Int.NonNeg.mk _ | grind (splits := 40) [lotE]
  · intro rec s hG
    obtain ⟨g1, g2, g3⟩ := hG
    rw [lotsE] at g3
    have hok := lotsE_ok g3
    unfold chkE at hp
    show IFB _ _ _
    refine ⟨fun h => by simp at h, fun _ => ?_⟩
    intro _
    refine LOOP.list (x.Lots) (fun k (s : Int) => ((k : Int), s, ())) (fun u => (u.1.toNat)) (fun k r (s : Int) => s + sumL r = sumL x.Lots ∧ 0 ≤ s ∧ s ≤ k * 268435456 ∧ k ≤ x.Lots.length) (0) rfl (by simp) (fun k s h => by simp) ?_ ?_
    · intro rec k y r s hd hk hkl hG hrec
      have hx := ix_of hk
      have w1 : IntKind.i64.wrap ((k : Int) + 1) = k + 1 := wrap_in (by grind) (by grind)
      obtain ⟨q1, q2, q3, q4⟩ := hG
      have hy := hok y (List.mem_of_getElem? hk)
      unfold LotOK at hy
      have w2 : IntKind.i64.wrap (s + y.Squares) = s + y.Squares := wrap_in (by grind) (by grind)
      have hrec : rec ((k : Int) + 1) (s + y.Squares) := hrec (s + y.Squares) (by grind [sumL])
      show IFB _ _ _
      simp only [w1, w2, hx]
      repeat' (first | (refine JOIN.mk ?_) | (refine IFB.mk (fun hb => ?_) (fun hb => ?_)) | (with_reducible refine And.intro ?_ ?_) | intro hh)
      all_goals (try simp only [decide_eq_true_eq, decide_eq_false_iff_not, Bool.or_eq_false_iff] at *)
      all_goals first | exact Int.NonNeg.mk _ | grind (splits := 40) []
    · intro rec s hG
      obtain ⟨q1, q2, q3, q4⟩ := hG
      have w2 : IntKind.i64.wrap (s + x.2) = s + x.2 := wrap_in (by grind) (by grind)
      show IFB _ _ _
      simp only [w2]
      rw [sumL] at q1
      repeat' (first | (refine JOIN.mk ?_) | (refine IFB.mk (fun hb => ?_) (fun hb => ?_)) | (with_reducible refine And.intro ?_ ?_) | intro hh)
      all_goals (try simp only [decide_eq_true_eq, decide_eq_false_iff_not, Bool.or_eq_false_iff] at *)
      all_goals first | exact Int.NonNeg.mk _ | grind (splits := 40) []
end RE
end Go.Proofs.Ytpnmiieohdkenaa
set_option maxRecDepth 100000
set_option linter.unusedVariables false
namespace Go.Proofs.Ytpnmiieohdkenaa
open Go.RowKit
namespace RE
open PL
def rchk_P (x : api_Entitlements) (post : Int → Prop) : Prop := (True) ∧ post (chkE x)
def rchk_sp : Spec := ⟨17, false, false, [.st .api_Entitlements], .dat (.int .i64), fun x post => rchk_P (x.1 : api_Entitlements) (fun y0 => post (y0, ()))⟩
def rchk_C : Ctx := ⟨tau, [], lookJ [(19401, 7, ⟨[(11, .dat (.int .i64)), (3, .dat (.int .i64))], [], [12, 13, 14, 5, 15, 16, 17, 18, 19], [], []⟩), (0, 15, ⟨[(31, .dat (.int .i64)), (3, .dat (.int .i64))], [], [32, 33, 34, 5, 36, 37, 38, 39, 40, 46, 35, 41, 42, 43, 44, 45, 48, 49, 50, 51, 52, 57, 47, 53, 54, 55, 56, 59, 60, 61, 62, 66, 67, 71, 72, 76, 58, 63, 64, 65, 68, 69, 70, 73, 74, 75, 78, 79, 80, 81, 85, 77, 82, 83, 84, 86, 87, 88], [], []⟩)]⟩
def rchk_W (x : api_Entitlements) (post : Int → Prop) : Prop := (↑x.1.length : Int) ≤ (9223372036854775807 : Int) → IFB (decide ((80 : Int) < (↑x.1.length : Int))) (post (1 : Int)) (IFB (decide (x.3 < (1 : Int)) || decide ((1073741824 : Int) < x.3) || decide (x.2 < (0 : Int)) || decide ((1099511627776 : Int) < x.2)) (post (2 : Int)) ((↑x.1.length : Int) ≤ (9223372036854775807 : Int) → LOOP [Ty.int IntKind.i64, Ty.int IntKind.i64] (fun (rec1 : Int → Int → Prop) (z2 z3 : Int) ↦ IFB (decide (z2 < (↑x.1.length : Int))) (((0 : Int) ≤ z2 ∧ z2 < (↑x.1.length : Int)) ∧ IFB (decide ((ix x.1 z2).1 ≤ z3) || decide (x.3 ≤ (ix x.1 z2).1)) (post (19 : Int)) (JOIN [Ty.bool] (fun (y4 : Bool) ↦ IFB (!(decide ((1 : Int) ≤ (ix x.1 z2).2) && decide ((ix x.1 z2).2 ≤ (60 : Int))) || !y4) (post (20 : Int)) (IFB (decide ((ix x.1 z2).4 < (1 : Int)) || decide ((268435456 : Int) < (ix x.1 z2).4) || decide ((ix x.1 z2).5 < (0 : Int)) || decide ((1048576 : Int) < (ix x.1 z2).5)) (post (2 : Int)) (IFB (decide ((ix x.1 z2).6 < (-1 : Int)) || decide ((100 : Int) < (ix x.1 z2).6)) (post (18 : Int)) (rec1 (IntKind.i64.wrap (z2 + (1 : Int))) (ix x.1 z2).1)))) fun (J5 : Bool → Prop) ↦ IFB (gx false !(decide ((1 : Int) ≤ (ix x.1 z2).2) && decide ((ix x.1 z2).2 ≤ (60 : Int)))) (J5 (decide ((1 : Int) ≤ (ix x.1 z2).3) && decide ((ix x.1 z2).3 ≤ (60 : Int)))) (J5 false))) ((↑x.1.length : Int) ≤ (9223372036854775807 : Int) → LOOP [Ty.int IntKind.i64, Ty.int IntKind.i64] (fun (rec6 : Int → Int → Prop) (z7 z8 : Int) ↦ IFB (decide (z7 < (↑x.1.length : Int))) (((0 : Int) ≤ z7 ∧ z7 < (↑x.1.length : Int)) ∧ rec6 (IntKind.i64.wrap (z7 + (1 : Int))) (IntKind.i64.wrap (z8 + (ix x.1 z7).4))) (IFB (decide ((1099511627776 : Int) < z8)) (post (1 : Int)) (post (0 : Int)))) ((0 : Int), x.2, PUnit.unit))) ((0 : Int), (0 : Int), PUnit.unit)))
theorem rchk_w (x : api_Entitlements) (post : dens (shT rchk_sp.rs []) → Prop) : rchk_W x (fun y0 => post (y0, ())) = walk Try.prog rchk_C (drawR Try.prog tau) 8 0 17 false [tv (.st .api_Entitlements) x] rchk_sp.rs post := by kernel_rfl
theorem rchk_of (h : ∀ (x : api_Entitlements) (post : Int → Prop), rchk_P x post → rchk_W x post) : SpecOK Try.prog rchk_sp := SpecOK.of_walkH (C := rchk_C) (dr := drawR Try.prog tau) (n := 8) (fk := 0) .nil (drawR_ok tau) fun x post hp => HoldW.of (rchk_w x.1 post) (h x.1 (fun y0 => post (y0, ())) hp)
theorem rchk_ok : SpecOK Try.prog rchk_sp := rchk_of fun x post hp => by
  obtain ⟨_, hp⟩ := hp
  unfold rchk_W
  intro hlen
  refine ⟨fun h => ?_, fun h1 => ?_⟩
  · have e : chkE x = 1 := by unfold chkE; grind
    rw [e] at hp; exact hp
  refine ⟨fun h => ?_, fun h2 => ?_⟩
  · have e : chkE x = 2 := by unfold chkE; grind
    rw [e] at hp; exact hp
  intro _
  refine LOOP.list (x.Lots) (fun k (s : Int) => ((k : Int), s, ())) (fun u => (u.1.toNat)) (fun k r (s : Int) => lotsE x.Next 0 x.Lots = lotsE x.Next s r) (0) rfl (rfl) (fun k s h => by simp) ?_ ?_
  · intro rec k y r s hd hk hkl hG hrec
    have hx := ix_of hk
    have w1 : IntKind.i64.wrap ((k : Int) + 1) = k + 1 := wrap_in (by grind) (by grind)
    have hrec : lotsE x.Next 0 x.Lots = lotsE x.Next y.Number r → rec ((k : Int) + 1) y.Number := fun q1 => hrec y.Number (by grind)
    rw [lotsE] at hG
    unfold chkE at hp
    show IFB _ _ _
    simp only [w1, hx]
    repeat' (first | (refine JOIN.mk ?_) | (refine IFB.mk (fun hb => ?_) (fun hb => ?_)) | (with_reducible refine And.intro ?_ ?_) | intro hh)
    all_goals (try simp only [Bool.or_eq_true, Bool.and_eq_true, Bool.not_eq_true', decide_eq_true_eq, decide_eq_false_iff_not, Bool.or_eq_false_iff, Bool.and_eq_false_iff, Bool.not_eq_false', gx_f] at *)
    all_goals first | exact Int.NonNeg.mk _ | grind (splits := 40) [lotE]
  · intro rec s hG
    rw [lotsE] at hG
    have hok := lotsE_ok hG
    unfold chkE at hp
    show IFB _ _ _
    refine ⟨fun h => by simp at h, fun _ => ?_⟩
    intro _
    refine LOOP.list (x.Lots) (fun k (s : Int) => ((k : Int), s, ())) (fun u => (u.1.toNat)) (fun k r (s : Int) => s + sumL r = sumL x.Lots + x.Reserve ∧ x.Reserve ≤ s ∧ s ≤ x.Reserve + k * 268435456 ∧ k ≤ x.Lots.length) (x.Reserve) rfl (by grind) (fun k s h => by simp) ?_ ?_
    · intro rec k y r s hd hk hkl hG hrec
      have hx := ix_of hk
      have w1 : IntKind.i64.wrap ((k : Int) + 1) = k + 1 := wrap_in (by grind) (by grind)
      obtain ⟨q1, q2, q3, q4⟩ := hG
      have hy := hok y (List.mem_of_getElem? hk)
      unfold LotOK at hy
      have w2 : IntKind.i64.wrap (s + y.Squares) = s + y.Squares := wrap_in (by grind) (by grind)
      have hrec : rec ((k : Int) + 1) (s + y.Squares) := hrec (s + y.Squares) (by grind [sumL])
      show IFB _ _ _
      simp only [w1, w2, hx]
      repeat' (first | (refine JOIN.mk ?_) | (refine IFB.mk (fun hb => ?_) (fun hb => ?_)) | (with_reducible refine And.intro ?_ ?_) | intro hh)
      all_goals (try simp only [decide_eq_true_eq, decide_eq_false_iff_not, Bool.or_eq_false_iff] at *)
      all_goals first | exact Int.NonNeg.mk _ | grind (splits := 40) []
    · intro rec s hG
      obtain ⟨q1, q2, q3, q4⟩ := hG
      show IFB _ _ _
      rw [sumL] at q1
      repeat' (first | (refine JOIN.mk ?_) | (refine IFB.mk (fun hb => ?_) (fun hb => ?_)) | (with_reducible refine And.intro ?_ ?_) | intro hh)
      all_goals (try simp only [decide_eq_true_eq, decide_eq_false_iff_not, Bool.or_eq_false_iff] at *)
      all_goals first | exact Int.NonNeg.mk _ | grind (splits := 40) []
def eheld_P (x : api_Entitlements) (n : Int) (post : Int → Int → Prop) : Prop := (True) ∧ post ((heldS x n).1) ((heldS x n).2)
def eheld_sp : Spec := ⟨23, false, false, [.st .api_Entitlements, .int .i64], .tup [.dat (.int .i64), .dat (.int .i64)], fun x post => eheld_P (x.1 : api_Entitlements) (x.2.1 : Int) (fun y0 y1 => post (y0, y1, ()))⟩
def eheld_C : Ctx := ⟨tau, [echk_sp], lookJ [(0, 11, ⟨[(16, .dat (.int .i64)), (7, .dat (.int .i64)), (6, .dat (.int .i64))], [], [17, 35, 34, 33, 32, 31, 30, 29, 28, 20, 21, 22, 23, 24, 25, 26, 27, 9, 19, 18, 36], [], []⟩), (0, 22, ⟨[(7, .dat (.int .i64)), (6, .dat (.int .i64))], [], [18, 19, 9, 27, 26, 25, 24, 23, 22, 21, 20, 28, 29, 30, 31, 32, 33, 34, 35], [], []⟩), (0, 18, ⟨[(6, .dat (.int .i64))], [], [20, 21, 22, 23, 24, 25, 26, 27], [], []⟩)]⟩
def eheld_W (x : api_Entitlements) (n : Int) (post : Int → Int → Prop) : Prop := True ∧ IFB (!decide (chkE { Lots := x.1, Reserve := x.2, Next := x.3 : api_Entitlements } = (0 : Int))) (post (0 : Int) (0 : Int)) ((↑x.1.length : Int) ≤ (9223372036854775807 : Int) → LOOP [Ty.int IntKind.i64, Ty.int IntKind.i64, Ty.int IntKind.i64] (fun (rec1 : Int → Int → Int → Prop) (z2 z3 z4 : Int) ↦ IFB (decide (z2 < (↑x.1.length : Int))) (JOIN [Ty.int IntKind.i64, Ty.int IntKind.i64] (fun (y5 y6 : Int) ↦ rec1 (IntKind.i64.wrap (z2 + (1 : Int))) y5 y6) fun (J7 : Int → Int → Prop) ↦ ((0 : Int) ≤ z2 ∧ z2 < (↑x.1.length : Int)) ∧ JOIN [Ty.int IntKind.i64] (fun (y8 : Int) ↦ IFB (decide ((ix x.1 z2).3 = n)) (J7 (IntKind.i64.wrap (z3 + (ix x.1 z2).4)) y8) (J7 z3 y8)) fun (J9 : Int → Prop) ↦ IFB (decide ((ix x.1 z2).2 = n)) (J9 (IntKind.i64.wrap (z4 + (ix x.1 z2).4))) (J9 z4)) (post z4 z3)) ((0 : Int), (0 : Int), (0 : Int), PUnit.unit))
theorem eheld_w (x : api_Entitlements) (n : Int) (post : dens (shT eheld_sp.rs []) → Prop) : eheld_W x n (fun y0 y1 => post (y0, y1, ())) = walk Try.prog eheld_C (drawR Try.prog tau) 8 0 23 false [tv (.st .api_Entitlements) x, tv (.int .i64) n] eheld_sp.rs post := by kernel_rfl
theorem eheld_of (h : ∀ (x : api_Entitlements) (n : Int) (post : Int → Int → Prop), eheld_P x n post → eheld_W x n post) : SpecOK Try.prog eheld_sp := SpecOK.of_walkH (C := eheld_C) (dr := drawR Try.prog tau) (n := 8) (fk := 0) (.cons echk_ok .nil) (drawR_ok tau) fun x post hp => HoldW.of (eheld_w x.1 x.2.1 post) (h x.1 x.2.1 (fun y0 y1 => post (y0, y1, ())) hp)
theorem eheld_ok : SpecOK Try.prog eheld_sp := eheld_of fun x n post hp => by
  obtain ⟨_, hp⟩ := hp
  unfold eheld_W
  refine ⟨trivial, fun h => ?_, fun h1 => ?_⟩
  · have e : heldS x n = (0, 0) := by unfold heldS; grind
    rw [e] at hp; exact hp
  have hc : chkE x = 0 := by grind
  have hl := chkE_lots hc
  have e : heldS x n = (ownS n x.Lots, useS n x.Lots) := by unfold heldS; grind
  rw [e] at hp
  intro _
  refine LOOP.list (x.Lots) (fun k (s : Int × Int) => ((k : Int), s.2, s.1, ())) (fun u => (u.1.toNat)) (fun k r (s : Int × Int) => s.1 + ownS n r = ownS n x.Lots ∧ s.2 + useS n r = useS n x.Lots ∧ 0 ≤ s.1 ∧ 0 ≤ s.2 ∧ s.1 ≤ k * 268435456 ∧ s.2 ≤ k * 268435456 ∧ k ≤ x.Lots.length) ((0, 0)) rfl (by simp) (fun k s h => by simp) ?_ ?_
  · intro rec k y r s hd hk hkl hG hrec
    have hx := ix_of hk
    have w1 : IntKind.i64.wrap ((k : Int) + 1) = k + 1 := wrap_in (by grind) (by grind)
    obtain ⟨q1, q2, q3, q4, q5, q6, q7⟩ := hG
    have hy := hl.2 y (List.mem_of_getElem? hk)
    have hl1 := hl.1
    unfold LotOK at hy
    have w2 : IntKind.i64.wrap (s.1 + y.Squares) = s.1 + y.Squares := wrap_in (by grind) (by grind)
    have w3 : IntKind.i64.wrap (s.2 + y.Squares) = s.2 + y.Squares := wrap_in (by grind) (by grind)
    have hrec : rec ((k : Int) + 1) (s.2 + if y.User = n then y.Squares else 0) (s.1 + if y.Owner = n then y.Squares else 0) := hrec (s.1 + if y.Owner = n then y.Squares else 0, s.2 + if y.User = n then y.Squares else 0) (by grind [ownS, useS])
    show IFB _ _ _
    simp only [w1, w2, w3, hx]
    repeat' (first | (refine JOIN.mk ?_) | (refine IFB.mk (fun hb => ?_) (fun hb => ?_)) | (with_reducible refine And.intro ?_ ?_) | intro hh)
    all_goals (try simp only [decide_eq_true_eq, decide_eq_false_iff_not, Bool.not_eq_false'] at *)
    all_goals first | exact Int.NonNeg.mk _ | grind (splits := 40) []
  · intro rec s hG
    obtain ⟨q1, q2, q3, q4, q5, q6, q7⟩ := hG
    rw [ownS] at q1
    rw [useS] at q2
    show IFB _ _ _
    repeat' (first | (refine JOIN.mk ?_) | (refine IFB.mk (fun hb => ?_) (fun hb => ?_)) | (with_reducible refine And.intro ?_ ?_) | intro hh)
    all_goals (try simp only [decide_eq_true_eq, decide_eq_false_iff_not, Bool.not_eq_false'] at *)
    all_goals first | exact Int.NonNeg.mk _ | grind (splits := 40) []
def rheld_P (x : api_Entitlements) (n : Int) (post : Int → Int → Prop) : Prop := (True) ∧ post ((heldS x n).1) ((heldS x n).2)
def rheld_sp : Spec := ⟨24, false, false, [.st .api_Entitlements, .int .i64], .tup [.dat (.int .i64), .dat (.int .i64)], fun x post => rheld_P (x.1 : api_Entitlements) (x.2.1 : Int) (fun y0 y1 => post (y0, y1, ()))⟩
def rheld_C : Ctx := ⟨tau, [rchk_sp], lookJ [(0, 11, ⟨[(16, .dat (.int .i64)), (7, .dat (.int .i64)), (6, .dat (.int .i64))], [], [17, 35, 34, 33, 32, 31, 30, 29, 28, 20, 21, 22, 23, 24, 25, 26, 27, 9, 19, 18, 36], [], []⟩), (0, 22, ⟨[(7, .dat (.int .i64)), (6, .dat (.int .i64))], [], [18, 19, 9, 27, 26, 25, 24, 23, 22, 21, 20, 28, 29, 30, 31, 32, 33, 34, 35], [], []⟩), (0, 18, ⟨[(6, .dat (.int .i64))], [], [20, 21, 22, 23, 24, 25, 26, 27], [], []⟩)]⟩
def rheld_W (x : api_Entitlements) (n : Int) (post : Int → Int → Prop) : Prop := True ∧ IFB (!decide (chkE { Lots := x.1, Reserve := x.2, Next := x.3 : api_Entitlements } = (0 : Int))) (post (0 : Int) (0 : Int)) ((↑x.1.length : Int) ≤ (9223372036854775807 : Int) → LOOP [Ty.int IntKind.i64, Ty.int IntKind.i64, Ty.int IntKind.i64] (fun (rec1 : Int → Int → Int → Prop) (z2 z3 z4 : Int) ↦ IFB (decide (z2 < (↑x.1.length : Int))) (JOIN [Ty.int IntKind.i64, Ty.int IntKind.i64] (fun (y5 y6 : Int) ↦ rec1 (IntKind.i64.wrap (z2 + (1 : Int))) y5 y6) fun (J7 : Int → Int → Prop) ↦ ((0 : Int) ≤ z2 ∧ z2 < (↑x.1.length : Int)) ∧ JOIN [Ty.int IntKind.i64] (fun (y8 : Int) ↦ IFB (decide ((ix x.1 z2).3 = n)) (J7 (IntKind.i64.wrap (z3 + (ix x.1 z2).4)) y8) (J7 z3 y8)) fun (J9 : Int → Prop) ↦ IFB (decide ((ix x.1 z2).2 = n)) (J9 (IntKind.i64.wrap (z4 + (ix x.1 z2).4))) (J9 z4)) (post z4 z3)) ((0 : Int), (0 : Int), (0 : Int), PUnit.unit))
theorem rheld_w (x : api_Entitlements) (n : Int) (post : dens (shT rheld_sp.rs []) → Prop) : rheld_W x n (fun y0 y1 => post (y0, y1, ())) = walk Try.prog rheld_C (drawR Try.prog tau) 8 0 24 false [tv (.st .api_Entitlements) x, tv (.int .i64) n] rheld_sp.rs post := by kernel_rfl
theorem rheld_of (h : ∀ (x : api_Entitlements) (n : Int) (post : Int → Int → Prop), rheld_P x n post → rheld_W x n post) : SpecOK Try.prog rheld_sp := SpecOK.of_walkH (C := rheld_C) (dr := drawR Try.prog tau) (n := 8) (fk := 0) (.cons rchk_ok .nil) (drawR_ok tau) fun x post hp => HoldW.of (rheld_w x.1 x.2.1 post) (h x.1 x.2.1 (fun y0 y1 => post (y0, y1, ())) hp)
theorem rheld_ok : SpecOK Try.prog rheld_sp := rheld_of fun x n post hp => by
  obtain ⟨_, hp⟩ := hp
  unfold rheld_W
  refine ⟨trivial, fun h => ?_, fun h1 => ?_⟩
  · have e : heldS x n = (0, 0) := by unfold heldS; grind
    rw [e] at hp; exact hp
  have hc : chkE x = 0 := by grind
  have hl := chkE_lots hc
  have e : heldS x n = (ownS n x.Lots, useS n x.Lots) := by unfold heldS; grind
  rw [e] at hp
  intro _
  refine LOOP.list (x.Lots) (fun k (s : Int × Int) => ((k : Int), s.2, s.1, ())) (fun u => (u.1.toNat)) (fun k r (s : Int × Int) => s.1 + ownS n r = ownS n x.Lots ∧ s.2 + useS n r = useS n x.Lots ∧ 0 ≤ s.1 ∧ 0 ≤ s.2 ∧ s.1 ≤ k * 268435456 ∧ s.2 ≤ k * 268435456 ∧ k ≤ x.Lots.length) ((0, 0)) rfl (by simp) (fun k s h => by simp) ?_ ?_
  · intro rec k y r s hd hk hkl hG hrec
    have hx := ix_of hk
    have w1 : IntKind.i64.wrap ((k : Int) + 1) = k + 1 := wrap_in (by grind) (by grind)
    obtain ⟨q1, q2, q3, q4, q5, q6, q7⟩ := hG
    have hy := hl.2 y (List.mem_of_getElem? hk)
    have hl1 := hl.1
    unfold LotOK at hy
    have w2 : IntKind.i64.wrap (s.1 + y.Squares) = s.1 + y.Squares := wrap_in (by grind) (by grind)
    have w3 : IntKind.i64.wrap (s.2 + y.Squares) = s.2 + y.Squares := wrap_in (by grind) (by grind)
    have hrec : rec ((k : Int) + 1) (s.2 + if y.User = n then y.Squares else 0) (s.1 + if y.Owner = n then y.Squares else 0) := hrec (s.1 + if y.Owner = n then y.Squares else 0, s.2 + if y.User = n then y.Squares else 0) (by grind [ownS, useS])
    show IFB _ _ _
    simp only [w1, w2, w3, hx]
    repeat' (first | (refine JOIN.mk ?_) | (refine IFB.mk (fun hb => ?_) (fun hb => ?_)) | (with_reducible refine And.intro ?_ ?_) | intro hh)
    all_goals (try simp only [decide_eq_true_eq, decide_eq_false_iff_not, Bool.not_eq_false'] at *)
    all_goals first | exact Int.NonNeg.mk _ | grind (splits := 40) []
  · intro rec s hG
    obtain ⟨q1, q2, q3, q4, q5, q6, q7⟩ := hG
    rw [ownS] at q1
    rw [useS] at q2
    show IFB _ _ _
    repeat' (first | (refine JOIN.mk ?_) | (refine IFB.mk (fun hb => ?_) (fun hb => ?_)) | (with_reducible refine And.intro ?_ ?_) | intro hh)
    all_goals (try simp only [decide_eq_true_eq, decide_eq_false_iff_not, Bool.not_eq_false'] at *)
    all_goals first | exact Int.NonNeg.mk _ | grind (splits := 40) []
def ewhole_P (x : api_Entitlements) (post : Int → Prop) : Prop := (True) ∧ post (wholeS x)
def ewhole_sp : Spec := ⟨22, false, false, [.st .api_Entitlements], .dat (.int .i64), fun x post => ewhole_P (x.1 : api_Entitlements) (fun y0 => post (y0, ()))⟩
def ewhole_C : Ctx := ⟨tau, [echk_sp], lookJ [(3066, 7, ⟨[(8, .dat (.int .i64)), (3, .dat (.int .i64))], [], [9, 10, 11, 5, 12, 13, 14, 15, 16], [], []⟩)]⟩
def ewhole_W (x : api_Entitlements) (post : Int → Prop) : Prop := True ∧ IFB (!decide (chkE { Lots := x.1, Reserve := x.2, Next := x.3 : api_Entitlements } = (0 : Int))) (post (0 : Int)) ((↑x.1.length : Int) ≤ (9223372036854775807 : Int) → LOOP [Ty.int IntKind.i64, Ty.int IntKind.i64] (fun (rec1 : Int → Int → Prop) (z2 z3 : Int) ↦ IFB (decide (z2 < (↑x.1.length : Int))) (((0 : Int) ≤ z2 ∧ z2 < (↑x.1.length : Int)) ∧ rec1 (IntKind.i64.wrap (z2 + (1 : Int))) (IntKind.i64.wrap (z3 + (ix x.1 z2).4))) (post (IntKind.i64.wrap (z3 + x.2)))) ((0 : Int), (0 : Int), PUnit.unit))
theorem ewhole_w (x : api_Entitlements) (post : dens (shT ewhole_sp.rs []) → Prop) : ewhole_W x (fun y0 => post (y0, ())) = walk Try.prog ewhole_C (drawR Try.prog tau) 8 0 22 false [tv (.st .api_Entitlements) x] ewhole_sp.rs post := by kernel_rfl
theorem ewhole_of (h : ∀ (x : api_Entitlements) (post : Int → Prop), ewhole_P x post → ewhole_W x post) : SpecOK Try.prog ewhole_sp := SpecOK.of_walkH (C := ewhole_C) (dr := drawR Try.prog tau) (n := 8) (fk := 0) (.cons echk_ok .nil) (drawR_ok tau) fun x post hp => HoldW.of (ewhole_w x.1 post) (h x.1 (fun y0 => post (y0, ())) hp)
theorem ewhole_ok : SpecOK Try.prog ewhole_sp := ewhole_of fun x post hp => by
  obtain ⟨_, hp⟩ := hp
  unfold ewhole_W
  refine ⟨trivial, fun h => ?_, fun h1 => ?_⟩
  · have e : wholeS x = 0 := by unfold wholeS; grind
    rw [e] at hp; exact hp
  have hc : chkE x = 0 := by grind
  have hl := chkE_lots hc
  have hr := chkE_res hc
  have e : wholeS x = sumL x.Lots + x.Reserve := by unfold wholeS; grind
  rw [e] at hp
  intro _
  refine LOOP.list (x.Lots) (fun k (s : Int) => ((k : Int), s, ())) (fun u => (u.1.toNat)) (fun k r (s : Int) => s + sumL r = sumL x.Lots + (0) ∧ (0) ≤ s ∧ s ≤ (0) + k * 268435456 ∧ k ≤ x.Lots.length) (0) rfl (by grind) (fun k s h => by simp) ?_ ?_
  · intro rec k y r s hd hk hkl hG hrec
    have hx := ix_of hk
    have w1 : IntKind.i64.wrap ((k : Int) + 1) = k + 1 := wrap_in (by grind) (by grind)
    obtain ⟨q1, q2, q3, q4⟩ := hG
    have hy := hl.2 y (List.mem_of_getElem? hk)
    have hl1 := hl.1
    unfold LotOK at hy
    have w2 : IntKind.i64.wrap (s + y.Squares) = s + y.Squares := wrap_in (by grind) (by grind)
    have hrec : rec ((k : Int) + 1) (s + y.Squares) := hrec (s + y.Squares) (by grind [sumL])
    show IFB _ _ _
    simp only [w1, w2, hx]
    repeat' (first | (refine JOIN.mk ?_) | (refine IFB.mk (fun hb => ?_) (fun hb => ?_)) | (with_reducible refine And.intro ?_ ?_) | intro hh)
    all_goals (try simp only [decide_eq_true_eq, decide_eq_false_iff_not, Bool.not_eq_false'] at *)
    all_goals first | exact Int.NonNeg.mk _ | grind (splits := 40) []
  · intro rec s hG
    obtain ⟨q1, q2, q3, q4⟩ := hG
    have hl1 := hl.1
    have w2 : IntKind.i64.wrap (s + x.2) = s + x.2 := wrap_in (by grind) (by grind)
    rw [sumL] at q1
    show IFB _ _ _
    try simp only [w2]
    repeat' (first | (refine JOIN.mk ?_) | (refine IFB.mk (fun hb => ?_) (fun hb => ?_)) | (with_reducible refine And.intro ?_ ?_) | intro hh)
    all_goals (try simp only [decide_eq_true_eq, decide_eq_false_iff_not, Bool.not_eq_false'] at *)
    all_goals first | exact Int.NonNeg.mk _ | grind (splits := 40) []
def rwhole_P (x : api_Entitlements) (post : Int → Prop) : Prop := (True) ∧ post (wholeS x)
def rwhole_sp : Spec := ⟨29, false, false, [.st .api_Entitlements], .dat (.int .i64), fun x post => rwhole_P (x.1 : api_Entitlements) (fun y0 => post (y0, ()))⟩
def rwhole_C : Ctx := ⟨tau, [rchk_sp], lookJ [(3065, 7, ⟨[(11, .dat (.int .i64)), (3, .dat (.int .i64))], [], [12, 13, 14, 5, 15, 16, 17, 18, 19], [], []⟩)]⟩
def rwhole_W (x : api_Entitlements) (post : Int → Prop) : Prop := True ∧ IFB (!decide (chkE { Lots := x.1, Reserve := x.2, Next := x.3 : api_Entitlements } = (0 : Int))) (post (0 : Int)) ((↑x.1.length : Int) ≤ (9223372036854775807 : Int) → LOOP [Ty.int IntKind.i64, Ty.int IntKind.i64] (fun (rec1 : Int → Int → Prop) (z2 z3 : Int) ↦ IFB (decide (z2 < (↑x.1.length : Int))) (((0 : Int) ≤ z2 ∧ z2 < (↑x.1.length : Int)) ∧ rec1 (IntKind.i64.wrap (z2 + (1 : Int))) (IntKind.i64.wrap (z3 + (ix x.1 z2).4))) (post z3)) ((0 : Int), x.2, PUnit.unit))
theorem rwhole_w (x : api_Entitlements) (post : dens (shT rwhole_sp.rs []) → Prop) : rwhole_W x (fun y0 => post (y0, ())) = walk Try.prog rwhole_C (drawR Try.prog tau) 8 0 29 false [tv (.st .api_Entitlements) x] rwhole_sp.rs post := by kernel_rfl
theorem rwhole_of (h : ∀ (x : api_Entitlements) (post : Int → Prop), rwhole_P x post → rwhole_W x post) : SpecOK Try.prog rwhole_sp := SpecOK.of_walkH (C := rwhole_C) (dr := drawR Try.prog tau) (n := 8) (fk := 0) (.cons rchk_ok .nil) (drawR_ok tau) fun x post hp => HoldW.of (rwhole_w x.1 post) (h x.1 (fun y0 => post (y0, ())) hp)
theorem rwhole_ok : SpecOK Try.prog rwhole_sp := rwhole_of fun x post hp => by
  obtain ⟨_, hp⟩ := hp
  unfold rwhole_W
  refine ⟨trivial, fun h => ?_, fun h1 => ?_⟩
  · have e : wholeS x = 0 := by unfold wholeS; grind
    rw [e] at hp; exact hp
  have hc : chkE x = 0 := by grind
  have hl := chkE_lots hc
  have hr := chkE_res hc
  have e : wholeS x = sumL x.Lots + x.Reserve := by unfold wholeS; grind
  rw [e] at hp
  intro _
  refine LOOP.list (x.Lots) (fun k (s : Int) => ((k : Int), s, ())) (fun u => (u.1.toNat)) (fun k r (s : Int) => s + sumL r = sumL x.Lots + (x.Reserve) ∧ (x.Reserve) ≤ s ∧ s ≤ (x.Reserve) + k * 268435456 ∧ k ≤ x.Lots.length) (x.Reserve) rfl (by grind) (fun k s h => by simp) ?_ ?_
  · intro rec k y r s hd hk hkl hG hrec
    have hx := ix_of hk
    have w1 : IntKind.i64.wrap ((k : Int) + 1) = k + 1 := wrap_in (by grind) (by grind)
    obtain ⟨q1, q2, q3, q4⟩ := hG
    have hy := hl.2 y (List.mem_of_getElem? hk)
    have hl1 := hl.1
    unfold LotOK at hy
    have w2 : IntKind.i64.wrap (s + y.Squares) = s + y.Squares := wrap_in (by grind) (by grind)
    have hrec : rec ((k : Int) + 1) (s + y.Squares) := hrec (s + y.Squares) (by grind [sumL])
    show IFB _ _ _
    simp only [w1, w2, hx]
    repeat' (first | (refine JOIN.mk ?_) | (refine IFB.mk (fun hb => ?_) (fun hb => ?_)) | (with_reducible refine And.intro ?_ ?_) | intro hh)
    all_goals (try simp only [decide_eq_true_eq, decide_eq_false_iff_not, Bool.not_eq_false'] at *)
    all_goals first | exact Int.NonNeg.mk _ | grind (splits := 40) []
  · intro rec s hG
    obtain ⟨q1, q2, q3, q4⟩ := hG
    have hl1 := hl.1
    have w2 : IntKind.i64.wrap (s + x.2) = s + x.2 := wrap_in (by grind) (by grind)
    rw [sumL] at q1
    show IFB _ _ _
    try simp only []
    repeat' (first | (refine JOIN.mk ?_) | (refine IFB.mk (fun hb => ?_) (fun hb => ?_)) | (with_reducible refine And.intro ?_ ?_) | intro hh)
    all_goals (try simp only [decide_eq_true_eq, decide_eq_false_iff_not, Bool.not_eq_false'] at *)
    all_goals first | exact Int.NonNeg.mk _ | grind (splits := 40) []
end RE
end Go.Proofs.Ytpnmiieohdkenaa
set_option maxRecDepth 100000
set_option linter.unusedVariables false
namespace Go.Proofs.Ytpnmiieohdkenaa
open Go.RowKit
namespace RE
open PL
def rfind_P (x : api_Entitlements) (n : Int) (post : Int → Prop) : Prop := (True) ∧ post (seekS n 0 x.Lots)
def rfind_sp : Spec := ⟨62, false, false, [.st .api_Entitlements, .int .i64], .dat (.int .i64), fun x post => rfind_P (x.1 : api_Entitlements) (x.2.1 : Int) (fun y0 => post (y0, ()))⟩
def rfind_C : Ctx := ⟨tau, [], lookJ [(0, 5, ⟨[(10, .dat (.int .i64))], [], [11, 12, 13, 14, 6, 5, 15, 16, 17, 18, 20], [], []⟩)]⟩
def rfind_W (x : api_Entitlements) (n : Int) (post : Int → Prop) : Prop := (↑x.1.length : Int) ≤ (9223372036854775807 : Int) → LOOP [Ty.int IntKind.i64] (fun (rec1 : Int → Prop) (z2 : Int) ↦ IFB (decide (z2 < (↑x.1.length : Int))) (((0 : Int) ≤ z2 ∧ z2 < (↑x.1.length : Int)) ∧ IFB (decide ((ix x.1 z2).1 = n)) (post z2) (rec1 (IntKind.i64.wrap (z2 + (1 : Int))))) (post (-1 : Int))) ((0 : Int), PUnit.unit)
theorem rfind_w (x : api_Entitlements) (n : Int) (post : dens (shT rfind_sp.rs []) → Prop) : rfind_W x n (fun y0 => post (y0, ())) = walk Try.prog rfind_C (drawR Try.prog tau) 8 0 62 false [tv (.st .api_Entitlements) x, tv (.int .i64) n] rfind_sp.rs post := by kernel_rfl
theorem rfind_of (h : ∀ (x : api_Entitlements) (n : Int) (post : Int → Prop), rfind_P x n post → rfind_W x n post) : SpecOK Try.prog rfind_sp := SpecOK.of_walkH (C := rfind_C) (dr := drawR Try.prog tau) (n := 8) (fk := 0) .nil (drawR_ok tau) fun x post hp => HoldW.of (rfind_w x.1 x.2.1 post) (h x.1 x.2.1 (fun y0 => post (y0, ())) hp)
theorem rfind_ok : SpecOK Try.prog rfind_sp := rfind_of fun x n post hp => by
  obtain ⟨_, hp⟩ := hp
  unfold rfind_W
  intro hlen
  refine LOOP.list (x.Lots) (fun k (s : Unit) => ((k : Int), ())) (fun u => (u.1.toNat)) (fun k r (s : Unit) => seekS n 0 x.Lots = seekS n k r) (()) rfl (rfl) (fun k s h => by simp) ?_ ?_
  · intro rec k y r s hd hk hkl hG hrec
    have hx := ix_of hk
    have w1 : IntKind.i64.wrap ((k : Int) + 1) = k + 1 := wrap_in (by grind) (by grind)
    have hrec : seekS n 0 x.Lots = seekS n ((k : Int) + 1) r → rec ((k : Int) + 1) := fun q => hrec () (by rw [q]; rfl)
    rw [seekS] at hG
    show IFB _ _ _
    simp only [w1, hx]
    repeat' (first | (refine JOIN.mk ?_) | (refine IFB.mk (fun hb => ?_) (fun hb => ?_)) | (with_reducible refine And.intro ?_ ?_) | intro hh)
    all_goals (try simp only [decide_eq_true_eq, decide_eq_false_iff_not] at *)
    all_goals first | exact Int.NonNeg.mk _ | grind (splits := 40) []
  · intro rec s hG
    rw [seekS] at hG
    show IFB _ _ _
    repeat' (first | (refine JOIN.mk ?_) | (refine IFB.mk (fun hb => ?_) (fun hb => ?_)) | (with_reducible refine And.intro ?_ ?_) | intro hh)
    all_goals (try simp only [decide_eq_true_eq, decide_eq_false_iff_not] at *)
    all_goals first | exact Int.NonNeg.mk _ | grind (splits := 40) []
def rtake_P (x : api_Entitlements) (i : Int) (n : Int) (post : List (api_Lot) → Int → Int → Prop) : Prop := (x.Lots.length ≤ 80 ∧ (∀ l ∈ x.Lots, LotOK l) ∧ 0 ≤ i ∧ i < x.Lots.length ∧ 0 ≤ n ∧ n ≤ (ix x.Lots i).Squares) ∧ post (takeS x.Lots i.toNat n) (x.Reserve) (x.Next)
def rtake_sp : Spec := ⟨64, false, false, [.st .api_Entitlements, .int .i64, .int .i64], .agg [.own 45 (.st .api_Lot), .dat (.int .i64), .dat (.int .i64)], fun x post => rtake_P (x.1 : api_Entitlements) (x.2.1 : Int) (x.2.2.1 : Int) (fun y0 y1 y2 => post (y0, y1, y2, ()))⟩
def rtake_C : Ctx := ⟨tau, [], lookJ [(0, 7, ⟨[(13, .dat (.int .i64)), (7, .own 45 (.st .api_Lot))], [], [14, 32, 31, 30, 29, 28, 27, 26, 18, 19, 20, 21, 22, 23, 24, 25, 8, 9, 17, 16, 15, 33], [], []⟩), (0, 18, ⟨[(7, .own 45 (.st .api_Lot))], [], [15, 16, 17, 9, 8, 25, 24, 23, 22, 21, 20, 19, 18, 26, 27, 28, 29, 30, 31, 32], [2], []⟩), (0, 14, ⟨[], [(3, [.dat (.int .i64), .dat (.int .i64), .dat (.int .i64), .dat (.int .i64), .dat (.int .i64), .dat (.int .i64)])], [18, 19, 20, 21, 22, 23, 24, 25], [], []⟩)]⟩
def rtake_W (x : api_Entitlements) (i : Int) (n : Int) (post : List (api_Lot) → Int → Int → Prop) : Prop := (↑x.1.length : Int) ≤ (9223372036854775807 : Int) → LOOP [Ty.int IntKind.i64, (Ty.st Sn.api_Lot).sl] (fun (rec1 : Int → List api_Lot → Prop) (z2 : Int) (z3 : List api_Lot) ↦ IFB (decide (z2 < (↑x.1.length : Int))) (JOIN [(Ty.st Sn.api_Lot).sl] (fun (y4 : List api_Lot) ↦ rec1 (IntKind.i64.wrap (z2 + (1 : Int))) y4) fun (J5 : List api_Lot → Prop) ↦ ((0 : Int) ≤ z2 ∧ z2 < (↑x.1.length : Int)) ∧ JOIN [Ty.int IntKind.i64, Ty.int IntKind.i64, Ty.int IntKind.i64, Ty.int IntKind.i64, Ty.int IntKind.i64, Ty.int IntKind.i64] (fun (y6 y7 y8 y9 y10 y11 : Int) ↦ IFB (decide ((0 : Int) < y9)) ((z3.length + [{ Number := y6, Owner := y7, User := y8, Squares := y9, Value := y10, Used := y11 : api_Lot }].length) * (48 : Nat) ≤ (140737488355328 : Nat) ∧ J5 (z3 ++ [{ Number := y6, Owner := y7, User := y8, Squares := y9, Value := y10, Used := y11 : api_Lot }])) (J5 z3)) fun (J12 : Int → Int → Int → Int → Int → Int → Prop) ↦ IFB (decide (z2 = i)) (J12 (ix x.1 z2).1 (ix x.1 z2).2 (ix x.1 z2).3 (IntKind.i64.wrap ((ix x.1 z2).4 - n)) (ix x.1 z2).5 (ix x.1 z2).6) (J12 (ix x.1 z2).1 (ix x.1 z2).2 (ix x.1 z2).3 (ix x.1 z2).4 (ix x.1 z2).5 (ix x.1 z2).6)) (post z3 x.2 x.3)) ((0 : Int), [], PUnit.unit)
theorem rtake_w (x : api_Entitlements) (i : Int) (n : Int) (post : dens (shT rtake_sp.rs []) → Prop) : rtake_W x i n (fun y0 y1 y2 => post (y0, y1, y2, ())) = walk Try.prog rtake_C (drawR Try.prog tau) 8 0 64 false [tv (.st .api_Entitlements) x, tv (.int .i64) i, tv (.int .i64) n] rtake_sp.rs post := by kernel_rfl
theorem rtake_of (h : ∀ (x : api_Entitlements) (i : Int) (n : Int) (post : List (api_Lot) → Int → Int → Prop), rtake_P x i n post → rtake_W x i n post) : SpecOK Try.prog rtake_sp := SpecOK.of_walkH (C := rtake_C) (dr := drawR Try.prog tau) (n := 8) (fk := 0) .nil (drawR_ok tau) fun x post hp => HoldW.of (rtake_w x.1 x.2.1 x.2.2.1 post) (h x.1 x.2.1 x.2.2.1 (fun y0 y1 y2 => post (y0, y1, y2, ())) hp)
theorem rtake_ok : SpecOK Try.prog rtake_sp := rtake_of fun x i n post hp => by
  obtain ⟨⟨p1, p2, p3, p4, p5, p6⟩, hp⟩ := hp
  unfold rtake_W
  intro hlen
  refine LOOP.list (x.Lots) (fun k (s : List api_Lot) => ((k : Int), s, ())) (fun u => (u.1.toNat)) (fun k r (s : List api_Lot) => s.length ≤ k ∧ ((k : Int) ≤ i → s ++ takeS r (i.toNat - k) n = takeS x.Lots i.toNat n) ∧ (i < k → s ++ r = takeS x.Lots i.toNat n)) ([]) rfl (by simp; omega) (fun k s h => by simp) ?_ ?_
  · intro rec k y r s hd hk hkl hG hrec
    have hx := ix_of hk
    have w1 : IntKind.i64.wrap ((k : Int) + 1) = k + 1 := wrap_in (by grind) (by grind)
    obtain ⟨q1, q2, q3⟩ := hG
    have hrec : ∀ s' : List api_Lot, (s'.length ≤ k + 1 ∧ (((k + 1 : Nat) : Int) ≤ i → s' ++ takeS r (i.toNat - (k + 1)) n = takeS x.Lots i.toNat n) ∧ (i < ((k + 1 : Nat) : Int) → s' ++ r = takeS x.Lots i.toNat n)) → rec ((k : Int) + 1) s' := hrec
    have hlen1 : ∀ z : api_Lot, (s ++ [z]).length ≤ k + 1 := fun z => by rw [List.length_append]; exact Nat.succ_le_succ q1
    have hy := p2 y (List.mem_of_getElem? hk)
    have hi := p2 (ix x.Lots i) (List.mem_of_getElem? (ix_get (l := x.Lots) (i := i) ⟨p3, p4⟩))
    unfold LotOK at hy hi
    have w2 : IntKind.i64.wrap (y.Squares - n) = y.Squares - n := wrap_in (by grind) (by grind)
    have hsz : ∀ z : api_Lot, (s.length + [z].length) * 48 ≤ 140737488355328 := fun z => by simp; omega
    have e1 : i = k → i.toNat - k = 0 := by omega
    have e2 : (k : Int) < i → i.toNat - k = (i.toNat - (k + 1)) + 1 := by omega
    have t1 : (k : Int) = i → s ++ (if y.Squares - n = 0 then r else { y with Squares := y.Squares - n } :: r) = takeS x.Lots i.toNat n := fun e => by
      rw [← q2 (by omega), show i.toNat - k = 0 by omega]; rfl
    have t2 : (k : Int) < i → s ++ y :: takeS r (i.toNat - (k + 1)) n = takeS x.Lots i.toNat n := fun e => by
      rw [← q2 (by omega), show i.toNat - k = (i.toNat - (k + 1)) + 1 by omega]; rfl
    have hxi : (k : Int) = i → ix x.Lots i = y := fun e => by rw [← e]; exact hx
    have r1 : (k : Int) = i → y.Squares - n = 0 → rec ((k : Int) + 1) s := fun e1 e2 => hrec s ⟨by omega, fun h => by omega, fun _ => by rw [← t1 e1, if_pos e2]⟩
    have r2 : (k : Int) = i → y.Squares - n ≠ 0 → rec ((k : Int) + 1) (s ++ [{ y with Squares := y.Squares - n }]) := fun e1 e2 => hrec _ ⟨hlen1 _, fun h => by omega, fun _ => by rw [← t1 e1, if_neg e2]; exact List.append_assoc s [_] r⟩
    have r3 : ∀ z : api_Lot, z.Number = y.Number → z.Owner = y.Owner → z.User = y.User → z.Squares = y.Squares → z.Value = y.Value → z.Used = y.Used → (k : Int) < i → rec ((k : Int) + 1) (s ++ [z]) := fun z a1 a2 a3 a4 a5 a6 e1 => by cases lot_ext a1 a2 a3 a4 a5 a6; exact hrec (s ++ [y]) ⟨hlen1 _, fun h => by rw [← t2 e1]; exact List.append_assoc s [y] _, fun h => by omega⟩
    have r4 : ∀ z : api_Lot, z.Number = y.Number → z.Owner = y.Owner → z.User = y.User → z.Squares = y.Squares → z.Value = y.Value → z.Used = y.Used → i < (k : Int) → rec ((k : Int) + 1) (s ++ [z]) := fun z a1 a2 a3 a4 a5 a6 e1 => by cases lot_ext a1 a2 a3 a4 a5 a6; exact hrec (s ++ [y]) ⟨hlen1 _, fun h => by omega, fun h => by rw [← q3 e1]; exact List.append_assoc s [y] r⟩
    show IFB _ _ _
    simp only [w1, w2, hx]
    repeat' (first | (refine JOIN.mk ?_) | (refine IFB.mk (fun hb => ?_) (fun hb => ?_)) | (with_reducible refine And.intro ?_ ?_) | intro hh)
    all_goals (try simp only [decide_eq_true_eq, decide_eq_false_iff_not, List.length_cons, List.length_nil] at *)
    all_goals first | exact Int.NonNeg.mk _ | grind (splits := 40) []
  · intro rec s hG
    obtain ⟨q1, q2, q3⟩ := hG
    have e : s = takeS x.Lots i.toNat n := by have := q3 p4; simpa using this
    show IFB _ _ _
    repeat' (first | (refine JOIN.mk ?_) | (refine IFB.mk (fun hb => ?_) (fun hb => ?_)) | (with_reducible refine And.intro ?_ ?_) | intro hh)
    all_goals (try simp only [decide_eq_true_eq, decide_eq_false_iff_not, List.length_cons, List.length_nil] at *)
    all_goals first | exact Int.NonNeg.mk _ | grind (splits := 40) []
def edown_P (a : Int) (b : Int) (post : Int → Prop) : Prop := (0 ≤ a ∧ a ≤ 1125899906842624 ∧ 1 ≤ b ∧ b ≤ 1099511627776) ∧ post (a / b)
def edown_sp : Spec := ⟨46, false, false, [.int .i64, .int .i64], .dat (.int .i64), fun x post => edown_P (x.1 : Int) (x.2.1 : Int) (fun y0 => post (y0, ()))⟩
def edown_C : Ctx := ⟨tau, [], lookJ [(0, 12, ⟨[(5, .dat (.int .i64))], [], [13, 14, 15, 16, 17, 18], [], []⟩)]⟩
def edown_W (a : Int) (b : Int) (post : Int → Prop) : Prop := IFB (!(decide ((-1125899906842624 : Int) ≤ a) && decide (a ≤ (1125899906842624 : Int)) && decide ((1 : Int) ≤ b) && decide (b ≤ (1099511627776 : Int)))) (post (0 : Int)) ((b = (0 : Int) → False) ∧ JOIN [Ty.int IntKind.i64] (fun (y1 : Int) ↦ post y1) fun (J2 : Int → Prop) ↦ (b = (0 : Int) → False) ∧ IFB (decide (a.tmod b < (0 : Int))) (J2 (IntKind.i64.wrap (IntKind.i64.wrap (a.tdiv b) - (1 : Int)))) (J2 (IntKind.i64.wrap (a.tdiv b))))
theorem edown_w (a : Int) (b : Int) (post : dens (shT edown_sp.rs []) → Prop) : edown_W a b (fun y0 => post (y0, ())) = walk Try.prog edown_C (drawR Try.prog tau) 8 0 46 false [tv (.int .i64) a, tv (.int .i64) b] edown_sp.rs post := by kernel_rfl
theorem edown_of (h : ∀ (a : Int) (b : Int) (post : Int → Prop), edown_P a b post → edown_W a b post) : SpecOK Try.prog edown_sp := SpecOK.of_walkH (C := edown_C) (dr := drawR Try.prog tau) (n := 8) (fk := 0) .nil (drawR_ok tau) fun x post hp => HoldW.of (edown_w x.1 x.2.1 post) (h x.1 x.2.1 (fun y0 => post (y0, ())) hp)
theorem edown_ok : SpecOK Try.prog edown_sp := edown_of fun a b post hp => by
  obtain ⟨⟨p1, p2, p3, p4⟩, hp⟩ := hp
  unfold edown_W
  have e1 : a.tdiv b = a / b := Int.tdiv_eq_ediv_of_nonneg p1
  have e2 : a.tmod b = a % b := Int.tmod_eq_emod_of_nonneg p1
  have e3 : 0 ≤ a / b := Int.ediv_nonneg p1 (by omega)
  have e4 : a / b ≤ a := Int.ediv_le_self _ p1
  have e5 : 0 ≤ a % b := Int.emod_nonneg _ (by omega)
  have e6 : a / b * b ≤ a := Int.ediv_mul_le _ (by omega)
  have e7 : 0 ≤ a / b * b := Int.mul_nonneg e3 (by omega)
  have w1 : IntKind.i64.wrap (a / b) = a / b := wrap_in (by omega) (by omega)
  have w2 : IntKind.i64.wrap (a / b * b) = a / b * b := wrap_in (by omega) (by omega)
  simp only [e1, e2, w1]
  repeat' (first | (refine JOIN.mk ?_) | (refine IFB.mk (fun hb => ?_) (fun hb => ?_)) | (with_reducible refine And.intro ?_ ?_) | intro hh)
  all_goals (try simp only [Bool.and_eq_true, Bool.not_eq_true', decide_eq_true_eq, decide_eq_false_iff_not, Bool.and_eq_false_iff, Bool.not_eq_false'] at *)
  all_goals first | exact Int.NonNeg.mk _ | grind (splits := 40) []
def rdown_P (a : Int) (b : Int) (post : Int → Prop) : Prop := (0 ≤ a ∧ a ≤ 1125899906842624 ∧ 1 ≤ b ∧ b ≤ 1099511627776) ∧ post (a / b)
def rdown_sp : Spec := ⟨47, false, false, [.int .i64, .int .i64], .dat (.int .i64), fun x post => rdown_P (x.1 : Int) (x.2.1 : Int) (fun y0 => post (y0, ()))⟩
def rdown_C : Ctx := ⟨tau, [], lookJ [(0, 12, ⟨[(5, .dat (.int .i64))], [], [13, 14, 15, 16, 17, 18, 19], [], []⟩)]⟩
def rdown_W (a : Int) (b : Int) (post : Int → Prop) : Prop := IFB (!(decide ((-1125899906842624 : Int) ≤ a) && decide (a ≤ (1125899906842624 : Int)) && decide ((1 : Int) ≤ b) && decide (b ≤ (1099511627776 : Int)))) (post (0 : Int)) ((b = (0 : Int) → False) ∧ JOIN [Ty.int IntKind.i64] (fun (y1 : Int) ↦ post y1) fun (J2 : Int → Prop) ↦ IFB (decide (a < IntKind.i64.wrap (IntKind.i64.wrap (a.tdiv b) * b))) (J2 (IntKind.i64.wrap (IntKind.i64.wrap (a.tdiv b) - (1 : Int)))) (J2 (IntKind.i64.wrap (a.tdiv b))))
theorem rdown_w (a : Int) (b : Int) (post : dens (shT rdown_sp.rs []) → Prop) : rdown_W a b (fun y0 => post (y0, ())) = walk Try.prog rdown_C (drawR Try.prog tau) 8 0 47 false [tv (.int .i64) a, tv (.int .i64) b] rdown_sp.rs post := by kernel_rfl
theorem rdown_of (h : ∀ (a : Int) (b : Int) (post : Int → Prop), rdown_P a b post → rdown_W a b post) : SpecOK Try.prog rdown_sp := SpecOK.of_walkH (C := rdown_C) (dr := drawR Try.prog tau) (n := 8) (fk := 0) .nil (drawR_ok tau) fun x post hp => HoldW.of (rdown_w x.1 x.2.1 post) (h x.1 x.2.1 (fun y0 => post (y0, ())) hp)
theorem rdown_ok : SpecOK Try.prog rdown_sp := rdown_of fun a b post hp => by
  obtain ⟨⟨p1, p2, p3, p4⟩, hp⟩ := hp
  unfold rdown_W
  have e1 : a.tdiv b = a / b := Int.tdiv_eq_ediv_of_nonneg p1
  have e2 : a.tmod b = a % b := Int.tmod_eq_emod_of_nonneg p1
  have e3 : 0 ≤ a / b := Int.ediv_nonneg p1 (by omega)
  have e4 : a / b ≤ a := Int.ediv_le_self _ p1
  have e5 : 0 ≤ a % b := Int.emod_nonneg _ (by omega)
  have e6 : a / b * b ≤ a := Int.ediv_mul_le _ (by omega)
  have e7 : 0 ≤ a / b * b := Int.mul_nonneg e3 (by omega)
  have w1 : IntKind.i64.wrap (a / b) = a / b := wrap_in (by omega) (by omega)
  have w2 : IntKind.i64.wrap (a / b * b) = a / b * b := wrap_in (by omega) (by omega)
  simp only [e1, w1, w2]
  repeat' (first | (refine JOIN.mk ?_) | (refine IFB.mk (fun hb => ?_) (fun hb => ?_)) | (with_reducible refine And.intro ?_ ?_) | intro hh)
  all_goals (try simp only [Bool.and_eq_true, Bool.not_eq_true', decide_eq_true_eq, decide_eq_false_iff_not, Bool.and_eq_false_iff, Bool.not_eq_false'] at *)
  all_goals first | exact Int.NonNeg.mk _ | grind (splits := 40) []
end RE
end Go.Proofs.Ytpnmiieohdkenaa
set_option maxRecDepth 100000
set_option linter.unusedVariables false
namespace Go.Proofs.Ytpnmiieohdkenaa
open Go.RowKit
namespace RE
open PL
def usab_P (x : api_Entitlements) (n : Int) (post : List (Int) → Prop) : Prop := (x.Lots.length ≤ 1000) ∧ post (usableS x.Lots n)
def usab_sp : Spec := ⟨45, false, false, [.st .api_Entitlements, .int .i64], .own 3 (.int .i64), fun x post => usab_P (x.1 : api_Entitlements) (x.2.1 : Int) (fun y0 => post (y0, ()))⟩
def usab_C : CtxR := ⟨tau, [rule5 gstb_sp], lookJ [(0, 7, ⟨[(11, .dat (.int .i64)), (5, .own 3 (.int .i64))], [], [12, 23, 22, 21, 20, 19, 18, 17, 16, 6, 7, 15, 14, 13, 24], [], []⟩), (0, 14, ⟨[(5, .own 3 (.int .i64))], [], [13, 14, 15, 7, 6, 16, 17, 18, 19, 20, 21, 22, 23], [1], []⟩)]⟩
def usab_W (x : api_Entitlements) (n : Int) (post : List (Int) → Prop) : Prop := (↑x.1.length : Int) ≤ (9223372036854775807 : Int) → LOOP [Ty.int IntKind.i64, (Ty.int IntKind.i64).sl] (fun (rec1 : Int → List Int → Prop) (z2 : Int) (z3 : List Int) ↦ IFB (decide (z2 < (↑x.1.length : Int))) (JOIN [(Ty.int IntKind.i64).sl] (fun (y4 : List Int) ↦ rec1 (IntKind.i64.wrap (z2 + (1 : Int))) y4) fun (J5 : List Int → Prop) ↦ ((0 : Int) ≤ z2 ∧ z2 < (↑x.1.length : Int)) ∧ IFB (decide ((ix x.1 z2).3 = n)) ((z3.length + [z2].length) * (8 : Nat) ≤ (140737488355328 : Nat) ∧ J5 (z3 ++ [z2])) (J5 z3)) ((↑z3.length : Int) ≤ (9223372036854775807 : Int) → ((↑z3.length : Int) = (↑z3.length : Int) ∧ z3.length ≤ (100000 : Nat) ∧ (x.1.length ≤ (1000000 : Nat) ∧ ∀ (v6 : Int), v6 ∈ z3 → (0 : Int) ≤ v6 ∧ v6 < (↑x.1.length : Int)) ∧ List.Pairwise (fun (x1 x2 : Int) ↦ x1 < x2) z3) ∧ ∀ (v7 : List Int), stQ x.1 z3 v7 → post v7)) ((0 : Int), [], PUnit.unit)
theorem usab_w (x : api_Entitlements) (n : Int) (post : dens (shT usab_sp.rs []) → Prop) : usab_W x n (fun y0 => post (y0, ())) = walkG (callR Try.prog usab_C (drawR Try.prog tau) 8 0) 45 false [tv (.st .api_Entitlements) x, tv (.int .i64) n] usab_sp.rs post := by kernel_rfl
theorem usab_of (h : ∀ (x : api_Entitlements) (n : Int) (post : List (Int) → Prop), usab_P x n post → usab_W x n post) : SpecOK Try.prog usab_sp := SpecOK.of_rules (C := usab_C) (dr := drawR Try.prog tau) (n := 8) (fk := 0) (.cons (rule5_ok gstb_ok) .nil) (drawR_ok tau) fun x post hp => HoldW.of (usab_w x.1 x.2.1 post) (h x.1 x.2.1 (fun y0 => post (y0, ())) hp)
def usI (x : api_Entitlements) (n : Int) (z : Int) (s : List Int) : Prop := ∃ k : Nat, z = (k : Int) ∧ k ≤ x.Lots.length ∧ s ++ idxS n (k : Int) (x.Lots.drop k) = idxS n 0 x.Lots ∧ s.length ≤ k
theorem usab_ok : SpecOK Try.prog usab_sp := usab_of fun x n post hp => by
  obtain ⟨hl, hp⟩ := hp
  unfold usab_W
  refine fun hlen => LOOP.fuel (fun u => usI x n u.1 u.2.1) (fun u => x.Lots.length - Int.toNat u.1) ⟨0, rfl, Nat.zero_le _, rfl, Nat.le_refl _⟩ ?_
  rintro rec ⟨(z : Int), (s : List Int), ⟨⟩⟩ ⟨k, k1, k2, k3, k4⟩ hrec
  have j1 : z = (k : Int) := k1
  have j3 : s ++ idxS n (k : Int) (x.Lots.drop k) = idxS n 0 x.Lots := k3
  have j4 : s.length ≤ k := k4
  clear k1 k3 k4
  subst j1
  refine IFB.mk (fun hb => ?_) (fun hb => ?_)
  · have hb : (k : Int) < x.Lots.length := of_decide_eq_true hb
    have hk : k < x.Lots.length := by omega
    obtain ⟨w, hw⟩ : ∃ w, ix x.1 (k : Int) = w := ⟨_, rfl⟩
    have hd : x.Lots.drop k = w :: x.Lots.drop (k + 1) := by rw [← hw, ix_lt hk]; exact List.drop_eq_getElem_cons hk
    rw [hd, idxS] at j3
    dsimp only
    rw [hw]
    have fin : ∀ s' : List Int, s'.length ≤ k + 1 → s' ++ idxS n ((k : Int) + 1) (x.Lots.drop (k + 1)) = idxS n 0 x.Lots → rec (IntKind.i64.wrap ((k : Int) + 1)) s' := fun s' q1 q2 => by
      rw [wrapS (by omega)]
      exact hrec (((k + 1 : Nat) : Int), s', ()) ⟨k + 1, rfl, hk, q2, q1⟩ (by show x.Lots.length - ((k + 1 : Nat) : Int).toNat < x.Lots.length - (k : Int).toNat; omega)
    refine JOIN.opqL fun (J : List Int → Prop) hJ => ⟨⟨by omega, hb⟩, IFB.mk (fun hu => ⟨?_, ?_⟩) (fun hu => ?_)⟩
    · simp only [List.length_cons, List.length_nil]; omega
    · have hu : w.3 = n := of_decide_eq_true hu
      rw [if_pos hu] at j3
      rw [hJ]
      exact fin _ (by simp; omega) (by rw [List.append_assoc]; exact j3)
    · have hu : ¬ w.3 = n := of_decide_eq_false hu
      rw [if_neg hu] at j3
      rw [hJ]
      exact fin s (by omega) j3
  · have hb : ¬ (k : Int) < x.Lots.length := of_decide_eq_false hb
    have hk : k = x.Lots.length := by omega
    rw [hk, List.drop_length, idxS, List.append_nil] at j3
    dsimp only
    have hsl : s.length ≤ x.Lots.length := by rw [j3]; exact idxS_len
    refine fun _ => ⟨⟨rfl, by omega, ⟨by show x.Lots.length ≤ 1000000; omega, fun d hd => ?_⟩, by rw [j3]; exact idxS_asc⟩, fun l' hq => ?_⟩
    · rw [j3] at hd
      have := idxS_mem hd
      exact ⟨by omega, by have := this.2; show d < (x.Lots.length : Int); omega⟩
    · rw [j3] at hq
      rw [sort_uniq idxS_asc hq.1 hq.2]
      exact hp
def rusab_P (x : api_Entitlements) (n : Int) (post : List (Int) → Prop) : Prop := (x.Lots.length ≤ 80) ∧ post (if chkE x = 0 then usableS x.Lots n else [])
def rusab_sp : Spec := ⟨32, false, false, [.st .api_Entitlements, .int .i64], .own 3 (.int .i64), fun x post => rusab_P (x.1 : api_Entitlements) (x.2.1 : Int) (fun y0 => post (y0, ()))⟩
def rusab_C : Ctx := ⟨tau, [rchk_sp], lookJ [(0, 11, ⟨[(15, .dat (.int .i64)), (5, .own 3 (.int .i64))], [], [16, 23, 22, 21, 20, 6, 7, 19, 18, 17, 45, 46, 47, 48, 49, 50, 51, 52, 53, 54, 55, 56, 41, 40, 39, 38, 37, 36, 35, 34, 33, 32, 31, 30, 29, 42, 28, 27, 26, 8, 43, 44, 25, 24, 57], [], []⟩), (0, 24, ⟨[(5, .own 3 (.int .i64))], [], [24, 25, 44, 43, 8, 26, 27, 28, 42, 29, 30, 31, 32, 33, 34, 35, 36, 37, 38, 39, 40, 41, 56, 55, 54, 53, 52, 51, 50, 49, 48, 47, 46, 45, 17, 18, 19, 7, 6, 20, 21, 22, 23], [1], []⟩), (0, 1000011, ⟨[(5, .own 3 (.int .i64))], [], [45, 46, 47, 48, 49, 50, 51, 52, 53, 54, 55, 56], [], []⟩), (0, 19, ⟨[(8, .dat (.int .i64))], [], [26, 27, 28, 42, 29, 30, 31, 32, 33, 34, 35, 36, 37, 38, 39, 40, 41, 43, 44], [], []⟩)]⟩
def rusab_W (x : api_Entitlements) (n : Int) (post : List (Int) → Prop) : Prop := True ∧ IFB (!decide (chkE { Lots := x.1, Reserve := x.2, Next := x.3 : api_Entitlements } = (0 : Int))) (post []) ((↑x.1.length : Int) ≤ (9223372036854775807 : Int) → LOOP [Ty.int IntKind.i64, (Ty.int IntKind.i64).sl] (fun (rec1 : Int → List Int → Prop) (z2 : Int) (z3 : List Int) ↦ IFB (decide (z2 < (↑x.1.length : Int))) (JOIN [(Ty.int IntKind.i64).sl] (fun (y4 : List Int) ↦ rec1 (IntKind.i64.wrap (z2 + (1 : Int))) y4) fun (J5 : List Int → Prop) ↦ ((0 : Int) ≤ z2 ∧ z2 < (↑x.1.length : Int)) ∧ IFB (!decide ((ix x.1 z2).3 = n)) (J5 z3) ((↑z3.length : Int) ≤ (9223372036854775807 : Int) → LOOP [Ty.int IntKind.i64] (fun (rec6 : Int → Prop) (z7 : Int) ↦ (gx true (decide ((0 : Int) < z7)) = true → (0 : Int) ≤ IntKind.i64.wrap (z7 - (1 : Int)) ∧ IntKind.i64.wrap (z7 - (1 : Int)) < (↑z3.length : Int)) ∧ (gx true (decide ((0 : Int) < z7)) = true → (0 : Int) ≤ ix z3 (IntKind.i64.wrap (z7 - (1 : Int))) ∧ ix z3 (IntKind.i64.wrap (z7 - (1 : Int))) < (↑x.1.length : Int)) ∧ IFB (decide ((0 : Int) < z7) && decide ((ix x.1 (ix z3 (IntKind.i64.wrap (z7 - (1 : Int))))).5 < (ix x.1 z2).5)) (rec6 (IntKind.i64.wrap (z7 - (1 : Int)))) (JOIN [(Ty.int IntKind.i64).sl] (fun (y8 : List Int) ↦ J5 y8) fun (J9 : List Int → Prop) ↦ (Int.NonNeg (0 : Int) ∧ (0 : Int) ≤ z7 ∧ z7 ≤ (↑z3.length : Int)) ∧ ((0 : Int) ≤ z7 ∧ z7 ≤ (↑z3.length : Int) ∧ (↑z3.length : Int) ≤ (↑z3.length : Int)) ∧ ((((0 : Nat) + (sub z3 (0 : Int) z7).length) * (8 : Nat) ≤ (140737488355328 : Nat) ∧ (([] ++ sub z3 (0 : Int) z7).length + [z2].length) * (8 : Nat) ≤ (140737488355328 : Nat) ∧ (([] ++ sub z3 (0 : Int) z7 ++ [z2]).length + (sub z3 z7 (↑z3.length : Int)).length) * (8 : Nat) ≤ (140737488355328 : Nat) ∧ J9 ([] ++ sub z3 (0 : Int) z7 ++ [z2] ++ sub z3 z7 (↑z3.length : Int))) ∧ ((0 : Nat) + (sub z3 (0 : Int) z7).length) * (8 : Nat) ≤ (140737488355328 : Nat) ∧ (([] ++ sub z3 (0 : Int) z7).length + [z2].length) * (8 : Nat) ≤ (140737488355328 : Nat) ∧ (([] ++ sub z3 (0 : Int) z7 ++ [z2]).length + (sub z3 z7 (↑z3.length : Int)).length) * (8 : Nat) ≤ (140737488355328 : Nat) ∧ J9 ([] ++ sub z3 (0 : Int) z7 ++ [z2] ++ sub z3 z7 (↑z3.length : Int))) ∧ ((0 : Nat) + (sub z3 (0 : Int) z7).length) * (8 : Nat) ≤ (140737488355328 : Nat) ∧ (([] ++ sub z3 (0 : Int) z7).length + [z2].length) * (8 : Nat) ≤ (140737488355328 : Nat) ∧ (([] ++ sub z3 (0 : Int) z7 ++ [z2]).length + (sub z3 z7 (↑z3.length : Int)).length) * (8 : Nat) ≤ (140737488355328 : Nat) ∧ J9 ([] ++ sub z3 (0 : Int) z7 ++ [z2] ++ sub z3 z7 (↑z3.length : Int)))) ((↑z3.length : Int), PUnit.unit))) (post z3)) ((0 : Int), [], PUnit.unit))
theorem rusab_w (x : api_Entitlements) (n : Int) (post : dens (shT rusab_sp.rs []) → Prop) : rusab_W x n (fun y0 => post (y0, ())) = walk Try.prog rusab_C (drawR Try.prog tau) 8 0 32 false [tv (.st .api_Entitlements) x, tv (.int .i64) n] rusab_sp.rs post := by kernel_rfl
theorem rusab_of (h : ∀ (x : api_Entitlements) (n : Int) (post : List (Int) → Prop), rusab_P x n post → rusab_W x n post) : SpecOK Try.prog rusab_sp := SpecOK.of_walkH (C := rusab_C) (dr := drawR Try.prog tau) (n := 8) (fk := 0) (.cons rchk_ok .nil) (drawR_ok tau) fun x post hp => HoldW.of (rusab_w x.1 x.2.1 post) (h x.1 x.2.1 (fun y0 => post (y0, ())) hp)
theorem rusab_ok : SpecOK Try.prog rusab_sp := rusab_of fun x n post hp => by
  obtain ⟨hl, hp⟩ := hp
  unfold rusab_W
  refine ⟨trivial, fun h => ?_, fun h1 => ?_⟩
  · rw [if_neg (by grind)] at hp; exact hp
  rw [if_pos (by grind)] at hp
  intro _
  refine LOOP.list (x.Lots) (fun k (s : List Int) => ((k : Int), s, ())) (fun u => (u.1.toNat)) (fun k r (s : List Int) => sortS (lotV x.Lots) s (idxS n k r) = usableS x.Lots n ∧ s.length ≤ k ∧ ∀ d ∈ s, 0 ≤ d ∧ d < k) ([]) rfl (⟨rfl, by simp, fun d hd => by cases hd⟩) (fun k s h => by simp) ?_ ?_
  · intro rec k y r s hd hk hkl hG hrec
    have hx := ix_of hk
    have w1 : IntKind.i64.wrap ((k : Int) + 1) = k + 1 := wrap_in (by grind) (by grind)
    obtain ⟨q1, q2, q3⟩ := hG
    have hrec : ∀ s' : List Int, (sortS (lotV x.Lots) s' (idxS n ((k + 1 : Nat) : Int) r) = usableS x.Lots n ∧ s'.length ≤ k + 1 ∧ ∀ d ∈ s', 0 ≤ d ∧ d < ((k + 1 : Nat) : Int)) → rec ((k : Int) + 1) s' := hrec
    rw [idxS] at q1
    show IFB _ _ _
    simp only [w1, hx]
    refine ⟨fun _ => ?_, fun h => absurd (of_decide_eq_false h) (by omega)⟩
    refine JOIN.mk ⟨by omega, fun hu => ?_, fun hu => ?_⟩
    · have hu : y.User ≠ n := by simpa using hu
      exact hrec s ⟨by rw [if_neg hu] at q1; exact q1, by omega, fun d hd => by have := q3 d hd; omega⟩
    have hu : y.User = n := by simpa using hu
    rw [if_pos hu] at q1
    intro _
    have hfin : ∀ A B : List Int, A ++ B = s → (∀ z ∈ B, lotV x.Lots z < lotV x.Lots k) → (∀ A' p, A = A' ++ [p] → ¬ lotV x.Lots p < lotV x.Lots k) → rec ((k : Int) + 1) (A ++ (k : Int) :: B) := fun A B hAB hB hA => by
      refine hrec _ ⟨?_, ?_, ?_⟩
      · rw [← q1]
        show _ = sortS _ (insR (lotV x.Lots) k s.reverse).reverse _
        rw [← hAB, insR_parts hB hA]; rfl
      · have : A.length + B.length = s.length := by rw [← hAB]; simp
        simp; omega
      · intro d hd
        have : d = k ∨ d ∈ s := by
          rw [← hAB]
          simp at hd ⊢
          grind
        rcases this with rfl | h
        · omega
        · have := q3 d h; omega
    refine LOOP.fuel (fun u => ∃ A B : List Int, A ++ B = s ∧ u.1 = (A.length : Int) ∧ ∀ z ∈ B, lotV x.Lots z < lotV x.Lots k) (fun u => (u.1 : Int).toNat) ⟨s, [], by simp, rfl, fun z hz => by cases hz⟩ ?_
    rintro rec2 ⟨z7, ⟨⟩⟩ ⟨A, B, hAB, h1, hB⟩ hrec2
    have h1 : z7 = (A.length : Int) := h1
    subst h1
    have hAl : A.length + B.length = s.length := by rw [← hAB]; simp
    have wj : IntKind.i64.wrap ((A.length : Int) - 1) = A.length - 1 := wrap_in (by omega) (by omega)
    have hk80 : k < 80 := by omega
    have hsub1 : sub s 0 (A.length : Int) = A := by
      unfold sub; rw [← hAB]; simp
    have hsub2 : sub s (A.length : Int) (s.length : Int) = B := by
      unfold sub; rw [Int.toNat_natCast, Int.toNat_natCast, List.take_of_length_le (Nat.le_refl _), ← hAB]; simp
    show _ ∧ _ ∧ _
    simp only [wj, hsub1, hsub2]
    have hlA : (([] : List Int) ++ A).length = A.length := by simp
    have happ : ∀ j : Int, ([] ++ A ++ [j] ++ B : List Int) = A ++ j :: B := fun j => by simp
    rcases List.eq_nil_or_concat A with hA0 | ⟨A', p, hA0⟩
    · have hf := hfin A B hAB hB (fun A' p e => by rw [hA0] at e; have := congrArg List.length e; simp at this)
      have hz : (A.length : Int) = 0 := by rw [hA0]; rfl
      have hz2 : A.length = 0 := by rw [hA0]; rfl
      clear hrec hrec2 hfin q1
      repeat' (first | (refine JOIN.mk ?_) | (refine IFB.mk (fun hb => ?_) (fun hb => ?_)) | (with_reducible refine And.intro ?_ ?_) | intro hh)
      all_goals (try simp only [gx_t, hz, happ] at *)
      all_goals first | exact Int.NonNeg.mk _ | exact hf | omega | (simp at *; done) | (simp; omega) | grind
    · have hA1 : A = A' ++ [p] := by simpa using hA0
      have hAl' : A.length = A'.length + 1 := by rw [hA1]; simp
      have hj : (A.length : Int) - 1 = (A'.length : Int) := by omega
      have hixp : ix s ((A.length : Int) - 1) = p := by
        rw [hj, ← hAB, hA1, List.append_assoc]; exact ix_app rfl
      have hp2 := q3 p (by rw [← hAB, hA1]; simp)
      have hgo : lotV x.Lots p < lotV x.Lots k → rec2 ((A.length : Int) - 1) := fun hv => by
        have := hrec2 (((A.length : Int) - 1 : Int), ()) ⟨A', p :: B, by rw [← hAB, hA1]; simp, hj, fun z hz => by
          rcases List.mem_cons.1 hz with rfl | hz
          · exact hv
          · exact hB z hz⟩ (by show ((A.length : Int) - 1).toNat < (A.length : Int).toNat; omega)
        exact this
      have hst : ¬ lotV x.Lots p < lotV x.Lots k → rec ((k : Int) + 1) (A ++ (k : Int) :: B) := fun hv => hfin A B hAB hB (fun A2 p2 e => by
        rw [hA1] at e
        have := List.append_inj' e rfl
        have e2 : p = p2 := by simpa using this.2
        rw [← e2]; exact hv)
      simp only [hixp]
      unfold lotV at hgo hst
      simp only [hx] at hgo hst
      clear hrec hrec2 hfin q1 q3
      have hpos : (0 : Int) < A.length := by omega
      repeat' (first | (refine JOIN.mk ?_) | (refine IFB.mk (fun hb => ?_) (fun hb => ?_)) | (with_reducible refine And.intro ?_ ?_) | intro hh)
      all_goals (try simp only [gx_t, happ, decide_eq_true_eq, decide_eq_false_iff_not, Bool.and_eq_true, Bool.and_eq_false_iff, Bool.not_eq_false'] at *)
      all_goals first | exact Int.NonNeg.mk _ | omega | (simp; omega) | grind
  · intro rec s hG
    obtain ⟨q1, q2, q3⟩ := hG
    have q1 : s = usableS x.Lots n := q1
    show IFB _ _ _
    refine ⟨fun h => absurd (of_decide_eq_true h) (by omega), fun _ => ?_⟩
    rw [← q1] at hp; exact hp
end RE
end Go.Proofs.Ytpnmiieohdkenaa
set_option maxRecDepth 100000
set_option linter.unusedVariables false
namespace Go.Proofs.Ytpnmiieohdkenaa
open Go.RowKit
namespace RE
open PL
def radd_P (ls : List (api_Lot)) (re : Int) (nx : Int) (l : api_Lot) (post : List (api_Lot) → Int → Int → Int → Prop) : Prop := (ls.length ≤ 80 ∧ 1 ≤ nx ∧ nx ≤ 1073741824) ∧ post ((addS ls re nx l).1) ((addS ls re nx l).2.1) ((addS ls re nx l).2.2.1) ((addS ls re nx l).2.2.2)
def radd_sp : Spec2 := ⟨60, [.agg [.own 45 (.st .api_Lot), .dat (.int .i64), .dat (.int .i64)], .dat (.st .api_Lot)], .tup [.agg [.own 45 (.st .api_Lot), .dat (.int .i64), .dat (.int .i64)], .dat (.int .i64)], fun x post => radd_P (x.1 : List (api_Lot)) (x.2.1 : Int) (x.2.2.1 : Int) (x.2.2.2.1 : api_Lot) (fun y0 y1 y2 y3 => post (y0, y1, y2, y3, ()))⟩
def radd_C : Ctx := ⟨tau, [], lookJ [(0, 1000004, ⟨[], [(1, [.own 45 (.st .api_Lot), .dat (.int .i64), .dat (.int .i64)])], [19, 20, 21, 22, 23, 24, 25, 26, 27, 28], [0], []⟩)]⟩
def radd_W (ls : List (api_Lot)) (re : Int) (nx : Int) (l : api_Lot) (post : List (api_Lot) → Int → Int → Int → Prop) : Prop := (↑ls.length : Int) ≤ (9223372036854775807 : Int) → IFB (decide ((80 : Int) ≤ (↑ls.length : Int)) || decide ((1073741824 : Int) ≤ nx)) (post ls re nx (1 : Int)) (JOIN [(Ty.st Sn.api_Lot).sl, Ty.int IntKind.i64, Ty.int IntKind.i64] (fun (y1 : List api_Lot) (y2 y3 : Int) ↦ post y1 y2 y3 (0 : Int)) fun (J4 : List api_Lot → Int → Int → Prop) ↦ (ls.length + [{ Number := nx, Owner := l.2, User := l.3, Squares := l.4, Value := l.5, Used := l.6 : api_Lot }].length) * (48 : Nat) ≤ (140737488355328 : Nat) ∧ J4 (ls ++ [{ Number := nx, Owner := l.2, User := l.3, Squares := l.4, Value := l.5, Used := l.6 : api_Lot }]) re (IntKind.i64.wrap (nx + (1 : Int))))
theorem radd_w (ls : List (api_Lot)) (re : Int) (nx : Int) (l : api_Lot) (post : dens (shT radd_sp.rs []) → Prop) : radd_W ls re nx l (fun y0 y1 y2 y3 => post (y0, y1, y2, y3, ())) = walk2 Try.prog radd_C [] (drawR Try.prog tau) 12 0 radd_sp (ls, re, nx, l, ()) post := by kernel_rfl
theorem radd_of (h : ∀ (ls : List (api_Lot)) (re : Int) (nx : Int) (l : api_Lot) (post : List (api_Lot) → Int → Int → Int → Prop), radd_P ls re nx l post → radd_W ls re nx l post) : Spec2OK Try.prog radd_sp := Spec2OK.of_walk2 (C := radd_C) (L2 := []) (dr := drawR Try.prog tau) (n := 12) (fk := 0) .nil .nil (drawR_ok tau) fun x post hp => HoldW.of (radd_w x.1 x.2.1 x.2.2.1 x.2.2.2.1 post) (h x.1 x.2.1 x.2.2.1 x.2.2.2.1 (fun y0 y1 y2 y3 => post (y0, y1, y2, y3, ())) hp)
theorem radd_ok : Spec2OK Try.prog radd_sp := radd_of fun ls re nx l post hp => by
  obtain ⟨⟨p1, p2, p3⟩, hp⟩ := hp
  unfold radd_W
  have w1 : IntKind.i64.wrap (nx + 1) = nx + 1 := wrap_in (by omega) (by omega)
  simp only [w1]
  unfold addS at hp
  repeat' (first | (refine JOIN.mk ?_) | (refine IFB.mk (fun hb => ?_) (fun hb => ?_)) | (with_reducible refine And.intro ?_ ?_) | intro hh)
  all_goals (try simp only [Bool.or_eq_true, decide_eq_true_eq, decide_eq_false_iff_not, Bool.or_eq_false_iff, List.length_cons, List.length_nil] at *)
  all_goals first | exact Int.NonNeg.mk _ | grind (splits := 40) []
def rmove_P (ls : List (api_Lot)) (re : Int) (nx : Int) (a : api_Act) (post : List (api_Lot) → Int → Int → Int → Prop) : Prop := (ls.length ≤ 80 ∧ (∀ l ∈ ls, LotOK l) ∧ 0 ≤ re ∧ re ≤ 1099511627776 ∧ 1 ≤ nx ∧ nx ≤ 1073741824 ∧ (a.Kind = 2 ∨ a.Kind = 3)) ∧ post ((moveS ls re nx a).1) ((moveS ls re nx a).2.1) ((moveS ls re nx a).2.2.1) ((moveS ls re nx a).2.2.2)
def rmove_sp : Spec2 := ⟨61, [.agg [.own 45 (.st .api_Lot), .dat (.int .i64), .dat (.int .i64)], .dat (.st .api_Act)], .tup [.agg [.own 45 (.st .api_Lot), .dat (.int .i64), .dat (.int .i64)], .dat (.int .i64)], fun x post => rmove_P (x.1 : List (api_Lot)) (x.2.1 : Int) (x.2.2.1 : Int) (x.2.2.2.1 : api_Act) (fun y0 y1 y2 y3 => post (y0, y1, y2, y3, ()))⟩
def rmove_C : Ctx := ⟨tau, [rdown_sp, rtake_sp, rfind_sp], lookJ [(0, 34, ⟨[], [(4, [.dat (.int .i64), .dat (.int .i64), .dat (.int .i64), .dat (.int .i64), .dat (.int .i64), .dat (.int .i64)]), (1, [.rf 5, .dat (.int .i64), .dat (.int .i64)])], [79, 80, 81, 82, 83, 84, 85, 86, 87, 8, 88, 89, 90, 91, 92, 93, 94, 95, 96, 97, 98, 99, 100], [], []⟩)]⟩
def rmove_W (ls : List (api_Lot)) (re : Int) (nx : Int) (a : api_Act) (post : List (api_Lot) → Int → Int → Int → Prop) : Prop := True ∧ IFB (decide (seekS a.4 (0 : Int) ls < (0 : Int))) (post ls re nx (19 : Int)) (((0 : Int) ≤ seekS a.4 (0 : Int) ls ∧ seekS a.4 (0 : Int) ls < (↑ls.length : Int)) ∧ IFB (!(decide ((1 : Int) ≤ a.3) && decide (a.3 ≤ (60 : Int)))) (post ls re nx (20 : Int)) (IFB (!decide ((ix ls (seekS a.4 (0 : Int) ls)).2 = (ix ls (seekS a.4 (0 : Int) ls)).3) || decide ((ix ls (seekS a.4 (0 : Int) ls)).2 = a.3)) (post ls re nx (22 : Int)) (IFB (decide (a.5 < (1 : Int)) || decide ((ix ls (seekS a.4 (0 : Int) ls)).4 < a.5) || decide (a.1 = (2 : Int)) && (decide (a.7 < (0 : Int)) || decide ((1000000 : Int) < a.7))) (post ls re nx (2 : Int)) ((ls.length ≤ (80 : Nat) ∧ (∀ (v1 : api_Lot), v1 ∈ ls → (1 : Int) ≤ v1.2 ∧ v1.2 ≤ (60 : Int) ∧ (1 : Int) ≤ v1.3 ∧ v1.3 ≤ (60 : Int) ∧ (1 : Int) ≤ v1.4 ∧ v1.4 ≤ (268435456 : Int) ∧ (0 : Int) ≤ v1.5 ∧ v1.5 ≤ (1048576 : Int) ∧ (-1 : Int) ≤ v1.6 ∧ v1.6 ≤ (100 : Int)) ∧ (0 : Int) ≤ seekS a.4 (0 : Int) ls ∧ seekS a.4 (0 : Int) ls < (↑ls.length : Int) ∧ (0 : Int) ≤ a.5 ∧ a.5 ≤ (ix ls (seekS a.4 (0 : Int) ls)).4) ∧ JOIN [Ty.int IntKind.i64, Ty.int IntKind.i64, Ty.int IntKind.i64, Ty.int IntKind.i64, Ty.int IntKind.i64, Ty.int IntKind.i64, Ty.int IntKind.i64, Ty.int IntKind.i64] (fun (y2 y3 y4 y5 y6 y7 y8 y9 : Int) ↦ IFB (decide (y5 = (0 : Int))) (post (takeS ls (seekS a.4 (0 : Int) ls).toNat a.5) y8 y9 (0 : Int)) (((takeS ls (seekS a.4 (0 : Int) ls).toNat a.5).length ≤ (80 : Nat) ∧ (1 : Int) ≤ y9 ∧ y9 ≤ (1073741824 : Int)) ∧ post (addS (takeS ls (seekS a.4 (0 : Int) ls).toNat a.5) y8 y9 { Number := y2, Owner := y3, User := y4, Squares := y5, Value := y6, Used := y7 : api_Lot }).1 (addS (takeS ls (seekS a.4 (0 : Int) ls).toNat a.5) y8 y9 { Number := y2, Owner := y3, User := y4, Squares := y5, Value := y6, Used := y7 : api_Lot }).2.1 (addS (takeS ls (seekS a.4 (0 : Int) ls).toNat a.5) y8 y9 { Number := y2, Owner := y3, User := y4, Squares := y5, Value := y6, Used := y7 : api_Lot }).2.2.1 (addS (takeS ls (seekS a.4 (0 : Int) ls).toNat a.5) y8 y9 { Number := y2, Owner := y3, User := y4, Squares := y5, Value := y6, Used := y7 : api_Lot }).2.2.2)) fun (J10 : Int → Int → Int → Int → Int → Int → Int → Int → Prop) ↦ IFB (decide (a.1 = (2 : Int))) (((0 : Int) ≤ IntKind.i64.wrap (a.5 * a.7) ∧ IntKind.i64.wrap (a.5 * a.7) ≤ (1125899906842624 : Int) ∧ (1 : Int) ≤ (1000000 : Int) ∧ (1000000 : Int) ≤ (1099511627776 : Int)) ∧ J10 (ix ls (seekS a.4 (0 : Int) ls)).1 a.3 a.3 (IntKind.i64.wrap (a.5 - IntKind.i64.wrap (a.5 * a.7) / (1000000 : Int))) (ix ls (seekS a.4 (0 : Int) ls)).5 (ix ls (seekS a.4 (0 : Int) ls)).6 (IntKind.i64.wrap (re + IntKind.i64.wrap (a.5 * a.7) / (1000000 : Int))) nx) (J10 (ix ls (seekS a.4 (0 : Int) ls)).1 (ix ls (seekS a.4 (0 : Int) ls)).2 a.3 a.5 (ix ls (seekS a.4 (0 : Int) ls)).5 (ix ls (seekS a.4 (0 : Int) ls)).6 re nx)))))
theorem rmove_w (ls : List (api_Lot)) (re : Int) (nx : Int) (a : api_Act) (post : dens (shT rmove_sp.rs []) → Prop) : rmove_W ls re nx a (fun y0 y1 y2 y3 => post (y0, y1, y2, y3, ())) = walk2 Try.prog rmove_C [radd_sp] (drawR Try.prog tau) 12 0 rmove_sp (ls, re, nx, a, ()) post := by kernel_rfl
theorem rmove_of (h : ∀ (ls : List (api_Lot)) (re : Int) (nx : Int) (a : api_Act) (post : List (api_Lot) → Int → Int → Int → Prop), rmove_P ls re nx a post → rmove_W ls re nx a post) : Spec2OK Try.prog rmove_sp := Spec2OK.of_walk2 (C := rmove_C) (L2 := [radd_sp]) (dr := drawR Try.prog tau) (n := 12) (fk := 0) (.cons rdown_ok (.cons rtake_ok (.cons rfind_ok .nil))) (.cons radd_ok .nil) (drawR_ok tau) fun x post hp => HoldW.of (rmove_w x.1 x.2.1 x.2.2.1 x.2.2.2.1 post) (h x.1 x.2.1 x.2.2.1 x.2.2.2.1 (fun y0 y1 y2 y3 => post (y0, y1, y2, y3, ())) hp)
theorem rmove_ok : Spec2OK Try.prog rmove_sp := rmove_of fun ls re nx a post hp => by
  obtain ⟨⟨p1, p2, p3, p4, p5, p6, hk⟩, hp⟩ := hp
  unfold rmove_W
  obtain ⟨i, hi⟩ : ∃ i, seekS a.4 0 ls = i := ⟨_, rfl⟩
  have hs := seekS_spec (n := a.4) (l := ls) (k := 0) (by omega)
  unfold moveS at hp
  simp only [hi] at hp hs ⊢
  refine ⟨trivial, fun hb => ?_, fun hb => ?_⟩
  · grind
  have hi0 : 0 ≤ i ∧ i < ls.length := by grind
  have hl := p2 _ (get_mem hi0.1 hi0.2)
  obtain ⟨l, hle⟩ : ∃ l, ix ls i = l := ⟨_, rfl⟩
  have htl := takeS_len (n := a.5) (l := ls) (i := i.toNat)
  simp only [hle] at hp hl ⊢
  unfold LotOK at hl
  have hpr := fun h1 h2 h3 h4 => @prod_in a.5 a.7 h1 h2 h3 h4
  have w2 : ∀ q : Int, 0 ≤ q → q ≤ a.5 → 1 ≤ a.5 → a.5 ≤ 268435456 → IntKind.i64.wrap (a.5 - q) = a.5 - q ∧ IntKind.i64.wrap (re + q) = re + q := fun q h1 h2 h3 h4 => ⟨wrap_in (by omega) (by omega), wrap_in (by omega) (by omega)⟩
  unfold farmP keptS at hp
  refine ⟨by grind, fun hb1 => ?_, fun hb1 => ?_⟩
  · grind
  refine ⟨fun hb2 => ?_, fun hb2 => ?_⟩
  · grind
  refine ⟨fun hb3 => ?_, fun hb3 => ?_⟩
  · grind (splits := 20)
  have hsq : 1 ≤ a.5 ∧ a.5 ≤ l.4 := by grind
  refine ⟨⟨p1, p2, by grind⟩, ?_⟩
  refine JOIN.mk (IFB.mk (fun hc => ?_) (fun hc => ?_))
  · have hc : a.1 = 2 := of_decide_eq_true hc
    have hkp : 0 ≤ a.7 ∧ a.7 ≤ 1000000 := by grind
    obtain ⟨e1, e2, e3, e4, e5⟩ := hpr hsq.1 (by omega) hkp.1 hkp.2
    obtain ⟨e6, e7⟩ := w2 _ e4 e5 hsq.1 (by omega)
    simp only [e1, e6, e7]
    rw [if_neg (by grind), if_neg (by grind), if_neg (by grind), if_neg (by grind)] at hp
    simp only [hc, if_true] at hp
    refine ⟨by omega, IFB.mk (fun h0 => ?_) (fun h0 => ?_)⟩
    · rw [if_pos (of_decide_eq_true h0)] at hp; exact hp
    · rw [if_neg (of_decide_eq_false h0)] at hp
      exact ⟨by omega, hp⟩
  · have hc : ¬ a.1 = 2 := of_decide_eq_false hc
    rw [if_neg (by grind), if_neg (by grind), if_neg (by grind), if_neg (by grind)] at hp
    simp only [hc, if_false, Int.sub_zero, Int.add_zero] at hp
    refine IFB.mk (fun h0 => ?_) (fun h0 => ?_)
    · rw [if_pos (of_decide_eq_true h0)] at hp; exact hp
    · rw [if_neg (of_decide_eq_false h0)] at hp
      exact ⟨by omega, hp⟩

def ruse_P (ls : List (api_Lot)) (re : Int) (nx : Int) (a : api_Act) (post : List (api_Lot) → Int → Int → Int → Prop) : Prop := (chkE ⟨ls, re, nx⟩ = 0) ∧ post ((useAct ls re nx a).1) ((useAct ls re nx a).2.1) ((useAct ls re nx a).2.2.1) ((useAct ls re nx a).2.2.2)
def ruse_sp : Spec2 := ⟨63, [.agg [.own 45 (.st .api_Lot), .dat (.int .i64), .dat (.int .i64)], .dat (.st .api_Act)], .tup [.agg [.own 45 (.st .api_Lot), .dat (.int .i64), .dat (.int .i64)], .dat (.int .i64)], fun x post => ruse_P (x.1 : List (api_Lot)) (x.2.1 : Int) (x.2.2.1 : Int) (x.2.2.2.1 : api_Act) (fun y0 y1 y2 y3 => post (y0, y1, y2, y3, ()))⟩
def ruse_C : Ctx := ⟨tau, [rchk_sp, rusab_sp, rheld_sp], lookJ [(0, 60, ⟨[], [], [77, 78, 133, 107, 106, 105, 104, 103, 102, 101, 100, 99, 98, 97, 96, 95, 94, 93, 92, 91, 90, 89, 88, 87, 86, 85, 84, 83, 14, 82, 81, 12, 79, 80], [], [(0, 45, (.st .api_Lot))]⟩), (0, 39, ⟨[(79, .dat (.int .i64)), (12, .dat (.int .i64))], [], [80, 81, 82, 14, 83, 84, 85, 86, 87, 88, 89, 90, 91, 92, 93, 94, 95, 96, 97, 98, 99, 100, 101, 102, 103, 104, 105, 106, 107, 133], [], [(0, 45, (.st .api_Lot))]⟩), (0, 13, ⟨[(35, .dat (.int .i64)), (7, .dat .bool)], [], [36, 37, 38, 9, 39, 40, 50, 41, 42, 43, 44, 45, 46, 47, 48, 49, 51], [], []⟩)]⟩
def ruse_W (ls : List (api_Lot)) (re : Int) (nx : Int) (a : api_Act) (post : List (api_Lot) → Int → Int → Int → Prop) : Prop := IFB (!(decide ((1 : Int) ≤ a.2) && decide (a.2 ≤ (60 : Int)))) (post ls re nx (20 : Int)) (ls.length ≤ (80 : Nat) ∧ ((↑(if chkE { Lots := ls, Reserve := re, Next := nx : api_Entitlements } = (0 : Int) then usableS ls a.2 else []).length : Int) ≤ (9223372036854775807 : Int) → LOOP [Ty.int IntKind.i64, Ty.bool] (fun (rec1 : Int → Bool → Prop) (z2 : Int) (z3 : Bool) ↦ IFB (decide (z2 < (↑(if chkE { Lots := ls, Reserve := re, Next := nx : api_Entitlements } = (0 : Int) then usableS ls a.2 else []).length : Int))) (((0 : Int) ≤ z2 ∧ z2 < (↑(if chkE { Lots := ls, Reserve := re, Next := nx : api_Entitlements } = (0 : Int) then usableS ls a.2 else []).length : Int)) ∧ (gx false z3 = true → (0 : Int) ≤ ix (if chkE { Lots := ls, Reserve := re, Next := nx : api_Entitlements } = (0 : Int) then usableS ls a.2 else []) z2 ∧ ix (if chkE { Lots := ls, Reserve := re, Next := nx : api_Entitlements } = (0 : Int) then usableS ls a.2 else []) z2 < (↑ls.length : Int)) ∧ rec1 (IntKind.i64.wrap (z2 + (1 : Int))) (z3 || decide (a.8 < (ix ls (ix (if chkE { Lots := ls, Reserve := re, Next := nx : api_Entitlements } = (0 : Int) then usableS ls a.2 else []) z2)).6))) (IFB z3 (post ls re nx (18 : Int)) (IFB (decide (a.5 < (1 : Int)) || decide ((268435456 : Int) < a.5)) (post ls re nx (2 : Int)) (True ∧ IFB (decide ((heldS { Lots := ls, Reserve := re, Next := nx : api_Entitlements } a.2).2 < a.5)) (post ls re nx (22 : Int)) (JOIN [(Ty.st Sn.api_Lot).sl] (fun (y4 : List api_Lot) ↦ post y4 re nx (0 : Int)) fun (J5 : List api_Lot → Prop) ↦ (↑(if chkE { Lots := ls, Reserve := re, Next := nx : api_Entitlements } = (0 : Int) then usableS ls a.2 else []).length : Int) ≤ (9223372036854775807 : Int) → LOOP [Ty.int IntKind.i64, Ty.int IntKind.i64, (Ty.st Sn.api_Lot).sl] (fun (rec6 : Int → Int → List api_Lot → Prop) (z7 z8 : Int) (z9 : List api_Lot) ↦ IFB (decide (z7 < (↑(if chkE { Lots := ls, Reserve := re, Next := nx : api_Entitlements } = (0 : Int) then usableS ls a.2 else []).length : Int))) (((0 : Int) ≤ z7 ∧ z7 < (↑(if chkE { Lots := ls, Reserve := re, Next := nx : api_Entitlements } = (0 : Int) then usableS ls a.2 else []).length : Int)) ∧ IFB (decide (z8 = (0 : Int))) (J5 z9) (((0 : Int) ≤ ix (if chkE { Lots := ls, Reserve := re, Next := nx : api_Entitlements } = (0 : Int) then usableS ls a.2 else []) z7 ∧ ix (if chkE { Lots := ls, Reserve := re, Next := nx : api_Entitlements } = (0 : Int) then usableS ls a.2 else []) z7 < (↑z9.length : Int)) ∧ IFB (decide ((ix z9 (ix (if chkE { Lots := ls, Reserve := re, Next := nx : api_Entitlements } = (0 : Int) then usableS ls a.2 else []) z7)).4 ≤ z8)) (((0 : Int) ≤ ix (if chkE { Lots := ls, Reserve := re, Next := nx : api_Entitlements } = (0 : Int) then usableS ls a.2 else []) z7 ∧ ix (if chkE { Lots := ls, Reserve := re, Next := nx : api_Entitlements } = (0 : Int) then usableS ls a.2 else []) z7 < (↑z9.length : Int)) ∧ ((0 : Int) ≤ ix (if chkE { Lots := ls, Reserve := re, Next := nx : api_Entitlements } = (0 : Int) then usableS ls a.2 else []) z7 ∧ ix (if chkE { Lots := ls, Reserve := re, Next := nx : api_Entitlements } = (0 : Int) then usableS ls a.2 else []) z7 < (↑(z9.set (ix (if chkE { Lots := ls, Reserve := re, Next := nx : api_Entitlements } = (0 : Int) then usableS ls a.2 else []) z7).toNat { Number := (ix z9 (ix (if chkE { Lots := ls, Reserve := re, Next := nx : api_Entitlements } = (0 : Int) then usableS ls a.2 else []) z7)).1, Owner := (ix z9 (ix (if chkE { Lots := ls, Reserve := re, Next := nx : api_Entitlements } = (0 : Int) then usableS ls a.2 else []) z7)).2, User := (ix z9 (ix (if chkE { Lots := ls, Reserve := re, Next := nx : api_Entitlements } = (0 : Int) then usableS ls a.2 else []) z7)).3, Squares := (ix z9 (ix (if chkE { Lots := ls, Reserve := re, Next := nx : api_Entitlements } = (0 : Int) then usableS ls a.2 else []) z7)).4, Value := (ix z9 (ix (if chkE { Lots := ls, Reserve := re, Next := nx : api_Entitlements } = (0 : Int) then usableS ls a.2 else []) z7)).5, Used := a.8 : api_Lot }).length : Int)) ∧ rec6 (IntKind.i64.wrap (z7 + (1 : Int))) (IntKind.i64.wrap (z8 - (ix (z9.set (ix (if chkE { Lots := ls, Reserve := re, Next := nx : api_Entitlements } = (0 : Int) then usableS ls a.2 else []) z7).toNat { Number := (ix z9 (ix (if chkE { Lots := ls, Reserve := re, Next := nx : api_Entitlements } = (0 : Int) then usableS ls a.2 else []) z7)).1, Owner := (ix z9 (ix (if chkE { Lots := ls, Reserve := re, Next := nx : api_Entitlements } = (0 : Int) then usableS ls a.2 else []) z7)).2, User := (ix z9 (ix (if chkE { Lots := ls, Reserve := re, Next := nx : api_Entitlements } = (0 : Int) then usableS ls a.2 else []) z7)).3, Squares := (ix z9 (ix (if chkE { Lots := ls, Reserve := re, Next := nx : api_Entitlements } = (0 : Int) then usableS ls a.2 else []) z7)).4, Value := (ix z9 (ix (if chkE { Lots := ls, Reserve := re, Next := nx : api_Entitlements } = (0 : Int) then usableS ls a.2 else []) z7)).5, Used := a.8 : api_Lot }) (ix (if chkE { Lots := ls, Reserve := re, Next := nx : api_Entitlements } = (0 : Int) then usableS ls a.2 else []) z7)).4)) (z9.set (ix (if chkE { Lots := ls, Reserve := re, Next := nx : api_Entitlements } = (0 : Int) then usableS ls a.2 else []) z7).toNat { Number := (ix z9 (ix (if chkE { Lots := ls, Reserve := re, Next := nx : api_Entitlements } = (0 : Int) then usableS ls a.2 else []) z7)).1, Owner := (ix z9 (ix (if chkE { Lots := ls, Reserve := re, Next := nx : api_Entitlements } = (0 : Int) then usableS ls a.2 else []) z7)).2, User := (ix z9 (ix (if chkE { Lots := ls, Reserve := re, Next := nx : api_Entitlements } = (0 : Int) then usableS ls a.2 else []) z7)).3, Squares := (ix z9 (ix (if chkE { Lots := ls, Reserve := re, Next := nx : api_Entitlements } = (0 : Int) then usableS ls a.2 else []) z7)).4, Value := (ix z9 (ix (if chkE { Lots := ls, Reserve := re, Next := nx : api_Entitlements } = (0 : Int) then usableS ls a.2 else []) z7)).5, Used := a.8 : api_Lot })) (((0 : Int) ≤ ix (if chkE { Lots := ls, Reserve := re, Next := nx : api_Entitlements } = (0 : Int) then usableS ls a.2 else []) z7 ∧ ix (if chkE { Lots := ls, Reserve := re, Next := nx : api_Entitlements } = (0 : Int) then usableS ls a.2 else []) z7 < (↑z9.length : Int)) ∧ ((0 : Int) ≤ ix (if chkE { Lots := ls, Reserve := re, Next := nx : api_Entitlements } = (0 : Int) then usableS ls a.2 else []) z7 ∧ ix (if chkE { Lots := ls, Reserve := re, Next := nx : api_Entitlements } = (0 : Int) then usableS ls a.2 else []) z7 < (↑z9.length : Int)) ∧ ((0 : Int) ≤ ix (if chkE { Lots := ls, Reserve := re, Next := nx : api_Entitlements } = (0 : Int) then usableS ls a.2 else []) z7 ∧ ix (if chkE { Lots := ls, Reserve := re, Next := nx : api_Entitlements } = (0 : Int) then usableS ls a.2 else []) z7 < (↑z9.length : Int)) ∧ ((z9.set (ix (if chkE { Lots := ls, Reserve := re, Next := nx : api_Entitlements } = (0 : Int) then usableS ls a.2 else []) z7).toNat { Number := (ix z9 (ix (if chkE { Lots := ls, Reserve := re, Next := nx : api_Entitlements } = (0 : Int) then usableS ls a.2 else []) z7)).1, Owner := (ix z9 (ix (if chkE { Lots := ls, Reserve := re, Next := nx : api_Entitlements } = (0 : Int) then usableS ls a.2 else []) z7)).2, User := (ix z9 (ix (if chkE { Lots := ls, Reserve := re, Next := nx : api_Entitlements } = (0 : Int) then usableS ls a.2 else []) z7)).3, Squares := IntKind.i64.wrap ((ix z9 (ix (if chkE { Lots := ls, Reserve := re, Next := nx : api_Entitlements } = (0 : Int) then usableS ls a.2 else []) z7)).4 - z8), Value := (ix z9 (ix (if chkE { Lots := ls, Reserve := re, Next := nx : api_Entitlements } = (0 : Int) then usableS ls a.2 else []) z7)).5, Used := (ix z9 (ix (if chkE { Lots := ls, Reserve := re, Next := nx : api_Entitlements } = (0 : Int) then usableS ls a.2 else []) z7)).6 : api_Lot }).length ≤ (80 : Nat) ∧ (1 : Int) ≤ nx ∧ nx ≤ (1073741824 : Int)) ∧ post (addS (z9.set (ix (if chkE { Lots := ls, Reserve := re, Next := nx : api_Entitlements } = (0 : Int) then usableS ls a.2 else []) z7).toNat { Number := (ix z9 (ix (if chkE { Lots := ls, Reserve := re, Next := nx : api_Entitlements } = (0 : Int) then usableS ls a.2 else []) z7)).1, Owner := (ix z9 (ix (if chkE { Lots := ls, Reserve := re, Next := nx : api_Entitlements } = (0 : Int) then usableS ls a.2 else []) z7)).2, User := (ix z9 (ix (if chkE { Lots := ls, Reserve := re, Next := nx : api_Entitlements } = (0 : Int) then usableS ls a.2 else []) z7)).3, Squares := IntKind.i64.wrap ((ix z9 (ix (if chkE { Lots := ls, Reserve := re, Next := nx : api_Entitlements } = (0 : Int) then usableS ls a.2 else []) z7)).4 - z8), Value := (ix z9 (ix (if chkE { Lots := ls, Reserve := re, Next := nx : api_Entitlements } = (0 : Int) then usableS ls a.2 else []) z7)).5, Used := (ix z9 (ix (if chkE { Lots := ls, Reserve := re, Next := nx : api_Entitlements } = (0 : Int) then usableS ls a.2 else []) z7)).6 : api_Lot }) re nx { Number := (ix z9 (ix (if chkE { Lots := ls, Reserve := re, Next := nx : api_Entitlements } = (0 : Int) then usableS ls a.2 else []) z7)).1, Owner := (ix z9 (ix (if chkE { Lots := ls, Reserve := re, Next := nx : api_Entitlements } = (0 : Int) then usableS ls a.2 else []) z7)).2, User := (ix z9 (ix (if chkE { Lots := ls, Reserve := re, Next := nx : api_Entitlements } = (0 : Int) then usableS ls a.2 else []) z7)).3, Squares := z8, Value := (ix z9 (ix (if chkE { Lots := ls, Reserve := re, Next := nx : api_Entitlements } = (0 : Int) then usableS ls a.2 else []) z7)).5, Used := a.8 : api_Lot }).1 (addS (z9.set (ix (if chkE { Lots := ls, Reserve := re, Next := nx : api_Entitlements } = (0 : Int) then usableS ls a.2 else []) z7).toNat { Number := (ix z9 (ix (if chkE { Lots := ls, Reserve := re, Next := nx : api_Entitlements } = (0 : Int) then usableS ls a.2 else []) z7)).1, Owner := (ix z9 (ix (if chkE { Lots := ls, Reserve := re, Next := nx : api_Entitlements } = (0 : Int) then usableS ls a.2 else []) z7)).2, User := (ix z9 (ix (if chkE { Lots := ls, Reserve := re, Next := nx : api_Entitlements } = (0 : Int) then usableS ls a.2 else []) z7)).3, Squares := IntKind.i64.wrap ((ix z9 (ix (if chkE { Lots := ls, Reserve := re, Next := nx : api_Entitlements } = (0 : Int) then usableS ls a.2 else []) z7)).4 - z8), Value := (ix z9 (ix (if chkE { Lots := ls, Reserve := re, Next := nx : api_Entitlements } = (0 : Int) then usableS ls a.2 else []) z7)).5, Used := (ix z9 (ix (if chkE { Lots := ls, Reserve := re, Next := nx : api_Entitlements } = (0 : Int) then usableS ls a.2 else []) z7)).6 : api_Lot }) re nx { Number := (ix z9 (ix (if chkE { Lots := ls, Reserve := re, Next := nx : api_Entitlements } = (0 : Int) then usableS ls a.2 else []) z7)).1, Owner := (ix z9 (ix (if chkE { Lots := ls, Reserve := re, Next := nx : api_Entitlements } = (0 : Int) then usableS ls a.2 else []) z7)).2, User := (ix z9 (ix (if chkE { Lots := ls, Reserve := re, Next := nx : api_Entitlements } = (0 : Int) then usableS ls a.2 else []) z7)).3, Squares := z8, Value := (ix z9 (ix (if chkE { Lots := ls, Reserve := re, Next := nx : api_Entitlements } = (0 : Int) then usableS ls a.2 else []) z7)).5, Used := a.8 : api_Lot }).2.1 (addS (z9.set (ix (if chkE { Lots := ls, Reserve := re, Next := nx : api_Entitlements } = (0 : Int) then usableS ls a.2 else []) z7).toNat { Number := (ix z9 (ix (if chkE { Lots := ls, Reserve := re, Next := nx : api_Entitlements } = (0 : Int) then usableS ls a.2 else []) z7)).1, Owner := (ix z9 (ix (if chkE { Lots := ls, Reserve := re, Next := nx : api_Entitlements } = (0 : Int) then usableS ls a.2 else []) z7)).2, User := (ix z9 (ix (if chkE { Lots := ls, Reserve := re, Next := nx : api_Entitlements } = (0 : Int) then usableS ls a.2 else []) z7)).3, Squares := IntKind.i64.wrap ((ix z9 (ix (if chkE { Lots := ls, Reserve := re, Next := nx : api_Entitlements } = (0 : Int) then usableS ls a.2 else []) z7)).4 - z8), Value := (ix z9 (ix (if chkE { Lots := ls, Reserve := re, Next := nx : api_Entitlements } = (0 : Int) then usableS ls a.2 else []) z7)).5, Used := (ix z9 (ix (if chkE { Lots := ls, Reserve := re, Next := nx : api_Entitlements } = (0 : Int) then usableS ls a.2 else []) z7)).6 : api_Lot }) re nx { Number := (ix z9 (ix (if chkE { Lots := ls, Reserve := re, Next := nx : api_Entitlements } = (0 : Int) then usableS ls a.2 else []) z7)).1, Owner := (ix z9 (ix (if chkE { Lots := ls, Reserve := re, Next := nx : api_Entitlements } = (0 : Int) then usableS ls a.2 else []) z7)).2, User := (ix z9 (ix (if chkE { Lots := ls, Reserve := re, Next := nx : api_Entitlements } = (0 : Int) then usableS ls a.2 else []) z7)).3, Squares := z8, Value := (ix z9 (ix (if chkE { Lots := ls, Reserve := re, Next := nx : api_Entitlements } = (0 : Int) then usableS ls a.2 else []) z7)).5, Used := a.8 : api_Lot }).2.2.1 (addS (z9.set (ix (if chkE { Lots := ls, Reserve := re, Next := nx : api_Entitlements } = (0 : Int) then usableS ls a.2 else []) z7).toNat { Number := (ix z9 (ix (if chkE { Lots := ls, Reserve := re, Next := nx : api_Entitlements } = (0 : Int) then usableS ls a.2 else []) z7)).1, Owner := (ix z9 (ix (if chkE { Lots := ls, Reserve := re, Next := nx : api_Entitlements } = (0 : Int) then usableS ls a.2 else []) z7)).2, User := (ix z9 (ix (if chkE { Lots := ls, Reserve := re, Next := nx : api_Entitlements } = (0 : Int) then usableS ls a.2 else []) z7)).3, Squares := IntKind.i64.wrap ((ix z9 (ix (if chkE { Lots := ls, Reserve := re, Next := nx : api_Entitlements } = (0 : Int) then usableS ls a.2 else []) z7)).4 - z8), Value := (ix z9 (ix (if chkE { Lots := ls, Reserve := re, Next := nx : api_Entitlements } = (0 : Int) then usableS ls a.2 else []) z7)).5, Used := (ix z9 (ix (if chkE { Lots := ls, Reserve := re, Next := nx : api_Entitlements } = (0 : Int) then usableS ls a.2 else []) z7)).6 : api_Lot }) re nx { Number := (ix z9 (ix (if chkE { Lots := ls, Reserve := re, Next := nx : api_Entitlements } = (0 : Int) then usableS ls a.2 else []) z7)).1, Owner := (ix z9 (ix (if chkE { Lots := ls, Reserve := re, Next := nx : api_Entitlements } = (0 : Int) then usableS ls a.2 else []) z7)).2, User := (ix z9 (ix (if chkE { Lots := ls, Reserve := re, Next := nx : api_Entitlements } = (0 : Int) then usableS ls a.2 else []) z7)).3, Squares := z8, Value := (ix z9 (ix (if chkE { Lots := ls, Reserve := re, Next := nx : api_Entitlements } = (0 : Int) then usableS ls a.2 else []) z7)).5, Used := a.8 : api_Lot }).2.2.2))) (J5 z9)) ((0 : Int), a.5, ls, PUnit.unit)))))) ((0 : Int), decide (a.8 < (0 : Int)) || decide ((100 : Int) < a.8), PUnit.unit)))
theorem ruse_w (ls : List (api_Lot)) (re : Int) (nx : Int) (a : api_Act) (post : dens (shT ruse_sp.rs []) → Prop) : ruse_W ls re nx a (fun y0 y1 y2 y3 => post (y0, y1, y2, y3, ())) = walk2 Try.prog ruse_C [radd_sp] (drawR Try.prog tau) 12 0 ruse_sp (ls, re, nx, a, ()) post := by kernel_rfl
theorem ruse_of (h : ∀ (ls : List (api_Lot)) (re : Int) (nx : Int) (a : api_Act) (post : List (api_Lot) → Int → Int → Int → Prop), ruse_P ls re nx a post → ruse_W ls re nx a post) : Spec2OK Try.prog ruse_sp := Spec2OK.of_walk2 (C := ruse_C) (L2 := [radd_sp]) (dr := drawR Try.prog tau) (n := 12) (fk := 0) (.cons rchk_ok (.cons rusab_ok (.cons rheld_ok .nil))) (.cons radd_ok .nil) (drawR_ok tau) fun x post hp => HoldW.of (ruse_w x.1 x.2.1 x.2.2.1 x.2.2.2.1 post) (h x.1 x.2.1 x.2.2.1 x.2.2.2.1 (fun y0 y1 y2 y3 => post (y0, y1, y2, y3, ())) hp)
theorem ruse_ok : Spec2OK Try.prog ruse_sp := ruse_of fun ls re nx a post hp => by
  obtain ⟨hc, hp⟩ := hp
  unfold ruse_W
  have hl := chkE_lots hc
  have hr := chkE_res hc
  obtain ⟨hl1, hl2⟩ := hl
  have hl1 : ls.length ≤ 80 := hl1
  have hl2 : ∀ l ∈ ls, LotOK l := hl2
  have hr : 1 ≤ nx ∧ nx ≤ 1073741824 ∧ 0 ≤ re ∧ re ≤ 1099511627776 ∧ sumL ls + re ≤ 1099511627776 := hr
  obtain ⟨us, hus⟩ : ∃ us, usableS ls a.2 = us := ⟨_, rfl⟩
  have hum : ∀ j ∈ us, 0 ≤ j ∧ j < ls.length := fun j hj => by rw [← hus] at hj; exact usableS_mem hj
  have hul : us.length ≤ 80 := by rw [← hus]; have := usableS_len (l := ls) (n := a.2); omega
  have hheld : (heldS ⟨ls, re, nx⟩ a.2).2 = useS a.2 ls := by unfold heldS; rw [if_pos hc]
  simp only [hc, if_true, hus, hheld]
  unfold useAct farmP at hp
  rw [hus] at hp
  refine ⟨fun hb => ?_, fun hb => ⟨hl1, ?_⟩⟩
  · rw [if_pos (by grind)] at hp; exact hp
  rw [if_neg (by grind)] at hp
  intro _
  refine LOOP.list (us) (fun k (s : Bool) => ((k : Int), s, ())) (fun u => (u.1.toNat)) (fun k r (s : Bool) => ((s = true ∨ ∃ i ∈ r, a.8 < (ix ls i).6) ↔ (a.8 < 0 ∨ 100 < a.8 ∨ ∃ i ∈ us, a.8 < (ix ls i).6))) (decide (a.8 < 0) || decide (100 < a.8)) rfl (by simp [or_assoc]) (fun k s h => by simp) ?_ ?_
  · intro rec k y r s hd hk hkl hG hrec
    have hx := ix_of hk
    have w1 : IntKind.i64.wrap ((k : Int) + 1) = k + 1 := wrap_in (by grind) (by grind)
    have hy := hum y (List.mem_of_getElem? hk)
    have hrec : rec ((k : Int) + 1) (s || decide (a.8 < (ix ls y).6)) := hrec (s || decide (a.8 < (ix ls y).6)) (by rw [← hG]; simp [or_assoc])
    show IFB _ _ _
    simp only [w1, hx]
    clear hG
    repeat' (first | (refine JOIN.mk ?_) | (refine IFB.mk (fun hb => ?_) (fun hb => ?_)) | (with_reducible refine And.intro ?_ ?_) | intro hh)
    all_goals (try simp only [Bool.or_eq_true, Bool.and_eq_true, Bool.not_eq_true', decide_eq_true_eq, decide_eq_false_iff_not, Bool.or_eq_false_iff, Bool.not_eq_false', gx_f] at *)
    all_goals first | exact Int.NonNeg.mk _ | grind (splits := 40) []
  · intro rec s hG
    have hG : s = true ↔ (a.8 < 0 ∨ 100 < a.8 ∨ ∃ i ∈ us, a.8 < (ix ls i).6) := by rw [← hG]; simp
    show IFB _ _ _
    refine ⟨fun h => absurd (of_decide_eq_true h) (by omega), fun _ => ?_⟩
    refine ⟨fun h => ?_, fun h => ?_⟩
    · rw [if_pos (hG.1 h)] at hp; exact hp
    rw [if_neg (fun q => by rw [hG.2 q] at h; cases h)] at hp
    clear hG
    refine ⟨fun h => ?_, fun h => ⟨trivial, ?_⟩⟩
    · rw [if_pos (by grind)] at hp; exact hp
    rw [if_neg (by grind)] at hp
    refine ⟨fun h => ?_, fun h => ?_⟩
    · rw [if_pos (of_decide_eq_true h)] at hp; exact hp
    rw [if_neg (of_decide_eq_false h)] at hp
    have hsq : 1 ≤ a.5 ∧ a.5 ≤ 268435456 := by grind
    refine JOIN.mk ?_
    intro _
    obtain ⟨R, hR⟩ : ∃ R, useL a.8 ls a.5 us = R := ⟨_, rfl⟩
    rw [hR] at hp
    refine LOOP.list (us) (fun k (s : Int × List api_Lot) => ((k : Int), s.1, s.2, ())) (fun u => (u.1.toNat)) (fun k r (s : Int × List api_Lot) => s.2.length = ls.length ∧ (∀ l ∈ s.2, 1 ≤ l.4 ∧ l.4 ≤ 268435456) ∧ 0 ≤ s.1 ∧ s.1 ≤ a.5 ∧ useL a.8 s.2 s.1 r = R) ((a.5, ls)) rfl (⟨rfl, fun l hl => by have := hl2 l hl; unfold LotOK at this; omega, by show 0 ≤ a.5; omega, Int.le_refl _, hR⟩) (fun k s h => by simp) ?_ ?_
    · intro rec k y r s hd hk hkl hG hrec
      have hx := ix_of hk
      have w1 : IntKind.i64.wrap ((k : Int) + 1) = k + 1 := wrap_in (by grind) (by grind)
      obtain ⟨left, zs⟩ := s
      obtain ⟨q1, q2, q3, q4, q5⟩ := hG
      have q1 : zs.length = ls.length := q1
      have q3 : 0 ≤ left := q3
      have q4 : left ≤ a.5 := q4
      have q5 : useL a.8 zs left (y :: r) = R := q5
      obtain ⟨hy1, hy2⟩ := hum y (List.mem_of_getElem? hk)
      obtain ⟨v, hv⟩ : ∃ v, ix zs y = v := ⟨_, rfl⟩
      have hvm : 1 ≤ v.4 ∧ v.4 ≤ 268435456 := by rw [← hv]; exact q2 _ (get_mem hy1 (by omega))
      have hset : ∀ u : api_Lot, ix (zs.set y.toNat u) y = u := fun u => ix_set hy1 (by omega)
      have hsl : ∀ u : api_Lot, (zs.set y.toNat u).length = ls.length := fun u => by rw [List.length_set]; exact q1
      unfold useL at q5
      rw [hv] at q5
      show IFB _ _ _
      simp only [w1, hx, hv, hset, hsl]
      refine ⟨fun _ => ⟨⟨by omega, by omega⟩, IFB.mk (fun h0 => ?_) (fun h0 => ⟨by omega, IFB.mk (fun h1 => ?_) (fun h1 => ?_)⟩)⟩, fun h => absurd (of_decide_eq_false h) (by omega)⟩
      · have h0 : left = 0 := of_decide_eq_true h0
        rw [if_pos h0] at q5
        rw [← q5] at hp; exact hp
      · have h0 : ¬ left = 0 := of_decide_eq_false h0
        have h1 : v.4 ≤ left := of_decide_eq_true h1
        rw [if_neg h0, if_pos h1] at q5
        have wl : IntKind.i64.wrap (left - v.4) = left - v.4 := wrap_in (by omega) (by omega)
        rw [wl]
        refine ⟨by omega, by omega, hrec (left - v.4, zs.set y.toNat { v with Used := a.8 }) ⟨hsl _, fun l hl => ?_, by show 0 ≤ left - v.4; omega, by show left - v.4 ≤ a.5; omega, q5⟩⟩
        rcases List.mem_or_eq_of_mem_set hl with h | h
        · exact q2 l h
        · rw [h]; exact hvm
      · have h0 : ¬ left = 0 := of_decide_eq_false h0
        have h1 : ¬ v.4 ≤ left := of_decide_eq_false h1
        rw [if_neg h0, if_neg h1] at q5
        have wl : IntKind.i64.wrap (v.4 - left) = v.4 - left := wrap_in (by omega) (by omega)
        simp only [wl]
        rw [← q5] at hp
        exact ⟨by omega, by omega, by omega, ⟨hl1, by omega, by omega⟩, hp⟩
    · intro rec s hG
      obtain ⟨left, zs⟩ := s
      obtain ⟨q1, q2, q3, q4, q5⟩ := hG
      have q5 : useL a.8 zs left [] = R := q5
      unfold useL at q5
      rw [← q5] at hp
      show IFB _ _ _
      exact ⟨fun h => absurd (of_decide_eq_true h) (by omega), fun _ => hp⟩
def ract_P (ls : List (api_Lot)) (re : Int) (nx : Int) (a : api_Act) (post : List (api_Lot) → Int → Int → Int → Prop) : Prop := (chkE ⟨ls, re, nx⟩ = 0) ∧ post ((actS ls re nx a).1) ((actS ls re nx a).2.1) ((actS ls re nx a).2.2.1) ((actS ls re nx a).2.2.2)
def ract_sp : Spec2 := ⟨43, [.agg [.own 45 (.st .api_Lot), .dat (.int .i64), .dat (.int .i64)], .dat (.st .api_Act)], .tup [.agg [.own 45 (.st .api_Lot), .dat (.int .i64), .dat (.int .i64)], .dat (.int .i64)], fun x post => ract_P (x.1 : List (api_Lot)) (x.2.1 : Int) (x.2.2.1 : Int) (x.2.2.2.1 : api_Act) (fun y0 y1 y2 y3 => post (y0, y1, y2, y3, ()))⟩
def ract_C : Ctx := ⟨tau, [rtake_sp, rfind_sp], lookJ [(0, 114, ⟨[], [(1, [.own 45 (.st .api_Lot), .dat (.int .i64), .dat (.int .i64)])], [215, 214, 216, 217, 218, 219, 11, 221, 222, 220, 225, 226, 227, 228, 238, 224, 229, 230, 231, 232, 233, 234, 235, 236, 237, 241, 242, 243, 244, 245, 246, 247, 248, 249, 250, 251, 252, 253, 240, 255, 256, 257, 258, 259, 260, 261, 262, 263, 264, 265, 171, 170, 178, 177, 179, 180, 181, 182, 186, 183, 184, 185, 188, 189, 190, 211, 207, 208, 209, 210, 193, 194, 10, 195, 196, 197, 198, 199, 200, 201, 202, 203, 204, 205, 206, 8, 191, 192, 212, 213, 112, 111, 113, 114, 115, 116, 117, 122, 123, 129, 118, 119, 120, 121, 124, 125, 126, 127, 128, 131, 132, 133, 169, 136, 7, 152, 151, 150, 149, 148, 147, 146, 145, 144, 143, 142, 141, 140, 139, 138, 137, 153, 154, 155, 156, 157, 158, 159, 160, 161, 162, 163, 164, 165, 166, 167, 168, 134, 135, 12, 13, 16, 15, 70, 71, 69, 78, 77, 79, 80, 81, 82, 6, 83, 84, 86, 87, 88, 89, 90, 91, 92, 93, 94, 95, 96, 97, 98, 100, 101, 102, 103, 104, 105, 106, 107, 108, 109, 110], [0], []⟩), (0, 81, ⟨[(191, .dat (.int .i64)), (8, .own 45 (.st .api_Lot))], [(1, [.rf 0, .dat (.int .i64), .dat (.int .i64)])], [192, 206, 205, 204, 203, 202, 201, 200, 199, 198, 197, 196, 195, 10, 194, 193, 210, 209, 208, 207, 211], [], []⟩), (0, 90, ⟨[(8, .own 45 (.st .api_Lot))], [(1, [.rf 0, .dat (.int .i64), .dat (.int .i64)])], [207, 208, 209, 210, 193, 194, 10, 195, 196, 197, 198, 199, 200, 201, 202, 203, 204, 205, 206], [4], []⟩), (0, 53, ⟨[(134, .dat (.int .i64))], [], [135, 168, 167, 166, 165, 164, 163, 162, 161, 160, 159, 158, 157, 156, 155, 154, 153, 137, 138, 139, 140, 141, 142, 143, 144, 145, 146, 147, 148, 149, 150, 151, 152, 7, 136, 169], [], [(0, 45, (.st .api_Lot))]⟩), (0, 64, ⟨[], [], [136, 7, 152, 151, 150, 149, 148, 147, 146, 145, 144, 143, 142, 141, 140, 139, 138, 137, 153, 154, 155, 156, 157, 158, 159, 160, 161, 162, 163, 164, 165, 166, 167, 168], [], [(0, 45, (.st .api_Lot))]⟩), (0, 60, ⟨[], [], [137, 138, 139, 140, 141, 142, 143, 144, 145, 146, 147, 148, 149, 150, 151, 152], [], [(0, 45, (.st .api_Lot))]⟩), (0, 28, ⟨[(69, .dat .bool)], [], [71, 70], [], []⟩)]⟩
def ract_W (ls : List (api_Lot)) (re : Int) (nx : Int) (a : api_Act) (post : List (api_Lot) → Int → Int → Int → Prop) : Prop := JOIN [(Ty.st Sn.api_Lot).sl, Ty.int IntKind.i64, Ty.int IntKind.i64] (fun (y1 : List api_Lot) (y2 y3 : Int) ↦ post y1 y2 y3 (0 : Int)) fun (J4 : List api_Lot → Int → Int → Prop) ↦ IFB (decide (a.1 = (1 : Int))) (IFB (!(decide ((1 : Int) ≤ a.3) && decide (a.3 ≤ (60 : Int)))) (post ls re nx (20 : Int)) (IFB (decide (a.5 < (1 : Int)) || decide ((268435456 : Int) < a.5) || decide (a.6 < (0 : Int)) || decide ((1048576 : Int) < a.6)) (post ls re nx (2 : Int)) (IFB (decide (re < a.5)) (post ls re nx (22 : Int)) ((ls.length ≤ (80 : Nat) ∧ (1 : Int) ≤ nx ∧ nx ≤ (1073741824 : Int)) ∧ post (addS ls (IntKind.i64.wrap (re - a.5)) nx { Number := (0 : Int), Owner := a.3, User := a.3, Squares := a.5, Value := a.6, Used := (-1 : Int) : api_Lot }).1 (addS ls (IntKind.i64.wrap (re - a.5)) nx { Number := (0 : Int), Owner := a.3, User := a.3, Squares := a.5, Value := a.6, Used := (-1 : Int) : api_Lot }).2.1 (addS ls (IntKind.i64.wrap (re - a.5)) nx { Number := (0 : Int), Owner := a.3, User := a.3, Squares := a.5, Value := a.6, Used := (-1 : Int) : api_Lot }).2.2.1 (addS ls (IntKind.i64.wrap (re - a.5)) nx { Number := (0 : Int), Owner := a.3, User := a.3, Squares := a.5, Value := a.6, Used := (-1 : Int) : api_Lot }).2.2.2)))) (JOIN [Ty.bool] (fun (y5 : Bool) ↦ IFB y5 ((ls.length ≤ (80 : Nat) ∧ (∀ (v6 : api_Lot), v6 ∈ ls → (1 : Int) ≤ v6.2 ∧ v6.2 ≤ (60 : Int) ∧ (1 : Int) ≤ v6.3 ∧ v6.3 ≤ (60 : Int) ∧ (1 : Int) ≤ v6.4 ∧ v6.4 ≤ (268435456 : Int) ∧ (0 : Int) ≤ v6.5 ∧ v6.5 ≤ (1048576 : Int) ∧ (-1 : Int) ≤ v6.6 ∧ v6.6 ≤ (100 : Int)) ∧ (0 : Int) ≤ re ∧ re ≤ (1099511627776 : Int) ∧ (1 : Int) ≤ nx ∧ nx ≤ (1073741824 : Int) ∧ (a.1 = (2 : Int) ∨ a.1 = (3 : Int))) ∧ post (moveS ls re nx { Kind := a.1, Farm := a.2, To := a.3, Lot := a.4, Squares := a.5, Value := a.6, Keep := a.7, Year := a.8 : api_Act }).1 (moveS ls re nx { Kind := a.1, Farm := a.2, To := a.3, Lot := a.4, Squares := a.5, Value := a.6, Keep := a.7, Year := a.8 : api_Act }).2.1 (moveS ls re nx { Kind := a.1, Farm := a.2, To := a.3, Lot := a.4, Squares := a.5, Value := a.6, Keep := a.7, Year := a.8 : api_Act }).2.2.1 (moveS ls re nx { Kind := a.1, Farm := a.2, To := a.3, Lot := a.4, Squares := a.5, Value := a.6, Keep := a.7, Year := a.8 : api_Act }).2.2.2) (IFB (decide (a.1 = (4 : Int))) (True ∧ IFB (decide (seekS a.4 (0 : Int) ls < (0 : Int))) (post ls re nx (19 : Int)) (((0 : Int) ≤ seekS a.4 (0 : Int) ls ∧ seekS a.4 (0 : Int) ls < (↑ls.length : Int)) ∧ ((0 : Int) ≤ seekS a.4 (0 : Int) ls ∧ seekS a.4 (0 : Int) ls < (↑ls.length : Int)) ∧ IFB (decide ((ix ls (seekS a.4 (0 : Int) ls)).2 = (ix ls (seekS a.4 (0 : Int) ls)).3)) (post ls re nx (22 : Int)) (((0 : Int) ≤ seekS a.4 (0 : Int) ls ∧ seekS a.4 (0 : Int) ls < (↑ls.length : Int)) ∧ ((0 : Int) ≤ seekS a.4 (0 : Int) ls ∧ seekS a.4 (0 : Int) ls < (↑ls.length : Int)) ∧ J4 (ls.set (seekS a.4 (0 : Int) ls).toNat { Number := (ix ls (seekS a.4 (0 : Int) ls)).1, Owner := (ix ls (seekS a.4 (0 : Int) ls)).2, User := (ix ls (seekS a.4 (0 : Int) ls)).2, Squares := (ix ls (seekS a.4 (0 : Int) ls)).4, Value := (ix ls (seekS a.4 (0 : Int) ls)).5, Used := (ix ls (seekS a.4 (0 : Int) ls)).6 : api_Lot }) re nx))) (IFB (decide (a.1 = (5 : Int))) (JOIN [Ty.bool] (fun (y7 : Bool) ↦ IFB (!(decide ((1 : Int) ≤ a.2) && decide (a.2 ≤ (60 : Int))) || !y7 || decide (a.2 = a.3)) (post ls re nx (20 : Int)) ((↑ls.length : Int) ≤ (9223372036854775807 : Int) → LOOP [Ty.int IntKind.i64, (Ty.st Sn.api_Lot).sl] (fun (rec8 : Int → List api_Lot → Prop) (z9 : Int) (z10 : List api_Lot) ↦ IFB (decide (z9 < (↑ls.length : Int))) (JOIN [(Ty.st Sn.api_Lot).sl] (fun (y11 : List api_Lot) ↦ rec8 (IntKind.i64.wrap (z9 + (1 : Int))) y11) fun (J12 : List api_Lot → Prop) ↦ JOIN [(Ty.st Sn.api_Lot).sl] (fun (y13 : List api_Lot) ↦ ((0 : Int) ≤ z9 ∧ z9 < (↑y13.length : Int)) ∧ IFB (decide ((ix y13 z9).3 = a.2)) (((0 : Int) ≤ z9 ∧ z9 < (↑y13.length : Int)) ∧ J12 (y13.set z9.toNat { Number := (ix y13 z9).1, Owner := (ix y13 z9).2, User := a.3, Squares := (ix y13 z9).4, Value := (ix y13 z9).5, Used := (ix y13 z9).6 : api_Lot })) (J12 y13)) fun (J14 : List api_Lot → Prop) ↦ ((0 : Int) ≤ z9 ∧ z9 < (↑z10.length : Int)) ∧ IFB (decide ((ix z10 z9).2 = a.2)) (((0 : Int) ≤ z9 ∧ z9 < (↑z10.length : Int)) ∧ J14 (z10.set z9.toNat { Number := (ix z10 z9).1, Owner := a.3, User := (ix z10 z9).3, Squares := (ix z10 z9).4, Value := (ix z10 z9).5, Used := (ix z10 z9).6 : api_Lot })) (J14 z10)) (J4 z10 re nx)) ((0 : Int), ls, PUnit.unit))) fun (J15 : Bool → Prop) ↦ IFB (gx false !(decide ((1 : Int) ≤ a.2) && decide (a.2 ≤ (60 : Int)))) (J15 (decide ((1 : Int) ≤ a.3) && decide (a.3 ≤ (60 : Int)))) (J15 false)) (IFB (decide (a.1 = (6 : Int))) (chkE { Lots := ls, Reserve := re, Next := nx : api_Entitlements } = (0 : Int) ∧ post (useAct ls re nx { Kind := a.1, Farm := a.2, To := a.3, Lot := a.4, Squares := a.5, Value := a.6, Keep := a.7, Year := a.8 : api_Act }).1 (useAct ls re nx { Kind := a.1, Farm := a.2, To := a.3, Lot := a.4, Squares := a.5, Value := a.6, Keep := a.7, Year := a.8 : api_Act }).2.1 (useAct ls re nx { Kind := a.1, Farm := a.2, To := a.3, Lot := a.4, Squares := a.5, Value := a.6, Keep := a.7, Year := a.8 : api_Act }).2.2.1 (useAct ls re nx { Kind := a.1, Farm := a.2, To := a.3, Lot := a.4, Squares := a.5, Value := a.6, Keep := a.7, Year := a.8 : api_Act }).2.2.2) (IFB (decide (a.1 = (7 : Int))) (IFB (decide (a.8 < (0 : Int)) || decide ((100 : Int) < a.8)) (post ls re nx (18 : Int)) ((↑ls.length : Int) ≤ (9223372036854775807 : Int) → LOOP [Ty.int IntKind.i64, (Ty.st Sn.api_Lot).sl, Ty.int IntKind.i64, Ty.int IntKind.i64] (fun (rec16 : Int → List api_Lot → Int → Int → Prop) (z17 : Int) (z18 : List api_Lot) (z19 z20 : Int) ↦ IFB (decide (z17 < (↑ls.length : Int))) (JOIN [(Ty.st Sn.api_Lot).sl, Ty.int IntKind.i64, Ty.int IntKind.i64] (fun (y21 : List api_Lot) (y22 y23 : Int) ↦ rec16 (IntKind.i64.wrap (z17 + (1 : Int))) y21 y22 y23) fun (J24 : List api_Lot → Int → Int → Prop) ↦ ((0 : Int) ≤ z17 ∧ z17 < (↑ls.length : Int)) ∧ IFB (decide ((ix ls z17).6 ≤ IntKind.i64.wrap (a.8 - (2 : Int)))) (J24 z18 (IntKind.i64.wrap (z19 + (ix ls z17).4)) z20) ((z18.length + [{ Number := (ix ls z17).1, Owner := (ix ls z17).2, User := (ix ls z17).3, Squares := (ix ls z17).4, Value := (ix ls z17).5, Used := (ix ls z17).6 : api_Lot }].length) * (48 : Nat) ≤ (140737488355328 : Nat) ∧ J24 (z18 ++ [{ Number := (ix ls z17).1, Owner := (ix ls z17).2, User := (ix ls z17).3, Squares := (ix ls z17).4, Value := (ix ls z17).5, Used := (ix ls z17).6 : api_Lot }]) z19 z20)) (J4 z18 z19 z20)) ((0 : Int), [], re, nx, PUnit.unit))) (IFB (decide (a.1 = (8 : Int))) (True ∧ IFB (decide (seekS a.4 (0 : Int) ls < (0 : Int))) (post ls re nx (19 : Int)) ((gx false (decide (a.5 < (1 : Int))) = true → (0 : Int) ≤ seekS a.4 (0 : Int) ls ∧ seekS a.4 (0 : Int) ls < (↑ls.length : Int)) ∧ IFB (decide (a.5 < (1 : Int)) || decide ((ix ls (seekS a.4 (0 : Int) ls)).4 < a.5)) (post ls re nx (2 : Int)) (((0 : Int) ≤ seekS a.4 (0 : Int) ls ∧ seekS a.4 (0 : Int) ls < (↑ls.length : Int)) ∧ ((0 : Int) ≤ seekS a.4 (0 : Int) ls ∧ seekS a.4 (0 : Int) ls < (↑ls.length : Int)) ∧ IFB (!decide ((ix ls (seekS a.4 (0 : Int) ls)).2 = (ix ls (seekS a.4 (0 : Int) ls)).3)) (post ls re nx (22 : Int)) ((ls.length ≤ (80 : Nat) ∧ (∀ (v25 : api_Lot), v25 ∈ ls → (1 : Int) ≤ v25.2 ∧ v25.2 ≤ (60 : Int) ∧ (1 : Int) ≤ v25.3 ∧ v25.3 ≤ (60 : Int) ∧ (1 : Int) ≤ v25.4 ∧ v25.4 ≤ (268435456 : Int) ∧ (0 : Int) ≤ v25.5 ∧ v25.5 ≤ (1048576 : Int) ∧ (-1 : Int) ≤ v25.6 ∧ v25.6 ≤ (100 : Int)) ∧ (0 : Int) ≤ seekS a.4 (0 : Int) ls ∧ seekS a.4 (0 : Int) ls < (↑ls.length : Int) ∧ (0 : Int) ≤ a.5 ∧ a.5 ≤ (ix ls (seekS a.4 (0 : Int) ls)).4) ∧ J4 (takeS ls (seekS a.4 (0 : Int) ls).toNat a.5) (IntKind.i64.wrap (re + a.5)) nx)))) (post ls re nx (14 : Int)))))))) fun (J26 : Bool → Prop) ↦ IFB (decide (a.1 = (2 : Int))) (J26 (decide (a.1 = (2 : Int)))) (J26 (decide (a.1 = (3 : Int)))))
theorem ract_w (ls : List (api_Lot)) (re : Int) (nx : Int) (a : api_Act) (post : dens (shT ract_sp.rs []) → Prop) : ract_W ls re nx a (fun y0 y1 y2 y3 => post (y0, y1, y2, y3, ())) = walk2 Try.prog ract_C [radd_sp, rmove_sp, ruse_sp] (drawR Try.prog tau) 12 0 ract_sp (ls, re, nx, a, ()) post := by kernel_rfl
theorem ract_of (h : ∀ (ls : List (api_Lot)) (re : Int) (nx : Int) (a : api_Act) (post : List (api_Lot) → Int → Int → Int → Prop), ract_P ls re nx a post → ract_W ls re nx a post) : Spec2OK Try.prog ract_sp := Spec2OK.of_walk2 (C := ract_C) (L2 := [radd_sp, rmove_sp, ruse_sp]) (dr := drawR Try.prog tau) (n := 12) (fk := 0) (.cons rtake_ok (.cons rfind_ok .nil)) (.cons radd_ok (.cons rmove_ok (.cons ruse_ok .nil))) (drawR_ok tau) fun x post hp => HoldW.of (ract_w x.1 x.2.1 x.2.2.1 x.2.2.2.1 post) (h x.1 x.2.1 x.2.2.1 x.2.2.2.1 (fun y0 y1 y2 y3 => post (y0, y1, y2, y3, ())) hp)
theorem ract_ok : Spec2OK Try.prog ract_sp := ract_of fun ls re nx a post hp => by
  obtain ⟨hc, hp⟩ := hp
  have hl := chkE_lots hc
  have hr := chkE_res hc
  obtain ⟨hl1, hl2⟩ := hl
  have hl1 : ls.length ≤ 80 := hl1
  have hl2 : ∀ l ∈ ls, LotOK l := hl2
  have hr : 1 ≤ nx ∧ nx ≤ 1073741824 ∧ 0 ≤ re ∧ re ≤ 1099511627776 ∧ sumL ls + re ≤ 1099511627776 := hr
  have hL : ∀ l ∈ ls, 1 ≤ l.4 ∧ l.4 ≤ 268435456 := fun l h => by have := hl2 l h; unfold LotOK at this; omega
  obtain ⟨i, hi⟩ : ∃ i, seekS a.4 0 ls = i := ⟨_, rfl⟩
  have hs := seekS_spec (n := a.4) (l := ls) (k := 0) (by omega)
  unfold ract_W
  refine JOIN.mk ?_
  unfold actS farmP at hp
  simp only [hi] at hp hs ⊢
  have w1 : 1 ≤ a.5 → a.5 ≤ 268435456 → IntKind.i64.wrap (re - a.5) = re - a.5 ∧ IntKind.i64.wrap (re + a.5) = re + a.5 := fun h1 h2 => ⟨wrap_in (by omega) (by omega), wrap_in (by omega) (by omega)⟩
  refine IFB.mk (fun h1 => ?_) (fun h1 => ?_)
  · have h1 : a.1 = 1 := of_decide_eq_true h1
    simp only [h1, if_true] at hp
    clear hl2 hL hs
    repeat' (first | (refine JOIN.mk ?_) | (refine IFB.mk (fun hb => ?_) (fun hb => ?_)) | (with_reducible refine And.intro ?_ ?_) | intro hh)
    all_goals grind (splits := 20)
  have h1 : ¬ a.1 = 1 := of_decide_eq_false h1
  refine JOIN.mk ?_
  have hmove : a.1 = 2 ∨ a.1 = 3 → (ls.length ≤ (80 : Nat) ∧ (∀ (v6 : api_Lot), v6 ∈ ls → LotOK v6) ∧ (0 : Int) ≤ re ∧ re ≤ (1099511627776 : Int) ∧ (1 : Int) ≤ nx ∧ nx ≤ (1073741824 : Int) ∧ (a.1 = 2 ∨ a.1 = 3)) ∧ post (moveS ls re nx a).1 (moveS ls re nx a).2.1 (moveS ls re nx a).2.2.1 (moveS ls re nx a).2.2.2 := fun h => by
    rw [if_neg h1, if_pos h] at hp
    exact ⟨⟨hl1, hl2, by omega, by omega, by omega, by omega, h⟩, hp⟩
  refine IFB.mk (fun h2 => ?_) (fun h2 => ?_)
  · exact IFB.mk (fun h => hmove (.inl (of_decide_eq_true h))) (fun h => by rw [h2] at h; cases h)
  have h2 : ¬ a.1 = 2 := of_decide_eq_false h2
  refine IFB.mk (fun h3 => hmove (.inr (of_decide_eq_true h3))) (fun h3 => ?_)
  have h3 : ¬ a.1 = 3 := of_decide_eq_false h3
  clear hmove
  rw [if_neg h1, if_neg (by omega)] at hp
  refine IFB.mk (fun h4 => ?_) (fun h4 => ?_)
  · rw [if_pos (of_decide_eq_true h4)] at hp
    clear hl2 hL w1
    repeat' (first | (refine JOIN.mk ?_) | (refine IFB.mk (fun hb => ?_) (fun hb => ?_)) | (with_reducible refine And.intro ?_ ?_) | intro hh)
    all_goals grind (splits := 20)
  rw [if_neg (of_decide_eq_false h4)] at hp
  refine IFB.mk (fun h5 => ?_) (fun h5 => ?_)
  · rw [if_pos (of_decide_eq_true h5)] at hp
    refine JOIN.mk ?_
    have go : ∀ y7 : Bool, y7 = decide (1 ≤ a.3 ∧ a.3 ≤ 60) ∨ ¬ (1 ≤ a.2 ∧ a.2 ≤ 60) → IFB (!(decide ((1 : Int) ≤ a.2) && decide (a.2 ≤ (60 : Int))) || !y7 || decide (a.2 = a.3)) (post ls re nx (20 : Int)) ((↑ls.length : Int) ≤ (9223372036854775807 : Int) → LOOP [Ty.int IntKind.i64, (Ty.st Sn.api_Lot).sl] (fun (rec8 : Int → List api_Lot → Prop) (z9 : Int) (z10 : List api_Lot) ↦ IFB (decide (z9 < (↑ls.length : Int))) (JOIN [(Ty.st Sn.api_Lot).sl] (fun (y11 : List api_Lot) ↦ rec8 (IntKind.i64.wrap (z9 + (1 : Int))) y11) fun (J12 : List api_Lot → Prop) ↦ JOIN [(Ty.st Sn.api_Lot).sl] (fun (y13 : List api_Lot) ↦ ((0 : Int) ≤ z9 ∧ z9 < (↑y13.length : Int)) ∧ IFB (decide ((ix y13 z9).3 = a.2)) (((0 : Int) ≤ z9 ∧ z9 < (↑y13.length : Int)) ∧ J12 (y13.set z9.toNat { Number := (ix y13 z9).1, Owner := (ix y13 z9).2, User := a.3, Squares := (ix y13 z9).4, Value := (ix y13 z9).5, Used := (ix y13 z9).6 : api_Lot })) (J12 y13)) fun (J14 : List api_Lot → Prop) ↦ ((0 : Int) ≤ z9 ∧ z9 < (↑z10.length : Int)) ∧ IFB (decide ((ix z10 z9).2 = a.2)) (((0 : Int) ≤ z9 ∧ z9 < (↑z10.length : Int)) ∧ J14 (z10.set z9.toNat { Number := (ix z10 z9).1, Owner := a.3, User := (ix z10 z9).3, Squares := (ix z10 z9).4, Value := (ix z10 z9).5, Used := (ix z10 z9).6 : api_Lot })) (J14 z10)) (post z10 re nx (0 : Int))) ((0 : Int), ls, PUnit.unit)) := by
      intro y7 hy7
      refine ⟨fun hb => ?_, fun hb => ?_⟩
      · rw [if_pos (by grind)] at hp; exact hp
      rw [if_neg (by grind)] at hp
      intro _
      refine LOOP.list (ls) (fun k (s : List api_Lot) => ((k : Int), s, ())) (fun u => (u.1.toNat)) (fun k r (s : List api_Lot) => s = (ls.take k).map (heirS a.2 a.3) ++ ls.drop k) (ls) rfl (by simp) (fun k s h => by simp) ?_ ?_
      · intro rec k y r s hd hk hkl hG hrec
        have hx := ix_of hk
        have w1 : IntKind.i64.wrap ((k : Int) + 1) = k + 1 := wrap_in (by grind) (by grind)
        subst hG
        have hrec : rec ((k : Int) + 1) ((ls.take (k + 1)).map (heirS a.2 a.3) ++ ls.drop (k + 1)) := hrec _ rfl
        have hat : ix ((ls.take k).map (heirS a.2 a.3) ++ ls.drop k) (k : Int) = y := map_at hk
        have hlen := map_len (l := ls) (f := heirS a.2 a.3) (k := k)
        rw [← map_step hk] at hrec
        obtain ⟨zs, hz⟩ : ∃ zs, (ls.take k).map (heirS a.2 a.3) ++ ls.drop k = zs := ⟨_, rfl⟩
        simp only [hz] at hrec hat hlen ⊢
        have hat2 : ∀ u : api_Lot, ix (zs.set k u) (k : Int) = u := fun u => by have := ix_set (l := zs) (i := (k : Int)) (v := u) (by omega) (by omega); simpa using this
        have hss : ∀ u v : api_Lot, (zs.set k u).set k v = zs.set k v := fun u v => by simp
        have hsl : ∀ u : api_Lot, (zs.set k u).length = ls.length := fun u => by rw [List.length_set]; exact hlen
        have hself : zs.set k y = zs := by
          apply List.ext_getElem?
          intro q
          rw [List.getElem?_set]
          split
          · rename_i e
            subst e
            rw [if_pos (by omega)]
            have := ix_get (l := zs) (i := (k : Int)) ⟨by omega, by omega⟩
            rw [hat] at this
            simpa using this.symm
          · rfl
        show IFB _ _ _
        simp only [w1, hat, Int.toNat_natCast, hlen]
        have e1 : y.3 = a.2 → y.2 = a.2 → zs.set k { Number := y.1, Owner := a.3, User := a.3, Squares := y.4, Value := y.5, Used := y.6 : api_Lot } = zs.set k (heirS a.2 a.3 y) := fun q1 q2 => by unfold heirS; rw [if_pos q1, if_pos q2]
        have e2 : y.3 = a.2 → y.2 ≠ a.2 → zs.set k { Number := y.1, Owner := y.2, User := a.3, Squares := y.4, Value := y.5, Used := y.6 : api_Lot } = zs.set k (heirS a.2 a.3 y) := fun q1 q2 => by unfold heirS; rw [if_pos q1, if_neg q2]
        have e3 : y.3 ≠ a.2 → y.2 = a.2 → zs.set k { Number := y.1, Owner := a.3, User := y.3, Squares := y.4, Value := y.5, Used := y.6 : api_Lot } = zs.set k (heirS a.2 a.3 y) := fun q1 q2 => by unfold heirS; rw [if_neg q1, if_pos q2]
        have e4 : y.3 ≠ a.2 → y.2 ≠ a.2 → zs = zs.set k (heirS a.2 a.3 y) := fun q1 q2 => by unfold heirS; rw [if_neg q1, if_neg q2]; exact hself.symm
        refine ⟨fun _ => JOIN.mk (JOIN.mk ⟨by omega, IFB.mk (fun ho => ⟨by omega, ?_⟩) (fun ho => ?_)⟩), fun h => absurd (of_decide_eq_false h) (by omega)⟩
        · have ho : y.2 = a.2 := of_decide_eq_true ho
          simp only [hat2, hsl, hss]
          refine ⟨by omega, IFB.mk (fun hu => ⟨by omega, ?_⟩) (fun hu => ?_)⟩
          · rw [e1 (of_decide_eq_true hu) ho]; exact hrec
          · rw [e3 (of_decide_eq_false hu) ho]; exact hrec
        · have ho : ¬ y.2 = a.2 := of_decide_eq_false ho
          simp only [hat, hlen]
          refine ⟨by omega, IFB.mk (fun hu => ⟨by omega, ?_⟩) (fun hu => ?_)⟩
          · rw [e2 (of_decide_eq_true hu) ho]; exact hrec
          · rw [e4 (of_decide_eq_false hu) ho]; exact hrec
      · intro rec s hG
        have hG : s = ls.map (heirS a.2 a.3) := by rw [hG]; simp
        rw [← hG] at hp
        show IFB _ _ _
        exact ⟨fun h => absurd (of_decide_eq_true h) (by omega), fun _ => hp⟩
    refine IFB.mk (fun hb => go _ (.inl (by grind))) (fun hb => go _ (.inr (by rw [gx_f] at hb; simp at hb; omega)))
  rw [if_neg (of_decide_eq_false h5)] at hp
  refine IFB.mk (fun h6 => ?_) (fun h6 => ?_)
  · rw [if_pos (of_decide_eq_true h6)] at hp
    exact ⟨hc, hp⟩
  rw [if_neg (of_decide_eq_false h6)] at hp
  refine IFB.mk (fun h7 => ?_) (fun h7 => ?_)
  · rw [if_pos (of_decide_eq_true h7)] at hp
    refine IFB.mk (fun hb => ?_) (fun hb => ?_)
    · rw [if_pos (by grind)] at hp; exact hp
    rw [if_neg (by grind)] at hp
    have wy : IntKind.i64.wrap (a.8 - 2) = a.8 - 2 := wrap_in (by grind) (by grind)
    intro _
    refine LOOP.list (ls) (fun k (s : List api_Lot × Int) => ((k : Int), s.1, s.2, nx, ())) (fun u => (u.1.toNat)) (fun k r (s : List api_Lot × Int) => s.1 ++ lapseS a.8 r = lapseS a.8 ls ∧ s.2 + lapseN a.8 r = re + lapseN a.8 ls ∧ s.1.length ≤ k ∧ (∀ x ∈ r, 1 ≤ x.4 ∧ x.4 ≤ 268435456) ∧ 0 ≤ s.2) (([], re)) rfl (⟨rfl, rfl, Nat.le_refl _, hL, by show 0 ≤ re; omega⟩) (fun k s h => by simp) ?_ ?_
    · intro rec k y r s hd hk hkl hG hrec
      have hx := ix_of hk
      have w1 : IntKind.i64.wrap ((k : Int) + 1) = k + 1 := wrap_in (by grind) (by grind)
      obtain ⟨zs, n⟩ := s
      obtain ⟨q1, q2, q3, q4, q5⟩ := hG
      have q1 : zs ++ lapseS a.8 (y :: r) = lapseS a.8 ls := q1
      have q2 : n + lapseN a.8 (y :: r) = re + lapseN a.8 ls := q2
      have q3 : zs.length ≤ k := q3
      have q5 : 0 ≤ n := q5
      have hy := q4 y (by simp)
      have q4' : ∀ x ∈ r, 1 ≤ x.4 ∧ x.4 ≤ 268435456 := fun x hx => q4 x (by simp [hx])
      have b1 := lapseN_le (y := a.8) hL
      have b2 := lapseN_le (y := a.8) q4'
      have b3 := lapseN_le (y := a.8) q4
      have hkk : k < 80 := by omega
      have eS : lapseS a.8 (y :: r) = if y.6 ≤ a.8 - 2 then lapseS a.8 r else y :: lapseS a.8 r := rfl
      have eN : lapseN a.8 (y :: r) = if y.6 ≤ a.8 - 2 then y.4 + lapseN a.8 r else lapseN a.8 r := rfl
      have wn : IntKind.i64.wrap (n + y.4) = n + y.4 := wrap_in (by omega) (by omega)
      show IFB _ _ _
      simp only [w1, hx, wy, wn]
      refine ⟨fun _ => JOIN.mk ⟨by omega, IFB.mk (fun hb => ?_) (fun hb => ⟨by simp; omega, ?_⟩)⟩, fun h => absurd (of_decide_eq_false h) (by omega)⟩
      · have hb : y.6 ≤ a.8 - 2 := of_decide_eq_true hb
        rw [eS, if_pos hb] at q1
        rw [eN, if_pos hb] at q2
        exact hrec (zs, n + y.4) ⟨q1, by show n + y.4 + _ = _; rw [← q2]; exact Int.add_assoc _ _ _, by show zs.length ≤ k + 1; omega, q4', by show 0 ≤ n + y.4; omega⟩
      · have hb : ¬ y.6 ≤ a.8 - 2 := of_decide_eq_false hb
        rw [eS, if_neg hb] at q1
        rw [eN, if_neg hb] at q2
        exact hrec (zs ++ [y], n) ⟨by rw [← q1]; exact List.append_assoc zs [y] _, q2, by show (zs ++ [y]).length ≤ k + 1; rw [List.length_append]; exact Nat.succ_le_succ q3, q4', q5⟩
    · intro rec s hG
      obtain ⟨zs, n⟩ := s
      obtain ⟨q1, q2, q3, q4, q5⟩ := hG
      have q1 : zs = lapseS a.8 ls := by simpa [lapseS] using q1
      have q2 : n = re + lapseN a.8 ls := by simpa [lapseN] using q2
      rw [← q1, ← q2] at hp
      show IFB _ _ _
      exact ⟨fun h => absurd (of_decide_eq_true h) (by omega), fun _ => hp⟩
  rw [if_neg (of_decide_eq_false h7)] at hp
  have hl2' : ∀ v25 : api_Lot, v25 ∈ ls → LotOK v25 := hl2
  unfold LotOK at hl2
  have hgm : 0 ≤ i → i < ls.length → ix ls i ∈ ls := fun h h' => get_mem h h'
  refine IFB.mk (fun h8 => ?_) (fun h8 => ?_)
  · rw [if_pos (of_decide_eq_true h8)] at hp
    refine ⟨trivial, IFB.mk (fun hb => ?_) (fun hb => ?_)⟩
    · rw [if_pos (of_decide_eq_true hb)] at hp; exact hp
    have hb : ¬ i < 0 := of_decide_eq_false hb
    have hir : 0 ≤ i ∧ i < ls.length := by omega
    have hli := hL _ (hgm hir.1 hir.2)
    rw [if_neg hb] at hp
    refine ⟨fun _ => hir, IFB.mk (fun hb2 => ?_) (fun hb2 => ?_)⟩
    · rw [if_pos (by grind)] at hp; exact hp
    rw [if_neg (by grind)] at hp
    have hsq : 1 ≤ a.5 ∧ a.5 ≤ (ix ls i).4 := by grind
    obtain ⟨_, e2⟩ := w1 hsq.1 (by omega)
    refine ⟨hir, hir, IFB.mk (fun hb3 => ?_) (fun hb3 => ?_)⟩
    · rw [if_pos (by grind)] at hp; exact hp
    rw [if_neg (by grind)] at hp
    simp only [e2]
    exact ⟨⟨hl1, hl2', hir.1, hir.2, by omega, hsq.2⟩, hp⟩
  · rw [if_neg (of_decide_eq_false h8)] at hp
    exact hp

def rapply_P (x : api_Entitlements) (a : api_Act) (post : api_Entitlements → Int → Prop) : Prop := (x.Lots.length ≤ 1000) ∧ post ((applyS x a).1) ((applyS x a).2)
def rapply_sp : Spec := ⟨19, false, false, [.st .api_Entitlements, .st .api_Act], .tup [.dat (.st .api_Entitlements), .dat (.int .i64)], fun x post => rapply_P (x.1 : api_Entitlements) (x.2.1 : api_Act) (fun y0 y1 => post (y0, y1, ()))⟩
def rapply_C : Ctx := ⟨tau, [rchk_sp], lookJ []⟩
def rapply_W (x : api_Entitlements) (a : api_Act) (post : api_Entitlements → Int → Prop) : Prop := True ∧ IFB (!decide (chkE { Lots := x.1, Reserve := x.2, Next := x.3 : api_Entitlements } = (0 : Int))) (((0 : Nat) + x.1.length) * (48 : Nat) ≤ (140737488355328 : Nat) ∧ post { Lots := [] ++ x.1, Reserve := x.2, Next := x.3 : api_Entitlements } (chkE { Lots := x.1, Reserve := x.2, Next := x.3 : api_Entitlements })) ((((0 : Nat) + x.1.length) * (48 : Nat) ≤ (140737488355328 : Nat) ∧ (chkE { Lots := [] ++ x.1, Reserve := x.2, Next := x.3 : api_Entitlements } = (0 : Int) ∧ IFB (!decide ((actS ([] ++ x.1) x.2 x.3 { Kind := a.1, Farm := a.2, To := a.3, Lot := a.4, Squares := a.5, Value := a.6, Keep := a.7, Year := a.8 : api_Act }).2.2.2 = (0 : Int))) (((0 : Nat) + x.1.length) * (48 : Nat) ≤ (140737488355328 : Nat) ∧ post { Lots := [] ++ x.1, Reserve := x.2, Next := x.3 : api_Entitlements } (actS ([] ++ x.1) x.2 x.3 { Kind := a.1, Farm := a.2, To := a.3, Lot := a.4, Squares := a.5, Value := a.6, Keep := a.7, Year := a.8 : api_Act }).2.2.2) (post { Lots := (actS ([] ++ x.1) x.2 x.3 { Kind := a.1, Farm := a.2, To := a.3, Lot := a.4, Squares := a.5, Value := a.6, Keep := a.7, Year := a.8 : api_Act }).1, Reserve := (actS ([] ++ x.1) x.2 x.3 { Kind := a.1, Farm := a.2, To := a.3, Lot := a.4, Squares := a.5, Value := a.6, Keep := a.7, Year := a.8 : api_Act }).2.1, Next := (actS ([] ++ x.1) x.2 x.3 { Kind := a.1, Farm := a.2, To := a.3, Lot := a.4, Squares := a.5, Value := a.6, Keep := a.7, Year := a.8 : api_Act }).2.2.1 : api_Entitlements } (0 : Int))) ∧ chkE { Lots := [] ++ x.1, Reserve := x.2, Next := x.3 : api_Entitlements } = (0 : Int) ∧ IFB (!decide ((actS ([] ++ x.1) x.2 x.3 { Kind := a.1, Farm := a.2, To := a.3, Lot := a.4, Squares := a.5, Value := a.6, Keep := a.7, Year := a.8 : api_Act }).2.2.2 = (0 : Int))) (((0 : Nat) + x.1.length) * (48 : Nat) ≤ (140737488355328 : Nat) ∧ post { Lots := [] ++ x.1, Reserve := x.2, Next := x.3 : api_Entitlements } (actS ([] ++ x.1) x.2 x.3 { Kind := a.1, Farm := a.2, To := a.3, Lot := a.4, Squares := a.5, Value := a.6, Keep := a.7, Year := a.8 : api_Act }).2.2.2) (post { Lots := (actS ([] ++ x.1) x.2 x.3 { Kind := a.1, Farm := a.2, To := a.3, Lot := a.4, Squares := a.5, Value := a.6, Keep := a.7, Year := a.8 : api_Act }).1, Reserve := (actS ([] ++ x.1) x.2 x.3 { Kind := a.1, Farm := a.2, To := a.3, Lot := a.4, Squares := a.5, Value := a.6, Keep := a.7, Year := a.8 : api_Act }).2.1, Next := (actS ([] ++ x.1) x.2 x.3 { Kind := a.1, Farm := a.2, To := a.3, Lot := a.4, Squares := a.5, Value := a.6, Keep := a.7, Year := a.8 : api_Act }).2.2.1 : api_Entitlements } (0 : Int))) ∧ ((0 : Nat) + x.1.length) * (48 : Nat) ≤ (140737488355328 : Nat) ∧ chkE { Lots := [] ++ x.1, Reserve := x.2, Next := x.3 : api_Entitlements } = (0 : Int) ∧ IFB (!decide ((actS ([] ++ x.1) x.2 x.3 { Kind := a.1, Farm := a.2, To := a.3, Lot := a.4, Squares := a.5, Value := a.6, Keep := a.7, Year := a.8 : api_Act }).2.2.2 = (0 : Int))) (((0 : Nat) + x.1.length) * (48 : Nat) ≤ (140737488355328 : Nat) ∧ post { Lots := [] ++ x.1, Reserve := x.2, Next := x.3 : api_Entitlements } (actS ([] ++ x.1) x.2 x.3 { Kind := a.1, Farm := a.2, To := a.3, Lot := a.4, Squares := a.5, Value := a.6, Keep := a.7, Year := a.8 : api_Act }).2.2.2) (post { Lots := (actS ([] ++ x.1) x.2 x.3 { Kind := a.1, Farm := a.2, To := a.3, Lot := a.4, Squares := a.5, Value := a.6, Keep := a.7, Year := a.8 : api_Act }).1, Reserve := (actS ([] ++ x.1) x.2 x.3 { Kind := a.1, Farm := a.2, To := a.3, Lot := a.4, Squares := a.5, Value := a.6, Keep := a.7, Year := a.8 : api_Act }).2.1, Next := (actS ([] ++ x.1) x.2 x.3 { Kind := a.1, Farm := a.2, To := a.3, Lot := a.4, Squares := a.5, Value := a.6, Keep := a.7, Year := a.8 : api_Act }).2.2.1 : api_Entitlements } (0 : Int)))
theorem rapply_w (x : api_Entitlements) (a : api_Act) (post : dens (shT rapply_sp.rs []) → Prop) : rapply_W x a (fun y0 y1 => post (y0, y1, ())) = walkG (callF2 Try.prog rapply_C [ract_sp] (drawR Try.prog tau) 12 0) 19 false [tv (.st .api_Entitlements) x, tv (.st .api_Act) a] rapply_sp.rs post := by kernel_rfl
theorem rapply_of (h : ∀ (x : api_Entitlements) (a : api_Act) (post : api_Entitlements → Int → Prop), rapply_P x a post → rapply_W x a post) : SpecOK Try.prog rapply_sp := SpecOK.of_walkG2 (C := rapply_C) (L2 := [ract_sp]) (dr := drawR Try.prog tau) (n := 12) (fk := 0) (.cons rchk_ok .nil) (.cons ract_ok .nil) (drawR_ok tau) fun x post hp => HoldW.of (rapply_w x.1 x.2.1 post) (h x.1 x.2.1 (fun y0 y1 => post (y0, y1, ())) hp)
theorem rapply_ok : SpecOK Try.prog rapply_sp := rapply_of fun x a post hp => by
  obtain ⟨hl, hp⟩ := hp
  have hsz : (0 + x.1.length) * 48 ≤ 140737488355328 := by omega
  obtain ⟨e, he⟩ : ∃ e, chkE x = e := ⟨_, rfl⟩
  obtain ⟨R, hR⟩ : ∃ R, actS x.1 x.2 x.3 a = R := ⟨_, rfl⟩
  unfold applyS at hp
  rw [he, hR] at hp
  have he1 : chkE ⟨[] ++ x.1, x.2, x.3⟩ = e := he
  have he2 : chkE ⟨x.1, x.2, x.3⟩ = e := he
  have hR1 : actS ([] ++ x.1) x.2 x.3 a = R := hR
  have hR2 : actS ([] ++ x.1) x.2 x.3 ⟨a.1, a.2, a.3, a.4, a.5, a.6, a.7, a.8⟩ = R := hR
  have main : e = 0 → IFB (!decide (R.2.2.2 = (0 : Int))) (((0 : Nat) + x.1.length) * (48 : Nat) ≤ (140737488355328 : Nat) ∧ post x R.2.2.2) (post ⟨R.1, R.2.1, R.2.2.1⟩ (0 : Int)) := fun h => by
    rw [if_neg (by omega)] at hp
    refine IFB.mk (fun hb => ⟨hsz, ?_⟩) (fun hb => ?_)
    · rw [if_pos (by simpa using hb)] at hp; exact hp
    · rw [if_neg (by simpa using hb)] at hp; exact hp
  unfold rapply_W
  simp only [he1, he2, hR2]
  refine ⟨trivial, IFB.mk (fun hb => ⟨hsz, ?_⟩) (fun hb => ?_)⟩
  · rw [if_pos (by simpa using hb)] at hp; exact hp
  have h0 : e = 0 := by simpa using hb
  exact ⟨⟨hsz, ⟨h0, main h0⟩, h0, main h0⟩, hsz, h0, main h0⟩

end RE
end Go.Proofs.Ytpnmiieohdkenaa
set_option maxRecDepth 100000
set_option linter.unusedVariables false
namespace Go.Proofs.Ytpnmiieohdkenaa
open Go.RowKit
namespace RE
open PL
def sdel_P (ls : List (api_Lot)) (i : Int) (j : Int) (post : List (api_Lot) → Prop) : Prop := (0 ≤ i ∧ i ≤ j ∧ j ≤ ls.length ∧ ls.length ≤ 1000) ∧ post (ls.take i.toNat ++ ls.drop j.toNat)
def sdel_sp : Spec2 := ⟨78, [.own 45 (.st .api_Lot), .dat (.int .i64), .dat (.int .i64)], .own 45 (.st .api_Lot), fun x post => sdel_P (x.1 : List (api_Lot)) (x.2.1 : Int) (x.2.2.1 : Int) (fun y0 => post (y0, ()))⟩
def sdel_C : Ctx := ⟨tau, [], lookJ []⟩
def sdel_W (ls : List (api_Lot)) (i : Int) (j : Int) (post : List (api_Lot) → Prop) : Prop := (↑ls.length : Int) ≤ (9223372036854775807 : Int) → ((0 : Int) ≤ i ∧ i ≤ j ∧ j ≤ (↑ls.length : Int) ∧ (↑ls.length : Int) ≤ (↑ls.length : Int)) ∧ IFB (decide (i = j)) (post ls) ((↑ls.length : Int) ≤ (9223372036854775807 : Int) → (Int.NonNeg (0 : Int) ∧ (0 : Int) ≤ i ∧ i ≤ (↑ls.length : Int)) ∧ ((0 : Int) ≤ j ∧ j ≤ (↑ls.length : Int) ∧ (↑ls.length : Int) ≤ (↑ls.length : Int)) ∧ ((0 : Int) = (0 : Int) ∧ i ≤ j) ∧ ((0 : Int) ≤ (0 : Int) ∧ (0 : Int) ≤ i + ((↑ls.length : Int) - j) → ((0 : Int) = (0 : Int) ∧ (0 : Int) ≤ i + ((↑ls.length : Int) - j) - (0 : Int) ∧ i + ((↑ls.length : Int) - j) - (0 : Int) ≤ (↑ls.length : Int) ∧ (↑ls.length : Int) ≤ (↑(List.take i.toNat ls ++ (sub ls j (↑ls.length : Int) ++ List.drop (i.toNat + ((↑ls.length : Int).toNat - j.toNat)) ls)).length : Int)) ∧ post (List.take (i + ((↑ls.length : Int) - j)).toNat (List.take (i + ((↑ls.length : Int) - j) - (0 : Int)).toNat (List.take i.toNat ls ++ (sub ls j (↑ls.length : Int) ++ List.drop (i.toNat + ((↑ls.length : Int).toNat - j.toNat)) ls)) ++ (List.replicate ((↑ls.length : Int).toNat - (i + ((↑ls.length : Int) - j) - (0 : Int)).toNat) { Number := (0 : Int), Owner := (0 : Int), User := (0 : Int), Squares := (0 : Int), Value := (0 : Int), Used := (0 : Int) : api_Lot } ++ List.drop (↑ls.length : Int).toNat (List.take i.toNat ls ++ (sub ls j (↑ls.length : Int) ++ List.drop (i.toNat + ((↑ls.length : Int).toNat - j.toNat)) ls)))))))
theorem sdel_w (ls : List (api_Lot)) (i : Int) (j : Int) (post : dens (shT sdel_sp.rs []) → Prop) : sdel_W ls i j (fun y0 => post (y0, ())) = walk2 Try.prog sdel_C [] (drawR Try.prog tau) 10 0 sdel_sp (ls, i, j, ()) post := by kernel_rfl
theorem sdel_of (h : ∀ (ls : List (api_Lot)) (i : Int) (j : Int) (post : List (api_Lot) → Prop), sdel_P ls i j post → sdel_W ls i j post) : Spec2OK Try.prog sdel_sp := Spec2OK.of_walk2 (C := sdel_C) (L2 := []) (dr := drawR Try.prog tau) (n := 10) (fk := 0) .nil .nil (drawR_ok tau) fun x post hp => HoldW.of (sdel_w x.1 x.2.1 x.2.2.1 post) (h x.1 x.2.1 x.2.2.1 (fun y0 => post (y0, ())) hp)
theorem sdel_ok : Spec2OK Try.prog sdel_sp := sdel_of fun ls i j post hp => by
  obtain ⟨⟨p1, p2, p3, p4⟩, hp⟩ := hp
  unfold sdel_W
  refine fun _ => ⟨⟨p1, p2, p3, by omega⟩, IFB.mk (fun hb => ?_) (fun hb => ?_)⟩
  · have hb : i = j := of_decide_eq_true hb
    subst hb
    rw [List.take_append_drop] at hp
    exact hp
  · refine fun _ => ⟨⟨by exact Int.NonNeg.mk 0, p1, by omega⟩, ⟨by omega, p3, by omega⟩, ⟨rfl, p2⟩, fun _ => ⟨⟨rfl, by omega, by omega, ?_⟩, ?_⟩⟩
    · rw [sub_all (by omega)]
      simp
      omega
    · rw [del_list p1 p2 p3]
      exact hp

end RE
end Go.Proofs.Ytpnmiieohdkenaa
set_option maxRecDepth 100000
set_option linter.unusedVariables false
namespace Go.Proofs.Ytpnmiieohdkenaa
open Go.RowKit
namespace RE
open PL
def eapply_P (x : api_Entitlements) (a : api_Act) (post : api_Entitlements → Int → Prop) : Prop := (x.1.length ≤ 200) ∧ post ((applyS x a).1) ((applyS x a).2)
def eapply_sp : Spec := ⟨18, false, false, [.st .api_Entitlements, .st .api_Act], .tup [.dat (.st .api_Entitlements), .dat (.int .i64)], fun x post => eapply_P (x.1 : api_Entitlements) (x.2.1 : api_Act) (fun y0 y1 => post (y0, y1, ()))⟩
def eapply_C : Ctx := ⟨tau, [echk_sp, usab_sp, edown_sp], lookJ [(5108, 0, ⟨[(0, .dat (.int .i64))], [(9, [.own 45 (.st .api_Lot), .dat (.int .i64), .dat (.int .i64), .rf 8, .dat (.int .i64), .dat (.int .i64)])], [], [5, 8], []⟩), (5324807011, 0, ⟨[(0, .dat (.int .i64))], [(9, [.own 45 (.st .api_Lot), .dat (.int .i64), .dat (.int .i64), .rf 8, .dat (.int .i64), .dat (.int .i64)])], [], [5], []⟩), (5550797145362024, 0, ⟨[(0, .tup [])], [(9, [.own 45 (.st .api_Lot), .dat (.int .i64), .dat (.int .i64), .rf 8, .dat (.int .i64), .dat (.int .i64)])], [], [5], []⟩), (5786378527000882293343, 0, ⟨[(0, .dat (.int .i64))], [], [], [], []⟩), (5786378527000882293343, 5, ⟨[(8, .dat (.int .i64))], [], [9, 10, 5, 11, 12, 13, 14, 15, 16, 18], [], []⟩), (5324804969, 0, ⟨[(0, .dat (.int .i64))], [(9, [.own 45 (.st .api_Lot), .dat (.int .i64), .dat (.int .i64), .rf 8, .dat (.int .i64), .dat (.int .i64)])], [], [5], []⟩), (5550795016692399, 0, ⟨[(0, .own 45 (.st .api_Lot))], [(9, [.un, .dat (.int .i64), .dat (.int .i64), .rf 8, .dat (.int .i64), .dat (.int .i64)])], [], [5], []⟩), (5550795016692399, 11, ⟨[(6, .dat (.int .i64)), (5, .dat (.int .i64))], [(9, [.rf 5, .dat (.int .i64), .dat (.int .i64), .rf 8, .dat (.int .i64), .dat (.int .i64)])], [16, 17, 18, 19, 35, 34, 33, 32, 31, 30, 29, 28, 27, 26, 7, 25, 24, 23, 22, 20, 21], [], [(5, 45, (.st .api_Lot))]⟩), (5550795016692399, 12, ⟨[(5, .dat (.int .i64))], [(9, [.rf 5, .dat (.int .i64), .dat (.int .i64), .rf 8, .dat (.int .i64), .dat (.int .i64)])], [22, 23, 24, 25, 7, 26, 27, 28, 29, 30, 31, 32, 33, 34, 35], [], [(5, 45, (.st .api_Lot))]⟩), (5786376307995841114130, 8, ⟨[], [(9, [.rf 5, .dat (.int .i64), .dat (.int .i64), .rf 8, .dat (.int .i64), .dat (.int .i64)])], [12, 13, 14, 15, 16, 17, 18, 19, 20, 21], [], []⟩), (5786376307995841106983, 0, ⟨[(0, .dat (.int .i64))], [(9, [.rf 5, .dat (.int .i64), .dat (.int .i64), .rf 8, .dat (.int .i64), .dat (.int .i64)])], [], [], []⟩), (5786376307995841106983, 5, ⟨[(8, .dat (.int .i64))], [(9, [.rf 5, .dat (.int .i64), .dat (.int .i64), .rf 8, .dat (.int .i64), .dat (.int .i64)])], [9, 10, 5, 11, 12, 13, 14, 15, 16, 18], [], []⟩), (6031955904883492599404469593, 8, ⟨[], [(9, [.rf 5, .dat (.int .i64), .dat (.int .i64), .rf 8, .dat (.int .i64), .dat (.int .i64)])], [12, 13, 14, 15, 16, 17, 18, 19, 20, 21], [], []⟩), (5324802927, 0, ⟨[(0, .dat (.int .i64))], [(9, [.own 45 (.st .api_Lot), .dat (.int .i64), .dat (.int .i64), .rf 8, .dat (.int .i64), .dat (.int .i64)])], [], [5], []⟩), (5324802927, 62, ⟨[], [], [96, 97, 80, 81, 144, 143, 142, 141, 140, 139, 138, 137, 136, 135, 134, 133, 132, 131, 130, 129, 128, 127, 126, 125, 95, 94, 93, 92, 91, 90, 89, 88, 87, 86, 12, 85, 84, 10, 82, 83], [], [(5, 45, (.st .api_Lot))]⟩), (5324802927, 41, ⟨[(82, .dat (.int .i64)), (10, .dat (.int .i64))], [], [83, 84, 85, 12, 86, 87, 88, 89, 90, 91, 92, 93, 94, 95, 125, 126, 127, 128, 129, 130, 131, 132, 133, 134, 135, 136, 137, 138, 139, 140, 141, 142, 143, 144], [], [(5, 45, (.st .api_Lot))]⟩), (5550792888052377, 0, ⟨[(0, .dat (.int .i64))], [(9, [.own 45 (.st .api_Lot), .dat (.int .i64), .dat (.int .i64), .rf 8, .dat (.int .i64), .dat (.int .i64)])], [], [5], []⟩), (5550792888052377, 1000005, ⟨[], [(9, [.own 45 (.st .api_Lot), .dat (.int .i64), .dat (.int .i64), .rf 8, .dat (.int .i64), .dat (.int .i64)])], [30, 31, 32, 33, 34, 35, 36, 37, 38, 39], [5], []⟩), (5324802927, 11, ⟨[(22, .dat (.int .i64)), (7, .dat .bool), (6, .dat (.int .i64))], [], [23, 24, 25, 9, 26, 27, 28, 29, 30, 31, 32, 33, 34, 35, 36, 37, 49, 38, 39, 40, 41, 42, 43, 44, 45, 46, 47, 48, 50], [], []⟩), (5324800885, 0, ⟨[(0, .dat (.int .i64))], [], [], [], [(5, 45, (.st .api_Lot))]⟩), (5324800885, 9, ⟨[(29, .dat (.int .i64))], [], [30, 61, 60, 59, 58, 57, 56, 55, 54, 53, 52, 51, 50, 38, 39, 40, 41, 42, 43, 44, 45, 46, 47, 48, 49, 6, 37, 36, 35, 34, 33, 32, 5, 31, 62], [], [(5, 45, (.st .api_Lot))]⟩), (5324800885, 22, ⟨[], [], [31, 5, 32, 33, 34, 35, 36, 37, 6, 49, 48, 47, 46, 45, 44, 43, 42, 41, 40, 39, 38, 50, 51, 52, 53, 54, 55, 56, 57, 58, 59, 60, 61], [], [(5, 45, (.st .api_Lot))]⟩), (5324800885, 18, ⟨[], [], [38, 39, 40, 41, 42, 43, 44, 45, 46, 47, 48, 49], [], [(5, 45, (.st .api_Lot))]⟩), (5324798843, 0, ⟨[(0, .dat (.int .i64))], [], [], [], [(5, 45, (.st .api_Lot))]⟩), (5786369650972190380535, 0, ⟨[(0, .dat (.int .i64))], [], [], [], []⟩), (5786369650972190380535, 5, ⟨[(8, .dat (.int .i64))], [], [9, 10, 5, 11, 12, 13, 14, 15, 16, 18], [], []⟩), (5324796801, 0, ⟨[(0, .dat (.int .i64))], [(9, [.own 45 (.st .api_Lot), .dat (.int .i64), .dat (.int .i64), .rf 8, .dat (.int .i64), .dat (.int .i64)])], [], [5], []⟩), (5550786502038391, 0, ⟨[(0, .dat (.int .i64))], [(9, [.own 45 (.st .api_Lot), .dat (.int .i64), .dat (.int .i64), .rf 8, .dat (.int .i64), .dat (.int .i64)])], [], [14], []⟩), (5550786502038391, 1000005, ⟨[], [(9, [.own 45 (.st .api_Lot), .dat (.int .i64), .dat (.int .i64), .rf 8, .dat (.int .i64), .dat (.int .i64)])], [30, 31, 32, 33, 34, 35, 36, 37, 38, 39], [14], []⟩), (5550786502037372, 0, ⟨[(0, .tup [])], [(9, [.own 45 (.st .api_Lot), .dat (.int .i64), .dat (.int .i64), .rf 8, .dat (.int .i64), .dat (.int .i64)])], [], [5], []⟩), (5550786502032265, 0, ⟨[(0, .tup [.dat (.int .i64), .dat (.int .i64)])], [], [], [], []⟩), (6031946652145043619220092517, 0, ⟨[(0, .dat (.int .i64))], [], [], [], []⟩), (6031946652145043619220092517, 5, ⟨[(8, .dat (.int .i64))], [], [9, 10, 5, 11, 12, 13, 14, 15, 16, 18], [], []⟩), (5324794759, 0, ⟨[(0, .dat (.int .i64))], [(9, [.own 45 (.st .api_Lot), .dat (.int .i64), .dat (.int .i64), .rf 8, .dat (.int .i64), .dat (.int .i64)])], [], [5], []⟩), (5550784373379995, 0, ⟨[(0, .dat (.int .i64))], [(9, [.own 45 (.st .api_Lot), .dat (.int .i64), .dat (.int .i64), .rf 8, .dat (.int .i64), .dat (.int .i64)])], [], [14], []⟩), (5550784373379995, 1000005, ⟨[], [(9, [.own 45 (.st .api_Lot), .dat (.int .i64), .dat (.int .i64), .rf 8, .dat (.int .i64), .dat (.int .i64)])], [30, 31, 32, 33, 34, 35, 36, 37, 38, 39], [14], []⟩), (5550784373375913, 0, ⟨[(0, .tup [])], [(9, [.own 45 (.st .api_Lot), .dat (.int .i64), .dat (.int .i64), .rf 8, .dat (.int .i64), .dat (.int .i64)])], [], [5], []⟩), (5324794759, 8, ⟨[(6, .dat (.int .i64))], [], [15, 16, 17, 26, 18, 19, 20, 21, 22, 23, 24, 25], [], []⟩), (5550784373367743, 0, ⟨[(0, .tup [.dat (.int .i64), .dat (.int .i64)])], [], [], [], []⟩), (6031944338960987212650221435, 0, ⟨[(0, .dat (.int .i64))], [], [], [], []⟩), (6031944338960987212650221435, 5, ⟨[(8, .dat (.int .i64))], [], [9, 10, 5, 11, 12, 13, 14, 15, 16, 18], [], []⟩), (5324792717, 0, ⟨[(0, .dat (.int .i64))], [(9, [.own 45 (.st .api_Lot), .dat (.int .i64), .dat (.int .i64), .rf 8, .dat (.int .i64), .dat (.int .i64)])], [], [5], []⟩), (5550782244710376, 0, ⟨[(0, .dat (.int .i64))], [(9, [.own 45 (.st .api_Lot), .dat (.int .i64), .dat (.int .i64), .rf 8, .dat (.int .i64), .dat (.int .i64)])], [], [5], []⟩), (5550782244710376, 1000005, ⟨[], [(9, [.own 45 (.st .api_Lot), .dat (.int .i64), .dat (.int .i64), .rf 8, .dat (.int .i64), .dat (.int .i64)])], [30, 31, 32, 33, 34, 35, 36, 37, 38, 39], [5], []⟩), (4261499832, 0, ⟨[(0, .own 45 (.st .api_Lot))], [], [], [], []⟩), (4259414950, 0, ⟨[(0, .own 45 (.st .api_Lot))], [], [], [], []⟩), (3195082689, 0, ⟨[(0, .own 45 (.st .api_Lot))], [], [], [], []⟩)]⟩
def eapply_W (x : api_Entitlements) (a : api_Act) (post : api_Entitlements → Int → Prop) : Prop := True ∧ IFB (!decide (chkE { Lots := x.1, Reserve := x.2, Next := x.3 : api_Entitlements } = (0 : Int))) (JOIN [(Ty.st Sn.api_Lot).sl] (fun (y1 : List api_Lot) ↦ post { Lots := y1, Reserve := x.2, Next := x.3 : api_Entitlements } (chkE { Lots := x.1, Reserve := x.2, Next := x.3 : api_Entitlements })) fun (J2 : List api_Lot → Prop) ↦ ∀ (v3 : Bool), (v3 = true → x.1 = []) → IFB v3 (J2 []) (((0 : Nat) + x.1.length) * (48 : Nat) ≤ (140737488355328 : Nat) ∧ J2 ([] ++ x.1))) (JOIN [(Ty.st Sn.api_Lot).sl] (fun (y4 : List api_Lot) ↦ JOIN [(Ty.st Sn.api_Lot).sl] (fun (y5 : List api_Lot) ↦ JOIN [Ty.int IntKind.i64, (Ty.st Sn.api_Lot).sl, Ty.int IntKind.i64, Ty.int IntKind.i64, Ty.int IntKind.i64, Ty.int IntKind.i64] (fun (y6 : Int) (y7 : List api_Lot) (y8 y9 y10 y11 : Int) ↦ post { Lots := y7, Reserve := y8, Next := y9 : api_Entitlements } y6) fun (J12 : Int → List api_Lot → Int → Int → Int → Int → Prop) ↦ IFB (decide (a.1 = (1 : Int))) (JOIN [Ty.int IntKind.i64, (Ty.st Sn.api_Lot).sl, Ty.int IntKind.i64, Ty.int IntKind.i64, Ty.int IntKind.i64, Ty.int IntKind.i64] (fun (y13 : Int) (y14 : List api_Lot) (y15 y16 y17 y18 : Int) ↦ IFB (!decide (y13 = (0 : Int))) (J12 y13 y5 y17 y18 y17 y18) (J12 y13 y14 y15 y16 y17 y18)) fun (J19 : Int → List api_Lot → Int → Int → Int → Int → Prop) ↦ IFB (!(decide ((1 : Int) ≤ a.3) && decide (a.3 ≤ (60 : Int)))) (J19 (20 : Int) y4 x.2 x.3 x.2 x.3) (JOIN [Ty.bool] (fun (y20 : Bool) ↦ IFB (!(decide ((1 : Int) ≤ a.5) && decide (a.5 ≤ (268435456 : Int))) || !y20) (J19 (2 : Int) y4 x.2 x.3 x.2 x.3) (IFB (decide (x.2 < a.5)) (J19 (22 : Int) y4 x.2 x.3 x.2 x.3) (JOIN [Ty.int IntKind.i64, (Ty.st Sn.api_Lot).sl, Ty.int IntKind.i64, Ty.int IntKind.i64, Ty.int IntKind.i64, Ty.int IntKind.i64] (fun (y21 : Int) (y22 : List api_Lot) (y23 y24 y25 y26 : Int) ↦ J19 y21 y22 y23 y24 y25 y26) fun (J27 : Int → List api_Lot → Int → Int → Int → Int → Prop) ↦ (↑y4.length : Int) ≤ (9223372036854775807 : Int) → IFB (decide ((80 : Int) ≤ (↑y4.length : Int)) || decide ((1073741824 : Int) ≤ x.3)) (J27 (1 : Int) y4 (IntKind.i64.wrap (x.2 - a.5)) x.3 x.2 x.3) (JOIN [(Ty.st Sn.api_Lot).sl, Ty.int IntKind.i64, Ty.int IntKind.i64, Ty.int IntKind.i64, Ty.int IntKind.i64] (fun (y28 : List api_Lot) (y29 y30 y31 y32 : Int) ↦ J27 (0 : Int) y28 y29 y30 y31 y32) fun (J33 : List api_Lot → Int → Int → Int → Int → Prop) ↦ (y4.length + [{ Number := x.3, Owner := a.3, User := a.3, Squares := a.5, Value := a.6, Used := (-1 : Int) : api_Lot }].length) * (48 : Nat) ≤ (140737488355328 : Nat) ∧ J33 (y4 ++ [{ Number := x.3, Owner := a.3, User := a.3, Squares := a.5, Value := a.6, Used := (-1 : Int) : api_Lot }]) (IntKind.i64.wrap (x.2 - a.5)) (IntKind.i64.wrap (x.3 + (1 : Int))) x.2 x.3)))) fun (J34 : Bool → Prop) ↦ IFB (gx false !(decide ((1 : Int) ≤ a.5) && decide (a.5 ≤ (268435456 : Int)))) (J34 (decide ((0 : Int) ≤ a.6) && decide (a.6 ≤ (1048576 : Int)))) (J34 false))) (IFB (decide (a.1 = (2 : Int))) (JOIN [Ty.int IntKind.i64, (Ty.st Sn.api_Lot).sl, Ty.int IntKind.i64, Ty.int IntKind.i64, Ty.int IntKind.i64, Ty.int IntKind.i64] (fun (y35 : Int) (y36 : List api_Lot) (y37 y38 y39 y40 : Int) ↦ IFB (!decide (y35 = (0 : Int))) (J12 y35 y5 y39 y40 y39 y40) (J12 y35 y36 y37 y38 y39 y40)) fun (J41 : Int → List api_Lot → Int → Int → Int → Int → Prop) ↦ JOIN [Ty.int IntKind.i64, Ty.int IntKind.i64] (fun (y42 y43 : Int) ↦ JOIN [Ty.int IntKind.i64] (fun (y44 : Int) ↦ IFB (!decide (y44 = (0 : Int))) (J41 y44 y4 x.2 x.3 x.2 x.3) (((0 : Int) ≤ IntKind.i64.wrap (a.5 * a.7) ∧ IntKind.i64.wrap (a.5 * a.7) ≤ (1125899906842624 : Int) ∧ (1 : Int) ≤ (1000000 : Int) ∧ (1000000 : Int) ≤ (1099511627776 : Int)) ∧ ((0 : Int) ≤ y42 ∧ y42 < (↑y4.length : Int)) ∧ JOIN [(Ty.st Sn.api_Lot).sl, Ty.int IntKind.i64, Ty.int IntKind.i64, Ty.int IntKind.i64, Ty.int IntKind.i64] (fun (y45 : List api_Lot) (y46 y47 y48 y49 : Int) ↦ IFB (decide (IntKind.i64.wrap (a.5 - IntKind.i64.wrap (a.5 * a.7) / (1000000 : Int)) = (0 : Int))) (J41 (0 : Int) y45 (IntKind.i64.wrap (y46 + IntKind.i64.wrap (a.5 * a.7) / (1000000 : Int))) y47 y48 y49) (JOIN [Ty.int IntKind.i64, (Ty.st Sn.api_Lot).sl, Ty.int IntKind.i64, Ty.int IntKind.i64, Ty.int IntKind.i64, Ty.int IntKind.i64] (fun (y50 : Int) (y51 : List api_Lot) (y52 y53 y54 y55 : Int) ↦ J41 y50 y51 y52 y53 y54 y55) fun (J56 : Int → List api_Lot → Int → Int → Int → Int → Prop) ↦ (↑y45.length : Int) ≤ (9223372036854775807 : Int) → IFB (decide ((80 : Int) ≤ (↑y45.length : Int)) || decide ((1073741824 : Int) ≤ y47)) (J56 (1 : Int) y45 (IntKind.i64.wrap (y46 + IntKind.i64.wrap (a.5 * a.7) / (1000000 : Int))) y47 y48 y49) (JOIN [(Ty.st Sn.api_Lot).sl, Ty.int IntKind.i64, Ty.int IntKind.i64, Ty.int IntKind.i64, Ty.int IntKind.i64] (fun (y57 : List api_Lot) (y58 y59 y60 y61 : Int) ↦ J56 (0 : Int) y57 y58 y59 y60 y61) fun (J62 : List api_Lot → Int → Int → Int → Int → Prop) ↦ (y45.length + [{ Number := y47, Owner := a.3, User := a.3, Squares := IntKind.i64.wrap (a.5 - IntKind.i64.wrap (a.5 * a.7) / (1000000 : Int)), Value := (ix y4 y42).5, Used := (ix y4 y42).6 : api_Lot }].length) * (48 : Nat) ≤ (140737488355328 : Nat) ∧ J62 (y45 ++ [{ Number := y47, Owner := a.3, User := a.3, Squares := IntKind.i64.wrap (a.5 - IntKind.i64.wrap (a.5 * a.7) / (1000000 : Int)), Value := (ix y4 y42).5, Used := (ix y4 y42).6 : api_Lot }]) (IntKind.i64.wrap (y46 + IntKind.i64.wrap (a.5 * a.7) / (1000000 : Int))) (IntKind.i64.wrap (y47 + (1 : Int))) y48 y49))) fun (J63 : List api_Lot → Int → Int → Int → Int → Prop) ↦ ((0 : Int) ≤ y42 ∧ y42 < (↑y4.length : Int)) ∧ ((0 : Int) ≤ y42 ∧ y42 < (↑y4.length : Int)) ∧ ((0 : Int) ≤ y42 ∧ y42 < (↑(y4.set y42.toNat { Number := (ix y4 y42).1, Owner := (ix y4 y42).2, User := (ix y4 y42).3, Squares := IntKind.i64.wrap ((ix y4 y42).4 - a.5), Value := (ix y4 y42).5, Used := (ix y4 y42).6 : api_Lot }).length : Int)) ∧ IFB (decide ((ix (y4.set y42.toNat { Number := (ix y4 y42).1, Owner := (ix y4 y42).2, User := (ix y4 y42).3, Squares := IntKind.i64.wrap ((ix y4 y42).4 - a.5), Value := (ix y4 y42).5, Used := (ix y4 y42).6 : api_Lot }) y42).4 = (0 : Int))) (((0 : Int) ≤ y42 ∧ y42 ≤ IntKind.i64.wrap (y42 + (1 : Int)) ∧ IntKind.i64.wrap (y42 + (1 : Int)) ≤ (↑(y4.set y42.toNat { Number := (ix y4 y42).1, Owner := (ix y4 y42).2, User := (ix y4 y42).3, Squares := IntKind.i64.wrap ((ix y4 y42).4 - a.5), Value := (ix y4 y42).5, Used := (ix y4 y42).6 : api_Lot }).length : Int) ∧ (y4.set y42.toNat { Number := (ix y4 y42).1, Owner := (ix y4 y42).2, User := (ix y4 y42).3, Squares := IntKind.i64.wrap ((ix y4 y42).4 - a.5), Value := (ix y4 y42).5, Used := (ix y4 y42).6 : api_Lot }).length ≤ (1000 : Nat)) ∧ J63 (List.take y42.toNat (y4.set y42.toNat { Number := (ix y4 y42).1, Owner := (ix y4 y42).2, User := (ix y4 y42).3, Squares := IntKind.i64.wrap ((ix y4 y42).4 - a.5), Value := (ix y4 y42).5, Used := (ix y4 y42).6 : api_Lot }) ++ List.drop (IntKind.i64.wrap (y42 + (1 : Int))).toNat (y4.set y42.toNat { Number := (ix y4 y42).1, Owner := (ix y4 y42).2, User := (ix y4 y42).3, Squares := IntKind.i64.wrap ((ix y4 y42).4 - a.5), Value := (ix y4 y42).5, Used := (ix y4 y42).6 : api_Lot })) x.2 x.3 x.2 x.3) (J63 (y4.set y42.toNat { Number := (ix y4 y42).1, Owner := (ix y4 y42).2, User := (ix y4 y42).3, Squares := IntKind.i64.wrap ((ix y4 y42).4 - a.5), Value := (ix y4 y42).5, Used := (ix y4 y42).6 : api_Lot }) x.2 x.3 x.2 x.3))) fun (J64 : Int → Prop) ↦ IFB (decide (y43 = (0 : Int)) && (decide (a.7 < (0 : Int)) || decide ((1000000 : Int) < a.7))) (J64 (2 : Int)) (J64 y43)) fun (J65 : Int → Int → Prop) ↦ JOIN [Ty.int IntKind.i64] (fun (y66 : Int) ↦ IFB (decide (y66 < (0 : Int))) (J65 (0 : Int) (19 : Int)) (((0 : Int) ≤ y66 ∧ y66 < (↑y4.length : Int)) ∧ IFB (!(decide ((1 : Int) ≤ a.3) && decide (a.3 ≤ (60 : Int)))) (J65 (0 : Int) (20 : Int)) (IFB (!decide ((ix y4 y66).2 = (ix y4 y66).3) || decide ((ix y4 y66).2 = a.3)) (J65 (0 : Int) (22 : Int)) (IFB (decide (a.5 < (1 : Int)) || decide ((ix y4 y66).4 < a.5)) (J65 (0 : Int) (2 : Int)) (J65 y66 (0 : Int)))))) fun (J67 : Int → Prop) ↦ (↑y4.length : Int) ≤ (9223372036854775807 : Int) → LOOP [Ty.int IntKind.i64] (fun (rec68 : Int → Prop) (z69 : Int) ↦ IFB (decide (z69 < (↑y4.length : Int))) (((0 : Int) ≤ z69 ∧ z69 < (↑y4.length : Int)) ∧ IFB (decide ((ix y4 z69).1 = a.4)) (J67 z69) (rec68 (IntKind.i64.wrap (z69 + (1 : Int))))) (J67 (-1 : Int))) ((0 : Int), PUnit.unit)) (IFB (decide (a.1 = (3 : Int))) (JOIN [Ty.int IntKind.i64, (Ty.st Sn.api_Lot).sl, Ty.int IntKind.i64, Ty.int IntKind.i64, Ty.int IntKind.i64, Ty.int IntKind.i64] (fun (y70 : Int) (y71 : List api_Lot) (y72 y73 y74 y75 : Int) ↦ IFB (!decide (y70 = (0 : Int))) (J12 y70 y5 y74 y75 y74 y75) (J12 y70 y71 y72 y73 y74 y75)) fun (J76 : Int → List api_Lot → Int → Int → Int → Int → Prop) ↦ JOIN [Ty.int IntKind.i64, Ty.int IntKind.i64] (fun (y77 y78 : Int) ↦ IFB (!decide (y78 = (0 : Int))) (J76 y78 y4 x.2 x.3 x.2 x.3) (((0 : Int) ≤ y77 ∧ y77 < (↑y4.length : Int)) ∧ JOIN [(Ty.st Sn.api_Lot).sl, Ty.int IntKind.i64, Ty.int IntKind.i64, Ty.int IntKind.i64, Ty.int IntKind.i64] (fun (y79 : List api_Lot) (y80 y81 y82 y83 : Int) ↦ JOIN [Ty.int IntKind.i64, (Ty.st Sn.api_Lot).sl, Ty.int IntKind.i64, Ty.int IntKind.i64, Ty.int IntKind.i64, Ty.int IntKind.i64] (fun (y84 : Int) (y85 : List api_Lot) (y86 y87 y88 y89 : Int) ↦ J76 y84 y85 y86 y87 y88 y89) fun (J90 : Int → List api_Lot → Int → Int → Int → Int → Prop) ↦ (↑y79.length : Int) ≤ (9223372036854775807 : Int) → IFB (decide ((80 : Int) ≤ (↑y79.length : Int)) || decide ((1073741824 : Int) ≤ y81)) (J90 (1 : Int) y79 y80 y81 y82 y83) (JOIN [(Ty.st Sn.api_Lot).sl, Ty.int IntKind.i64, Ty.int IntKind.i64, Ty.int IntKind.i64, Ty.int IntKind.i64] (fun (y91 : List api_Lot) (y92 y93 y94 y95 : Int) ↦ J90 (0 : Int) y91 y92 y93 y94 y95) fun (J96 : List api_Lot → Int → Int → Int → Int → Prop) ↦ (y79.length + [{ Number := y81, Owner := (ix y4 y77).2, User := a.3, Squares := a.5, Value := (ix y4 y77).5, Used := (ix y4 y77).6 : api_Lot }].length) * (48 : Nat) ≤ (140737488355328 : Nat) ∧ J96 (y79 ++ [{ Number := y81, Owner := (ix y4 y77).2, User := a.3, Squares := a.5, Value := (ix y4 y77).5, Used := (ix y4 y77).6 : api_Lot }]) y80 (IntKind.i64.wrap (y81 + (1 : Int))) y82 y83)) fun (J97 : List api_Lot → Int → Int → Int → Int → Prop) ↦ ((0 : Int) ≤ y77 ∧ y77 < (↑y4.length : Int)) ∧ ((0 : Int) ≤ y77 ∧ y77 < (↑y4.length : Int)) ∧ ((0 : Int) ≤ y77 ∧ y77 < (↑(y4.set y77.toNat { Number := (ix y4 y77).1, Owner := (ix y4 y77).2, User := (ix y4 y77).3, Squares := IntKind.i64.wrap ((ix y4 y77).4 - a.5), Value := (ix y4 y77).5, Used := (ix y4 y77).6 : api_Lot }).length : Int)) ∧ IFB (decide ((ix (y4.set y77.toNat { Number := (ix y4 y77).1, Owner := (ix y4 y77).2, User := (ix y4 y77).3, Squares := IntKind.i64.wrap ((ix y4 y77).4 - a.5), Value := (ix y4 y77).5, Used := (ix y4 y77).6 : api_Lot }) y77).4 = (0 : Int))) (((0 : Int) ≤ y77 ∧ y77 ≤ IntKind.i64.wrap (y77 + (1 : Int)) ∧ IntKind.i64.wrap (y77 + (1 : Int)) ≤ (↑(y4.set y77.toNat { Number := (ix y4 y77).1, Owner := (ix y4 y77).2, User := (ix y4 y77).3, Squares := IntKind.i64.wrap ((ix y4 y77).4 - a.5), Value := (ix y4 y77).5, Used := (ix y4 y77).6 : api_Lot }).length : Int) ∧ (y4.set y77.toNat { Number := (ix y4 y77).1, Owner := (ix y4 y77).2, User := (ix y4 y77).3, Squares := IntKind.i64.wrap ((ix y4 y77).4 - a.5), Value := (ix y4 y77).5, Used := (ix y4 y77).6 : api_Lot }).length ≤ (1000 : Nat)) ∧ J97 (List.take y77.toNat (y4.set y77.toNat { Number := (ix y4 y77).1, Owner := (ix y4 y77).2, User := (ix y4 y77).3, Squares := IntKind.i64.wrap ((ix y4 y77).4 - a.5), Value := (ix y4 y77).5, Used := (ix y4 y77).6 : api_Lot }) ++ List.drop (IntKind.i64.wrap (y77 + (1 : Int))).toNat (y4.set y77.toNat { Number := (ix y4 y77).1, Owner := (ix y4 y77).2, User := (ix y4 y77).3, Squares := IntKind.i64.wrap ((ix y4 y77).4 - a.5), Value := (ix y4 y77).5, Used := (ix y4 y77).6 : api_Lot })) x.2 x.3 x.2 x.3) (J97 (y4.set y77.toNat { Number := (ix y4 y77).1, Owner := (ix y4 y77).2, User := (ix y4 y77).3, Squares := IntKind.i64.wrap ((ix y4 y77).4 - a.5), Value := (ix y4 y77).5, Used := (ix y4 y77).6 : api_Lot }) x.2 x.3 x.2 x.3))) fun (J98 : Int → Int → Prop) ↦ JOIN [Ty.int IntKind.i64] (fun (y99 : Int) ↦ IFB (decide (y99 < (0 : Int))) (J98 (0 : Int) (19 : Int)) (((0 : Int) ≤ y99 ∧ y99 < (↑y4.length : Int)) ∧ IFB (!(decide ((1 : Int) ≤ a.3) && decide (a.3 ≤ (60 : Int)))) (J98 (0 : Int) (20 : Int)) (IFB (!decide ((ix y4 y99).2 = (ix y4 y99).3) || decide ((ix y4 y99).2 = a.3)) (J98 (0 : Int) (22 : Int)) (IFB (decide (a.5 < (1 : Int)) || decide ((ix y4 y99).4 < a.5)) (J98 (0 : Int) (2 : Int)) (J98 y99 (0 : Int)))))) fun (J100 : Int → Prop) ↦ (↑y4.length : Int) ≤ (9223372036854775807 : Int) → LOOP [Ty.int IntKind.i64] (fun (rec101 : Int → Prop) (z102 : Int) ↦ IFB (decide (z102 < (↑y4.length : Int))) (((0 : Int) ≤ z102 ∧ z102 < (↑y4.length : Int)) ∧ IFB (decide ((ix y4 z102).1 = a.4)) (J100 z102) (rec101 (IntKind.i64.wrap (z102 + (1 : Int))))) (J100 (-1 : Int))) ((0 : Int), PUnit.unit)) (IFB (decide (a.1 = (4 : Int))) (JOIN [Ty.int IntKind.i64, (Ty.st Sn.api_Lot).sl] (fun (y103 : Int) (y104 : List api_Lot) ↦ IFB (!decide (y103 = (0 : Int))) (J12 y103 y5 x.2 x.3 x.2 x.3) (J12 y103 y104 x.2 x.3 x.2 x.3)) fun (J105 : Int → List api_Lot → Prop) ↦ JOIN [Ty.int IntKind.i64] (fun (y106 : Int) ↦ IFB (decide (y106 < (0 : Int))) (J105 (19 : Int) y4) (((0 : Int) ≤ y106 ∧ y106 < (↑y4.length : Int)) ∧ ((0 : Int) ≤ y106 ∧ y106 < (↑y4.length : Int)) ∧ IFB (decide ((ix y4 y106).2 = (ix y4 y106).3)) (J105 (22 : Int) y4) (((0 : Int) ≤ y106 ∧ y106 < (↑y4.length : Int)) ∧ ((0 : Int) ≤ y106 ∧ y106 < (↑y4.length : Int)) ∧ J105 (0 : Int) (y4.set y106.toNat { Number := (ix y4 y106).1, Owner := (ix y4 y106).2, User := (ix y4 y106).2, Squares := (ix y4 y106).4, Value := (ix y4 y106).5, Used := (ix y4 y106).6 : api_Lot })))) fun (J107 : Int → Prop) ↦ (↑y4.length : Int) ≤ (9223372036854775807 : Int) → LOOP [Ty.int IntKind.i64] (fun (rec108 : Int → Prop) (z109 : Int) ↦ IFB (decide (z109 < (↑y4.length : Int))) (((0 : Int) ≤ z109 ∧ z109 < (↑y4.length : Int)) ∧ IFB (decide ((ix y4 z109).1 = a.4)) (J107 z109) (rec108 (IntKind.i64.wrap (z109 + (1 : Int))))) (J107 (-1 : Int))) ((0 : Int), PUnit.unit)) (IFB (decide (a.1 = (5 : Int))) (JOIN [Ty.int IntKind.i64, (Ty.st Sn.api_Lot).sl] (fun (y110 : Int) (y111 : List api_Lot) ↦ IFB (!decide (y110 = (0 : Int))) (J12 y110 y5 x.2 x.3 x.2 x.3) (J12 y110 y111 x.2 x.3 x.2 x.3)) fun (J112 : Int → List api_Lot → Prop) ↦ JOIN [Ty.bool] (fun (y113 : Bool) ↦ IFB (!(decide ((1 : Int) ≤ a.2) && decide (a.2 ≤ (60 : Int))) || !y113 || decide (a.2 = a.3)) (J112 (20 : Int) y4) ((↑y4.length : Int) ≤ (9223372036854775807 : Int) → LOOP [Ty.int IntKind.i64, (Ty.st Sn.api_Lot).sl] (fun (rec114 : Int → List api_Lot → Prop) (z115 : Int) (z116 : List api_Lot) ↦ IFB (decide (z115 < (↑y4.length : Int))) (JOIN [(Ty.st Sn.api_Lot).sl] (fun (y117 : List api_Lot) ↦ rec114 (IntKind.i64.wrap (z115 + (1 : Int))) y117) fun (J118 : List api_Lot → Prop) ↦ ((0 : Int) ≤ z115 ∧ z115 < (↑z116.length : Int)) ∧ JOIN [(Ty.st Sn.api_Lot).sl] (fun (y119 : List api_Lot) ↦ IFB (decide ((ix y119 z115).3 = a.2)) (J118 (y119.set z115.toNat { Number := (ix y119 z115).1, Owner := (ix y119 z115).2, User := a.3, Squares := (ix y119 z115).4, Value := (ix y119 z115).5, Used := (ix y119 z115).6 : api_Lot })) (J118 y119)) fun (J120 : List api_Lot → Prop) ↦ IFB (decide ((ix z116 z115).2 = a.2)) (J120 (z116.set z115.toNat { Number := (ix z116 z115).1, Owner := a.3, User := (ix z116 z115).3, Squares := (ix z116 z115).4, Value := (ix z116 z115).5, Used := (ix z116 z115).6 : api_Lot })) (J120 z116)) (J112 (0 : Int) z116)) ((0 : Int), y4, PUnit.unit))) fun (J121 : Bool → Prop) ↦ IFB (gx false !(decide ((1 : Int) ≤ a.2) && decide (a.2 ≤ (60 : Int)))) (J121 (decide ((1 : Int) ≤ a.3) && decide (a.3 ≤ (60 : Int)))) (J121 false)) (IFB (decide (a.1 = (6 : Int))) (JOIN [Ty.int IntKind.i64, (Ty.st Sn.api_Lot).sl, Ty.int IntKind.i64, Ty.int IntKind.i64, Ty.int IntKind.i64, Ty.int IntKind.i64] (fun (y122 : Int) (y123 : List api_Lot) (y124 y125 y126 y127 : Int) ↦ IFB (!decide (y122 = (0 : Int))) (J12 y122 y5 y126 y127 y126 y127) (J12 y122 y123 y124 y125 y126 y127)) fun (J128 : Int → List api_Lot → Int → Int → Int → Int → Prop) ↦ y4.length ≤ (1000 : Nat) ∧ ((↑(usableS y4 a.2).length : Int) ≤ (9223372036854775807 : Int) → LOOP [Ty.int IntKind.i64, Ty.bool, Ty.int IntKind.i64] (fun (rec129 : Int → Bool → Int → Prop) (z130 : Int) (z131 : Bool) (z132 : Int) ↦ IFB (decide (z130 < (↑(usableS y4 a.2).length : Int))) (((0 : Int) ≤ z130 ∧ z130 < (↑(usableS y4 a.2).length : Int)) ∧ ((0 : Int) ≤ ix (usableS y4 a.2) z130 ∧ ix (usableS y4 a.2) z130 < (↑y4.length : Int)) ∧ (gx false z131 = true → (0 : Int) ≤ ix (usableS y4 a.2) z130 ∧ ix (usableS y4 a.2) z130 < (↑y4.length : Int)) ∧ rec129 (IntKind.i64.wrap (z130 + (1 : Int))) (z131 || decide (a.8 < (ix y4 (ix (usableS y4 a.2) z130)).6)) (IntKind.i64.wrap (z132 + (ix y4 (ix (usableS y4 a.2) z130)).4))) (IFB (!(decide ((1 : Int) ≤ a.2) && decide (a.2 ≤ (60 : Int)))) (J128 (20 : Int) y4 x.2 x.3 x.2 x.3) (IFB (decide (a.8 < (0 : Int)) || decide ((100 : Int) < a.8) || z131) (J128 (18 : Int) y4 x.2 x.3 x.2 x.3) (IFB (!(decide ((1 : Int) ≤ a.5) && decide (a.5 ≤ (268435456 : Int)))) (J128 (2 : Int) y4 x.2 x.3 x.2 x.3) (IFB (decide (z132 < a.5)) (J128 (22 : Int) y4 x.2 x.3 x.2 x.3) (JOIN [(Ty.st Sn.api_Lot).sl] (fun (y133 : List api_Lot) ↦ J128 (0 : Int) y133 x.2 x.3 x.2 x.3) fun (J134 : List api_Lot → Prop) ↦ (↑(usableS y4 a.2).length : Int) ≤ (9223372036854775807 : Int) → LOOP [Ty.int IntKind.i64, Ty.int IntKind.i64, (Ty.st Sn.api_Lot).sl] (fun (rec135 : Int → Int → List api_Lot → Prop) (z136 z137 : Int) (z138 : List api_Lot) ↦ IFB (decide (z136 < (↑(usableS y4 a.2).length : Int))) (((0 : Int) ≤ z136 ∧ z136 < (↑(usableS y4 a.2).length : Int)) ∧ ((0 : Int) ≤ ix (usableS y4 a.2) z136 ∧ ix (usableS y4 a.2) z136 < (↑z138.length : Int)) ∧ IFB (decide (z137 < (ix z138 (ix (usableS y4 a.2) z136)).4)) (IFB (decide ((0 : Int) < z137)) (((0 : Int) ≤ ix (usableS y4 a.2) z136 ∧ ix (usableS y4 a.2) z136 < (↑z138.length : Int)) ∧ ((0 : Int) ≤ ix (usableS y4 a.2) z136 ∧ ix (usableS y4 a.2) z136 < (↑z138.length : Int)) ∧ ((0 : Int) ≤ ix (usableS y4 a.2) z136 ∧ ix (usableS y4 a.2) z136 < (↑z138.length : Int)) ∧ JOIN [Ty.int IntKind.i64, (Ty.st Sn.api_Lot).sl, Ty.int IntKind.i64, Ty.int IntKind.i64, Ty.int IntKind.i64, Ty.int IntKind.i64] (fun (y139 : Int) (y140 : List api_Lot) (y141 y142 y143 y144 : Int) ↦ J128 y139 y140 y141 y142 y143 y144) fun (J145 : Int → List api_Lot → Int → Int → Int → Int → Prop) ↦ (↑(z138.set (ix (usableS y4 a.2) z136).toNat { Number := (ix z138 (ix (usableS y4 a.2) z136)).1, Owner := (ix z138 (ix (usableS y4 a.2) z136)).2, User := (ix z138 (ix (usableS y4 a.2) z136)).3, Squares := IntKind.i64.wrap ((ix z138 (ix (usableS y4 a.2) z136)).4 - z137), Value := (ix z138 (ix (usableS y4 a.2) z136)).5, Used := (ix z138 (ix (usableS y4 a.2) z136)).6 : api_Lot }).length : Int) ≤ (9223372036854775807 : Int) → IFB (decide ((80 : Int) ≤ (↑(z138.set (ix (usableS y4 a.2) z136).toNat { Number := (ix z138 (ix (usableS y4 a.2) z136)).1, Owner := (ix z138 (ix (usableS y4 a.2) z136)).2, User := (ix z138 (ix (usableS y4 a.2) z136)).3, Squares := IntKind.i64.wrap ((ix z138 (ix (usableS y4 a.2) z136)).4 - z137), Value := (ix z138 (ix (usableS y4 a.2) z136)).5, Used := (ix z138 (ix (usableS y4 a.2) z136)).6 : api_Lot }).length : Int)) || decide ((1073741824 : Int) ≤ x.3)) (J145 (1 : Int) (z138.set (ix (usableS y4 a.2) z136).toNat { Number := (ix z138 (ix (usableS y4 a.2) z136)).1, Owner := (ix z138 (ix (usableS y4 a.2) z136)).2, User := (ix z138 (ix (usableS y4 a.2) z136)).3, Squares := IntKind.i64.wrap ((ix z138 (ix (usableS y4 a.2) z136)).4 - z137), Value := (ix z138 (ix (usableS y4 a.2) z136)).5, Used := (ix z138 (ix (usableS y4 a.2) z136)).6 : api_Lot }) x.2 x.3 x.2 x.3) (JOIN [(Ty.st Sn.api_Lot).sl, Ty.int IntKind.i64, Ty.int IntKind.i64, Ty.int IntKind.i64, Ty.int IntKind.i64] (fun (y146 : List api_Lot) (y147 y148 y149 y150 : Int) ↦ J145 (0 : Int) y146 y147 y148 y149 y150) fun (J151 : List api_Lot → Int → Int → Int → Int → Prop) ↦ ((z138.set (ix (usableS y4 a.2) z136).toNat { Number := (ix z138 (ix (usableS y4 a.2) z136)).1, Owner := (ix z138 (ix (usableS y4 a.2) z136)).2, User := (ix z138 (ix (usableS y4 a.2) z136)).3, Squares := IntKind.i64.wrap ((ix z138 (ix (usableS y4 a.2) z136)).4 - z137), Value := (ix z138 (ix (usableS y4 a.2) z136)).5, Used := (ix z138 (ix (usableS y4 a.2) z136)).6 : api_Lot }).length + [{ Number := x.3, Owner := (ix z138 (ix (usableS y4 a.2) z136)).2, User := (ix z138 (ix (usableS y4 a.2) z136)).3, Squares := z137, Value := (ix z138 (ix (usableS y4 a.2) z136)).5, Used := a.8 : api_Lot }].length) * (48 : Nat) ≤ (140737488355328 : Nat) ∧ J151 (z138.set (ix (usableS y4 a.2) z136).toNat { Number := (ix z138 (ix (usableS y4 a.2) z136)).1, Owner := (ix z138 (ix (usableS y4 a.2) z136)).2, User := (ix z138 (ix (usableS y4 a.2) z136)).3, Squares := IntKind.i64.wrap ((ix z138 (ix (usableS y4 a.2) z136)).4 - z137), Value := (ix z138 (ix (usableS y4 a.2) z136)).5, Used := (ix z138 (ix (usableS y4 a.2) z136)).6 : api_Lot } ++ [{ Number := x.3, Owner := (ix z138 (ix (usableS y4 a.2) z136)).2, User := (ix z138 (ix (usableS y4 a.2) z136)).3, Squares := z137, Value := (ix z138 (ix (usableS y4 a.2) z136)).5, Used := a.8 : api_Lot }]) x.2 (IntKind.i64.wrap (x.3 + (1 : Int))) x.2 x.3)) (J134 z138)) (((0 : Int) ≤ ix (usableS y4 a.2) z136 ∧ ix (usableS y4 a.2) z136 < (↑z138.length : Int)) ∧ ((0 : Int) ≤ ix (usableS y4 a.2) z136 ∧ ix (usableS y4 a.2) z136 < (↑z138.length : Int)) ∧ rec135 (IntKind.i64.wrap (z136 + (1 : Int))) (IntKind.i64.wrap (z137 - (ix z138 (ix (usableS y4 a.2) z136)).4)) (z138.set (ix (usableS y4 a.2) z136).toNat { Number := (ix z138 (ix (usableS y4 a.2) z136)).1, Owner := (ix z138 (ix (usableS y4 a.2) z136)).2, User := (ix z138 (ix (usableS y4 a.2) z136)).3, Squares := (ix z138 (ix (usableS y4 a.2) z136)).4, Value := (ix z138 (ix (usableS y4 a.2) z136)).5, Used := a.8 : api_Lot }))) (J134 z138)) ((0 : Int), a.5, y4, PUnit.unit))))))) ((0 : Int), false, (0 : Int), PUnit.unit))) (IFB (decide (a.1 = (7 : Int))) (JOIN [Ty.int IntKind.i64, (Ty.st Sn.api_Lot).sl, Ty.int IntKind.i64, Ty.int IntKind.i64, Ty.int IntKind.i64, Ty.int IntKind.i64] (fun (y152 : Int) (y153 : List api_Lot) (y154 y155 y156 y157 : Int) ↦ IFB (!decide (y152 = (0 : Int))) (J12 y152 y5 y156 y157 y156 y157) (J12 y152 y153 y154 y155 y156 y157)) fun (J158 : Int → List api_Lot → Int → Int → Int → Int → Prop) ↦ IFB (decide (a.8 < (0 : Int)) || decide ((100 : Int) < a.8)) (J158 (18 : Int) y4 x.2 x.3 x.2 x.3) (JOIN [(Ty.st Sn.api_Lot).sl, Ty.int IntKind.i64, Ty.int IntKind.i64, Ty.int IntKind.i64, Ty.int IntKind.i64] (fun (y159 : List api_Lot) (y160 y161 y162 y163 : Int) ↦ J158 (0 : Int) y159 y160 y161 y162 y163) fun (J164 : List api_Lot → Int → Int → Int → Int → Prop) ↦ JOIN [Ty.int IntKind.i64, Ty.int IntKind.i64, Ty.int IntKind.i64, Ty.int IntKind.i64, Ty.int IntKind.i64] (fun (y165 y166 y167 y168 y169 : Int) ↦ IFB (decide (y165 = (-1 : Int))) (J164 y4 y166 y167 y168 y169) (LOOP [Ty.int IntKind.i64, Ty.int IntKind.i64, Ty.int IntKind.i64, Ty.int IntKind.i64, Ty.int IntKind.i64, Ty.int IntKind.i64, (Ty.st Sn.api_Lot).sl] (fun (rec170 : Int → Int → Int → Int → Int → Int → List api_Lot → Prop) (z171 z172 z173 z174 z175 z176 : Int) (z177 : List api_Lot) ↦ (↑z177.length : Int) ≤ (9223372036854775807 : Int) → IFB (decide (z171 < (↑z177.length : Int))) (JOIN [Ty.int IntKind.i64, Ty.int IntKind.i64, Ty.int IntKind.i64, Ty.int IntKind.i64, Ty.int IntKind.i64, (Ty.st Sn.api_Lot).sl] (fun (y178 y179 y180 y181 y182 : Int) (y183 : List api_Lot) ↦ rec170 (IntKind.i64.wrap (z171 + (1 : Int))) y178 y179 y180 y181 y182 y183) fun (J184 : Int → Int → Int → Int → Int → List api_Lot → Prop) ↦ ((0 : Int) ≤ z171 ∧ z171 < (↑z177.length : Int)) ∧ JOIN [Ty.int IntKind.i64, Ty.int IntKind.i64, Ty.int IntKind.i64, Ty.int IntKind.i64] (fun (y185 y186 y187 y188 : Int) ↦ IFB (!decide ((ix z177 z171).6 ≤ IntKind.i64.wrap (a.8 - (2 : Int)))) (((0 : Int) ≤ z172 ∧ z172 < (↑z177.length : Int)) ∧ J184 (IntKind.i64.wrap (z172 + (1 : Int))) y185 y186 y187 y188 (z177.set z172.toNat { Number := (ix z177 z171).1, Owner := (ix z177 z171).2, User := (ix z177 z171).3, Squares := (ix z177 z171).4, Value := (ix z177 z171).5, Used := (ix z177 z171).6 : api_Lot })) (J184 z172 y185 y186 y187 y188 z177)) fun (J189 : Int → Int → Int → Int → Prop) ↦ IFB (decide ((ix z177 z171).6 ≤ IntKind.i64.wrap (a.8 - (2 : Int)))) (J189 (IntKind.i64.wrap (z173 + (ix z177 z171).4)) z174 z175 z176) (J189 z173 z174 z175 z176)) (((0 : Int) ≤ z172 ∧ z172 ≤ (↑z177.length : Int) ∧ (↑z177.length : Int) ≤ (↑z177.length : Int)) ∧ (Int.NonNeg (0 : Int) ∧ (0 : Int) ≤ z172 ∧ z172 ≤ (↑(List.take z172.toNat z177 ++ (List.replicate ((↑z177.length : Int).toNat - z172.toNat) { Number := (0 : Int), Owner := (0 : Int), User := (0 : Int), Squares := (0 : Int), Value := (0 : Int), Used := (0 : Int) : api_Lot } ++ List.drop (↑z177.length : Int).toNat z177)).length : Int)) ∧ J164 (List.take z172.toNat (List.take z172.toNat z177 ++ (List.replicate ((↑z177.length : Int).toNat - z172.toNat) { Number := (0 : Int), Owner := (0 : Int), User := (0 : Int), Squares := (0 : Int), Value := (0 : Int), Used := (0 : Int) : api_Lot } ++ List.drop (↑z177.length : Int).toNat z177))) z173 z174 z175 z176)) (IntKind.i64.wrap (y165 + (1 : Int)), y165, y166, y167, y168, y169, y4, PUnit.unit))) fun (J190 : Int → Int → Int → Int → Int → Prop) ↦ (↑y4.length : Int) ≤ (9223372036854775807 : Int) → LOOP [Ty.int IntKind.i64, Ty.int IntKind.i64, Ty.int IntKind.i64, Ty.int IntKind.i64, Ty.int IntKind.i64] (fun (rec191 : Int → Int → Int → Int → Int → Prop) (z192 z193 z194 z195 z196 : Int) ↦ IFB (decide (z192 < (↑y4.length : Int))) (((0 : Int) ≤ z192 ∧ z192 < (↑y4.length : Int)) ∧ JOIN [Ty.int IntKind.i64, Ty.int IntKind.i64, Ty.int IntKind.i64, Ty.int IntKind.i64] (fun (y197 y198 y199 y200 : Int) ↦ IFB (decide ((ix y4 z192).6 ≤ IntKind.i64.wrap (a.8 - (2 : Int)))) (J190 z192 y197 y198 y199 y200) (rec191 (IntKind.i64.wrap (z192 + (1 : Int))) y197 y198 y199 y200)) fun (J201 : Int → Int → Int → Int → Prop) ↦ IFB (decide ((ix y4 z192).6 ≤ IntKind.i64.wrap (a.8 - (2 : Int)))) (J201 (IntKind.i64.wrap (z193 + (ix y4 z192).4)) z194 z195 z196) (J201 z193 z194 z195 z196)) (J190 (-1 : Int) z193 z194 z195 z196)) ((0 : Int), x.2, x.3, x.2, x.3, PUnit.unit))) (IFB (decide (a.1 = (8 : Int))) (JOIN [Ty.int IntKind.i64, (Ty.st Sn.api_Lot).sl, Ty.int IntKind.i64, Ty.int IntKind.i64, Ty.int IntKind.i64, Ty.int IntKind.i64] (fun (y202 : Int) (y203 : List api_Lot) (y204 y205 y206 y207 : Int) ↦ IFB (!decide (y202 = (0 : Int))) (J12 y202 y5 y206 y207 y206 y207) (J12 y202 y203 y204 y205 y206 y207)) fun (J208 : Int → List api_Lot → Int → Int → Int → Int → Prop) ↦ JOIN [Ty.int IntKind.i64] (fun (y209 : Int) ↦ IFB (decide (y209 < (0 : Int))) (J208 (19 : Int) y4 x.2 x.3 x.2 x.3) ((gx false (decide (a.5 < (1 : Int))) = true → (0 : Int) ≤ y209 ∧ y209 < (↑y4.length : Int)) ∧ IFB (decide (a.5 < (1 : Int)) || decide ((ix y4 y209).4 < a.5)) (J208 (2 : Int) y4 x.2 x.3 x.2 x.3) (((0 : Int) ≤ y209 ∧ y209 < (↑y4.length : Int)) ∧ ((0 : Int) ≤ y209 ∧ y209 < (↑y4.length : Int)) ∧ IFB (!decide ((ix y4 y209).2 = (ix y4 y209).3)) (J208 (22 : Int) y4 x.2 x.3 x.2 x.3) (JOIN [(Ty.st Sn.api_Lot).sl, Ty.int IntKind.i64, Ty.int IntKind.i64, Ty.int IntKind.i64, Ty.int IntKind.i64] (fun (y210 : List api_Lot) (y211 y212 y213 y214 : Int) ↦ J208 (0 : Int) y210 (IntKind.i64.wrap (y211 + a.5)) y212 y213 y214) fun (J215 : List api_Lot → Int → Int → Int → Int → Prop) ↦ ((0 : Int) ≤ y209 ∧ y209 < (↑y4.length : Int)) ∧ ((0 : Int) ≤ y209 ∧ y209 < (↑y4.length : Int)) ∧ ((0 : Int) ≤ y209 ∧ y209 < (↑(y4.set y209.toNat { Number := (ix y4 y209).1, Owner := (ix y4 y209).2, User := (ix y4 y209).3, Squares := IntKind.i64.wrap ((ix y4 y209).4 - a.5), Value := (ix y4 y209).5, Used := (ix y4 y209).6 : api_Lot }).length : Int)) ∧ IFB (decide ((ix (y4.set y209.toNat { Number := (ix y4 y209).1, Owner := (ix y4 y209).2, User := (ix y4 y209).3, Squares := IntKind.i64.wrap ((ix y4 y209).4 - a.5), Value := (ix y4 y209).5, Used := (ix y4 y209).6 : api_Lot }) y209).4 = (0 : Int))) (((0 : Int) ≤ y209 ∧ y209 ≤ IntKind.i64.wrap (y209 + (1 : Int)) ∧ IntKind.i64.wrap (y209 + (1 : Int)) ≤ (↑(y4.set y209.toNat { Number := (ix y4 y209).1, Owner := (ix y4 y209).2, User := (ix y4 y209).3, Squares := IntKind.i64.wrap ((ix y4 y209).4 - a.5), Value := (ix y4 y209).5, Used := (ix y4 y209).6 : api_Lot }).length : Int) ∧ (y4.set y209.toNat { Number := (ix y4 y209).1, Owner := (ix y4 y209).2, User := (ix y4 y209).3, Squares := IntKind.i64.wrap ((ix y4 y209).4 - a.5), Value := (ix y4 y209).5, Used := (ix y4 y209).6 : api_Lot }).length ≤ (1000 : Nat)) ∧ J215 (List.take y209.toNat (y4.set y209.toNat { Number := (ix y4 y209).1, Owner := (ix y4 y209).2, User := (ix y4 y209).3, Squares := IntKind.i64.wrap ((ix y4 y209).4 - a.5), Value := (ix y4 y209).5, Used := (ix y4 y209).6 : api_Lot }) ++ List.drop (IntKind.i64.wrap (y209 + (1 : Int))).toNat (y4.set y209.toNat { Number := (ix y4 y209).1, Owner := (ix y4 y209).2, User := (ix y4 y209).3, Squares := IntKind.i64.wrap ((ix y4 y209).4 - a.5), Value := (ix y4 y209).5, Used := (ix y4 y209).6 : api_Lot })) x.2 x.3 x.2 x.3) (J215 (y4.set y209.toNat { Number := (ix y4 y209).1, Owner := (ix y4 y209).2, User := (ix y4 y209).3, Squares := IntKind.i64.wrap ((ix y4 y209).4 - a.5), Value := (ix y4 y209).5, Used := (ix y4 y209).6 : api_Lot }) x.2 x.3 x.2 x.3))))) fun (J216 : Int → Prop) ↦ (↑y4.length : Int) ≤ (9223372036854775807 : Int) → LOOP [Ty.int IntKind.i64] (fun (rec217 : Int → Prop) (z218 : Int) ↦ IFB (decide (z218 < (↑y4.length : Int))) (((0 : Int) ≤ z218 ∧ z218 < (↑y4.length : Int)) ∧ IFB (decide ((ix y4 z218).1 = a.4)) (J216 z218) (rec217 (IntKind.i64.wrap (z218 + (1 : Int))))) (J216 (-1 : Int))) ((0 : Int), PUnit.unit)) (IFB true (J12 (14 : Int) y5 x.2 x.3 x.2 x.3) (J12 (14 : Int) y4 x.2 x.3 x.2 x.3)))))))))) fun (J219 : List api_Lot → Prop) ↦ ∀ (v220 : Bool), (v220 = true → x.1 = []) → IFB v220 (J219 []) (((0 : Nat) + x.1.length) * (48 : Nat) ≤ (140737488355328 : Nat) ∧ J219 ([] ++ x.1))) fun (J221 : List api_Lot → Prop) ↦ ∀ (v222 : Bool), (v222 = true → x.1 = []) → IFB v222 (J221 []) (((0 : Nat) + x.1.length) * (48 : Nat) ≤ (140737488355328 : Nat) ∧ J221 ([] ++ x.1)))
theorem eapply_w (x : api_Entitlements) (a : api_Act) (post : dens (shT eapply_sp.rs []) → Prop) : eapply_W x a (fun y0 y1 => post (y0, y1, ())) = walkG (callF2 Try.prog eapply_C [sdel_sp] (drawR Try.prog tau) 14 0) 18 false [tv (.st .api_Entitlements) x, tv (.st .api_Act) a] eapply_sp.rs post := by kernel_rfl
theorem eapply_of (h : ∀ (x : api_Entitlements) (a : api_Act) (post : api_Entitlements → Int → Prop), eapply_P x a post → eapply_W x a post) : SpecOK Try.prog eapply_sp := SpecOK.of_walkG2 (C := eapply_C) (L2 := [sdel_sp]) (dr := drawR Try.prog tau) (n := 14) (fk := 0) (.cons echk_ok (.cons usab_ok (.cons edown_ok .nil))) (.cons sdel_ok .nil) (drawR_ok tau) fun x post hp => HoldW.of (eapply_w x.1 x.2.1 post) (h x.1 x.2.1 (fun y0 y1 => post (y0, y1, ())) hp)
end RE
end Go.Proofs.Ytpnmiieohdkenaa
set_option maxRecDepth 100000
set_option linter.unusedVariables false
namespace Go.Proofs.Ytpnmiieohdkenaa
open Go.RowKit
namespace RE
open PL
theorem JOIN.opq {ts : List Ty} {J : Cur ts} {B : Cur ts → Prop} (h : ∀ J', J' = J → B J') : JOIN ts J B := JOIN.mk (h J rfl)
theorem copy_ok {l : List api_Lot} {J : List api_Lot → Prop} (hl : l.length ≤ 1000) (h : J l) : ∀ v : Bool, (v = true → l = []) → IFB v (J []) (((0 : Nat) + l.length) * (48 : Nat) ≤ (140737488355328 : Nat) ∧ J ([] ++ l)) := fun v hv => IFB.mk (fun hb => by rw [← hv hb]; exact h) (fun _ => ⟨by omega, h⟩)
theorem find_ok {n : Int} {ls : List api_Lot} {J : Int → Prop} (hlen : ls.length ≤ 1000) (h : J (seekS n 0 ls)) : (ls.length : Int) ≤ (9223372036854775807 : Int) →
    LOOP [Ty.int IntKind.i64] (fun (rec : Int → Prop) (z : Int) ↦ IFB (decide (z < (ls.length : Int))) (((0 : Int) ≤ z ∧ z < (ls.length : Int)) ∧ IFB (decide ((ix ls z).1 = n)) (J z) (rec (IntKind.i64.wrap (z + (1 : Int))))) (J (-1 : Int))) ((0 : Int), PUnit.unit) := by
  intro _
  refine LOOP.list ls (fun k (s : Unit) => ((k : Int), ())) (fun u => (u.1.toNat)) (fun k r (s : Unit) => seekS n 0 ls = seekS n k r) (()) rfl (rfl) (fun k s h => by simp) ?_ ?_
  · intro rec k y r s hd hk hkl hG hrec
    have hx := ix_of hk
    have w1 : IntKind.i64.wrap ((k : Int) + 1) = k + 1 := wrap_in (by omega) (by omega)
    have hrec : seekS n 0 ls = seekS n ((k : Int) + 1) r → rec ((k : Int) + 1) := fun q => hrec () (by rw [q]; rfl)
    rw [seekS] at hG
    show IFB _ _ _
    simp only [w1, hx]
    refine IFB.mk (fun _ => ⟨⟨by omega, by omega⟩, IFB.mk (fun hb => ?_) (fun hb => ?_)⟩) (fun hb => absurd (of_decide_eq_false hb) (by omega))
    · rw [if_pos (of_decide_eq_true hb)] at hG; rw [← hG]; exact h
    · rw [if_neg (of_decide_eq_false hb)] at hG; exact hrec hG
  · intro rec s hG
    rw [seekS] at hG
    show IFB _ _ _
    refine IFB.mk (fun hb => absurd (of_decide_eq_true hb) (by omega)) (fun hb => ?_)
    rw [← hG]; exact h
theorem take_ok {n i : Int} {ls : List api_Lot} {J : List api_Lot → Prop} (hlen : ls.length ≤ 1000) (h0 : 0 ≤ i) (h1 : i < ls.length) (hq : (ix ls i).4 ≤ 268435456) (hn : 1 ≤ n) (hn2 : n ≤ (ix ls i).4) (h : J (takeS ls i.toNat n)) :
    ((0 : Int) ≤ i ∧ i < (ls.length : Int)) ∧ ((0 : Int) ≤ i ∧ i < (ls.length : Int)) ∧ ((0 : Int) ≤ i ∧ i < ((ls.set i.toNat ⟨(ix ls i).1, (ix ls i).2, (ix ls i).3, IntKind.i64.wrap ((ix ls i).4 - n), (ix ls i).5, (ix ls i).6⟩).length : Int)) ∧
    IFB (decide ((ix (ls.set i.toNat ⟨(ix ls i).1, (ix ls i).2, (ix ls i).3, IntKind.i64.wrap ((ix ls i).4 - n), (ix ls i).5, (ix ls i).6⟩) i).4 = (0 : Int)))
      (((0 : Int) ≤ i ∧ i ≤ IntKind.i64.wrap (i + 1) ∧ IntKind.i64.wrap (i + 1) ≤ ((ls.set i.toNat ⟨(ix ls i).1, (ix ls i).2, (ix ls i).3, IntKind.i64.wrap ((ix ls i).4 - n), (ix ls i).5, (ix ls i).6⟩).length : Int) ∧ (ls.set i.toNat ⟨(ix ls i).1, (ix ls i).2, (ix ls i).3, IntKind.i64.wrap ((ix ls i).4 - n), (ix ls i).5, (ix ls i).6⟩).length ≤ (1000 : Nat)) ∧
        J (List.take i.toNat (ls.set i.toNat ⟨(ix ls i).1, (ix ls i).2, (ix ls i).3, IntKind.i64.wrap ((ix ls i).4 - n), (ix ls i).5, (ix ls i).6⟩) ++ List.drop (IntKind.i64.wrap (i + 1)).toNat (ls.set i.toNat ⟨(ix ls i).1, (ix ls i).2, (ix ls i).3, IntKind.i64.wrap ((ix ls i).4 - n), (ix ls i).5, (ix ls i).6⟩)))
      (J (ls.set i.toNat ⟨(ix ls i).1, (ix ls i).2, (ix ls i).3, IntKind.i64.wrap ((ix ls i).4 - n), (ix ls i).5, (ix ls i).6⟩)) := by
  have w1 : IntKind.i64.wrap (i + 1) = i + 1 := wrap_in (by omega) (by omega)
  have w2 : IntKind.i64.wrap ((ix ls i).4 - n) = (ix ls i).4 - n := wrap_in (by omega) (by omega)
  rw [w1, w2, ix_set h0 h1]
  have hii : ((i.toNat : Nat) : Int) = i := by omega
  have hlt : i.toNat < ls.length := by omega
  simp only [List.length_set]
  refine ⟨⟨h0, h1⟩, ⟨h0, h1⟩, ⟨h0, h1⟩, IFB.mk (fun hb => ⟨⟨h0, by omega, by omega, hlen⟩, ?_⟩) (fun hb => ?_)⟩
  · have hb : (ix ls i).4 - n = 0 := of_decide_eq_true hb
    have e := takeS_cut (l := ls) (i := i.toNat) (n := n) hlt (by rw [hii]; exact hb)
    rw [List.take_set_of_le (by omega), List.drop_set_of_lt (by omega), show (i + 1).toNat = i.toNat + 1 by omega, e]
    exact h
  · have hb : (ix ls i).4 - n ≠ 0 := of_decide_eq_false hb
    have e := takeS_set (l := ls) (i := i.toNat) (n := n) hlt (by rw [hii]; exact hb)
    rw [hii] at e
    rw [e]; exact h
theorem eapply_ok : SpecOK Try.prog eapply_sp := eapply_of fun x a post hp => by
  obtain ⟨hl, hp⟩ := hp
  obtain ⟨ls, re, nx⟩ := x
  have hl : ls.length ≤ 200 := hl
  unfold eapply_W
  unfold applyS at hp
  refine ⟨trivial, IFB.mk (fun hc => ?_) (fun hc => ?_)⟩
  · have hc : chkE ⟨ls, re, nx⟩ ≠ 0 := by simpa using hc
    rw [if_pos hc] at hp
    exact JOIN.opq fun J hJ => copy_ok (J := J) (by omega) (by rw [hJ]; exact hp)
  have hc : chkE ⟨ls, re, nx⟩ = 0 := by simpa using hc
  rw [if_neg (fun h => h hc)] at hp
  refine JOIN.opq fun (J : List api_Lot → Prop) hJ => copy_ok (J := J) (by show ls.length ≤ 1000; omega) ?_
  rw [hJ]
  clear hJ J
  refine JOIN.opq fun (J : List api_Lot → Prop) hJ => copy_ok (J := J) (by show ls.length ≤ 1000; omega) ?_
  rw [hJ]
  clear hJ J
  refine JOIN.opq fun (J12 : Int → List api_Lot → Int → Int → Int → Int → Prop) h12 => ?_
  obtain ⟨e, l, r, n, hA⟩ : ∃ e l r n, actS ls re nx a = (l, r, n, e) := ⟨_, _, _, _, rfl⟩
  have fin : IFB (!decide (e = 0)) (J12 e ls re nx re nx) (J12 e l r n re nx) := by
    rw [hA] at hp
    rw [h12]
    refine IFB.mk (fun hb => ?_) (fun hb => ?_)
    · have hb : e ≠ 0 := by simpa using hb
      rw [if_pos hb] at hp; exact hp
    · have hb : e = 0 := by simpa using hb
      subst hb
      exact hp
  have hl1 := chkE_lots hc
  have hr := chkE_res hc
  obtain ⟨_, hl2⟩ := hl1
  have hl2 : ∀ l ∈ ls, LotOK l := hl2
  have hr : 1 ≤ nx ∧ nx ≤ 1073741824 ∧ 0 ≤ re ∧ re ≤ 1099511627776 ∧ sumL ls + re ≤ 1099511627776 := hr
  have hgm : ∀ i : Int, 0 ≤ i → i < ls.length → LotOK (ix ls i) := fun i h h' => hl2 _ (get_mem h h')
  clear hp h12
  clear hc
  refine IFB.mk (fun h1 => ?_) (fun h1 => ?_)
  · have h1 : a.1 = 1 := of_decide_eq_true h1
    refine JOIN.opq fun (J19 : Int → List api_Lot → Int → Int → Int → Int → Prop) h19 => ?_
    have k : J19 e l r n re nx := by rw [h19]; exact fin
    clear fin h19 hgm hl2
    unfold actS farmP addS at hA
    simp only [h1, if_true] at hA
    have w1 : 1 ≤ a.5 → a.5 ≤ 268435456 → IntKind.i64.wrap (re - a.5) = re - a.5 := fun h1 h2 => wrap_in (by omega) (by omega)
    have w2 : nx < 1073741824 → IntKind.i64.wrap (nx + 1) = nx + 1 := fun h => wrap_in (by omega) (by omega)
    repeat' (first | (refine JOIN.mk ?_) | (refine IFB.mk (fun hb => ?_) (fun hb => ?_)) | (with_reducible refine And.intro ?_ ?_) | intro hh)
    all_goals grind (splits := 20) [gx_f]
  have h1 : ¬ a.1 = 1 := of_decide_eq_false h1
  refine IFB.mk (fun h2 => ?_) (fun h2 => ?_)
  · have h2 : a.1 = 2 := of_decide_eq_true h2
    refine JOIN.opq fun (J41 : Int → List api_Lot → Int → Int → Int → Int → Prop) h19 => ?_
    have k : J41 e l r n re nx := by rw [h19]; exact fin
    clear fin h19
    refine JOIN.opq fun (J65 : Int → Int → Prop) hK => ?_
    refine JOIN.opq fun (J : Int → Prop) hJ => find_ok (J := J) (by omega) ?_
    rw [hJ]
    clear hJ J
    have hs := seekS_spec (n := a.4) (l := ls) (k := 0) (by omega)
    unfold actS moveS farmP at hA
    simp only [h2] at hA
    obtain ⟨i, hi⟩ : ∃ i, seekS a.4 0 ls = i := ⟨_, rfl⟩
    simp only [hi] at hA hs ⊢
    have hgm := hgm i
    unfold LotOK at hgm
    have hbad : ∀ q c : Int, c ≠ 0 → J41 c ls re nx re nx → J65 q c := by
      intro q c hc hj
      rw [hK]
      refine JOIN.mk (IFB.mk (fun hb => ?_) (fun hb => ?_))
      · exfalso; simp [hc] at hb
      · exact IFB.mk (fun _ => hj) (fun hb => absurd (by simpa using hb) hc)
    refine IFB.mk (fun hb => hbad _ _ (by decide) (by grind)) (fun hb => ⟨by grind, IFB.mk (fun hb1 => hbad _ _ (by decide) (by grind)) (fun hb1 => IFB.mk (fun hb2 => hbad _ _ (by decide) (by grind)) (fun hb2 => IFB.mk (fun hb3 => hbad _ _ (by decide) (by grind)) (fun hb3 => ?_)))⟩)
    rw [hK]
    clear hK hbad
    have hsq : 1 ≤ a.5 ∧ a.5 ≤ (ix ls i).4 ∧ 0 ≤ i ∧ i < ls.length := by grind
    have hq4 : (ix ls i).4 ≤ 268435456 := by grind
    refine JOIN.mk (IFB.mk (fun hb4 => ?_) (fun hb4 => ?_))
    · exact IFB.mk (fun _ => by grind) (fun hb => by simp at hb)
    refine IFB.mk (fun hb => by simp at hb) (fun _ => ?_)
    have hkp : 0 ≤ a.7 ∧ a.7 ≤ 1000000 := by grind
    obtain ⟨e1, e2, e3, e4, e5⟩ := @prod_in a.5 a.7 hsq.1 (by omega) hkp.1 hkp.2
    unfold keptS at hA
    simp only [h2, if_true, e1] at hA ⊢
    refine ⟨⟨e2, by omega, by omega, by omega⟩, ⟨by omega, by omega⟩, JOIN.opq fun (J : List api_Lot → Int → Int → Int → Int → Prop) hJ => take_ok (J := fun l => J l re nx re nx) (by omega) (by omega) (by omega) hq4 (by omega) (by omega) ?_⟩
    rw [hJ]
    clear hJ J
    have htl := takeS_len (n := a.5) (l := ls) (i := i.toNat)
    obtain ⟨q, hq⟩ : ∃ q, a.5 * a.7 / 1000000 = q := ⟨_, rfl⟩
    obtain ⟨t, ht⟩ : ∃ t, takeS ls i.toNat a.5 = t := ⟨_, rfl⟩
    simp only [hq, ht] at hA e4 e5 htl ⊢
    have w1 : IntKind.i64.wrap (a.5 - q) = a.5 - q := wrap_in (by omega) (by omega)
    have w2 : IntKind.i64.wrap (re + q) = re + q := wrap_in (by omega) (by omega)
    have w3 : IntKind.i64.wrap (nx + 1) = nx + 1 := wrap_in (by omega) (by omega)
    simp only [w1, w2, w3]
    unfold addS at hA
    clear hq ht e1 e2 e3 hs
    repeat' (first | (refine JOIN.mk ?_) | (refine IFB.mk (fun hb => ?_) (fun hb => ?_)) | (with_reducible refine And.intro ?_ ?_) | intro hh)
    all_goals grind (splits := 20)
  have h2 : ¬ a.1 = 2 := of_decide_eq_false h2
  refine IFB.mk (fun h3 => ?_) (fun h3 => ?_)
  · have h3 : a.1 = 3 := of_decide_eq_true h3
    refine JOIN.opq fun (J76 : Int → List api_Lot → Int → Int → Int → Int → Prop) h19 => ?_
    have k : J76 e l r n re nx := by rw [h19]; exact fin
    clear fin h19
    refine JOIN.opq fun (J98 : Int → Int → Prop) hK => ?_
    refine JOIN.opq fun (J : Int → Prop) hJ => find_ok (J := J) (by omega) ?_
    rw [hJ]
    clear hJ J
    have hs := seekS_spec (n := a.4) (l := ls) (k := 0) (by omega)
    unfold actS moveS farmP at hA
    simp only [h3] at hA
    obtain ⟨i, hi⟩ : ∃ i, seekS a.4 0 ls = i := ⟨_, rfl⟩
    simp only [hi] at hA hs ⊢
    have hgm := hgm i
    unfold LotOK at hgm
    have hbad : ∀ q c : Int, c ≠ 0 → J76 c ls re nx re nx → J98 q c := by
      intro q c hc hj
      rw [hK]
      exact IFB.mk (fun _ => hj) (fun hb => absurd (by simpa using hb) hc)
    refine IFB.mk (fun hb => hbad _ _ (by decide) (by grind)) (fun hb => ⟨by grind, IFB.mk (fun hb1 => hbad _ _ (by decide) (by grind)) (fun hb1 => IFB.mk (fun hb2 => hbad _ _ (by decide) (by grind)) (fun hb2 => IFB.mk (fun hb3 => hbad _ _ (by decide) (by grind)) (fun hb3 => ?_)))⟩)
    rw [hK]
    clear hK hbad
    have hsq : 1 ≤ a.5 ∧ a.5 ≤ (ix ls i).4 ∧ 0 ≤ i ∧ i < ls.length := by grind
    have hq4 : (ix ls i).4 ≤ 268435456 := by grind
    refine IFB.mk (fun hb => by simp at hb) (fun _ => ?_)
    dsimp only
    unfold keptS at hA
    simp only [h3] at hA
    refine ⟨⟨by omega, by omega⟩, JOIN.opq fun (J : List api_Lot → Int → Int → Int → Int → Prop) hJ => take_ok (J := fun l => J l re nx re nx) (by omega) (by omega) (by omega) hq4 (by omega) (by omega) ?_⟩
    rw [hJ]
    clear hJ J
    have htl := takeS_len (n := a.5) (l := ls) (i := i.toNat)
    obtain ⟨t, ht⟩ : ∃ t, takeS ls i.toNat a.5 = t := ⟨_, rfl⟩
    simp only [ht] at hA htl ⊢
    have w3 : IntKind.i64.wrap (nx + 1) = nx + 1 := wrap_in (by omega) (by omega)
    simp only [w3]
    unfold addS at hA
    clear ht hs
    repeat' (first | (refine JOIN.mk ?_) | (refine IFB.mk (fun hb => ?_) (fun hb => ?_)) | (with_reducible refine And.intro ?_ ?_) | intro hh)
    all_goals grind (splits := 20)
  have h3 : ¬ a.1 = 3 := of_decide_eq_false h3
  refine IFB.mk (fun h4 => ?_) (fun h4 => ?_)
  · have h4 : a.1 = 4 := of_decide_eq_true h4
    refine JOIN.opq fun (J19 : Int → List api_Lot → Prop) h19 => ?_
    have k : J19 e l := by
      rw [h19]
      have e1 : r = re ∧ n = nx := by unfold actS at hA; simp only [h4] at hA; grind
      rw [e1.1, e1.2] at fin
      exact fin
    refine JOIN.opq fun (J : Int → Prop) hJ => find_ok (J := J) (by omega) ?_
    rw [hJ]
    clear hJ J
    have hs := seekS_spec (n := a.4) (l := ls) (k := 0) (by omega)
    unfold actS at hA
    simp only [h4] at hA
    clear fin h19 hgm hl2
    refine IFB.mk (fun hb => ?_) (fun hb => ?_)
    · grind
    refine ⟨?_, ?_, IFB.mk (fun hb => ?_) (fun hb => ?_)⟩
    · grind
    · grind
    · grind
    · refine ⟨?_, ?_, ?_⟩
      · grind
      · grind
      · grind
  have h4 : ¬ a.1 = 4 := of_decide_eq_false h4
  refine IFB.mk (fun h5 => ?_) (fun h5 => ?_)
  · have h5 : a.1 = 5 := of_decide_eq_true h5
    refine JOIN.opq fun (J19 : Int → List api_Lot → Prop) h19 => ?_
    have k : J19 e l := by
      rw [h19]
      have e1 : r = re ∧ n = nx := by unfold actS at hA; simp only [h5] at hA; grind
      rw [e1.1, e1.2] at fin
      exact fin
    clear fin h19 hgm hl2 hr
    unfold actS farmP at hA
    simp only [h5, Int.reduceEq, or_self, reduceIte] at hA
    refine JOIN.mk ?_
    have go : ∀ y : Bool, y = decide (1 ≤ a.3 ∧ a.3 ≤ 60) ∨ ¬ (1 ≤ a.2 ∧ a.2 ≤ 60) → IFB (!(decide ((1 : Int) ≤ a.2) && decide (a.2 ≤ (60 : Int))) || !y || decide (a.2 = a.3)) (J19 20 ls) ((ls.length : Int) ≤ (9223372036854775807 : Int) → LOOP [Ty.int IntKind.i64, (Ty.st .api_Lot).sl] (fun (rec : Int → List api_Lot → Prop) (z : Int) (zs : List api_Lot) ↦ IFB (decide (z < (ls.length : Int))) (JOIN [(Ty.st .api_Lot).sl] (fun (y117 : List api_Lot) ↦ rec (IntKind.i64.wrap (z + (1 : Int))) y117) fun (J118 : List api_Lot → Prop) ↦ ((0 : Int) ≤ z ∧ z < (zs.length : Int)) ∧ JOIN [(Ty.st .api_Lot).sl] (fun (y119 : List api_Lot) ↦ IFB (decide ((ix y119 z).3 = a.2)) (J118 (y119.set z.toNat { Number := (ix y119 z).1, Owner := (ix y119 z).2, User := a.3, Squares := (ix y119 z).4, Value := (ix y119 z).5, Used := (ix y119 z).6 : api_Lot })) (J118 y119)) fun (J120 : List api_Lot → Prop) ↦ IFB (decide ((ix zs z).2 = a.2)) (J120 (zs.set z.toNat { Number := (ix zs z).1, Owner := a.3, User := (ix zs z).3, Squares := (ix zs z).4, Value := (ix zs z).5, Used := (ix zs z).6 : api_Lot })) (J120 zs)) (J19 0 zs)) ((0 : Int), ls, PUnit.unit)) := by
      intro y hy
      refine IFB.mk (fun hb => ?_) (fun hb => ?_)
      · rw [if_pos (by grind)] at hA; grind
      rw [if_neg (by grind)] at hA
      have hA : (ls.map (heirS a.2 a.3), e) = (l, e) ∧ e = 0 := by grind
      have hle : l = ls.map (heirS a.2 a.3) := by have := hA.1; injection this with q1 q2; exact q1.symm
      rw [hA.2, hle] at k
      intro _
      refine LOOP.list ls (fun k s => ((k : Int), s, ())) (fun u => u.1.toNat) (fun k r (s : List api_Lot) => s = (ls.take k).map (heirS a.2 a.3) ++ ls.drop k) ls rfl (by simp) (fun k s h => by simp) ?_ ?_
      · intro rec k y r s hd hk hkl hG hrec
        have hx := ix_of hk
        have w1 : IntKind.i64.wrap ((k : Int) + 1) = k + 1 := wrap_in (by omega) (by omega)
        subst hG
        have hrec : rec ((k : Int) + 1) ((ls.take (k + 1)).map (heirS a.2 a.3) ++ ls.drop (k + 1)) := hrec _ rfl
        have hat : ix ((ls.take k).map (heirS a.2 a.3) ++ ls.drop k) (k : Int) = y := map_at hk
        have hlen := map_len (l := ls) (f := heirS a.2 a.3) (k := k)
        rw [← map_step hk] at hrec
        obtain ⟨zs, hz⟩ : ∃ zs, (ls.take k).map (heirS a.2 a.3) ++ ls.drop k = zs := ⟨_, rfl⟩
        simp only [hz] at hrec hat hlen ⊢
        have hat2 : ∀ u : api_Lot, ix (zs.set k u) (k : Int) = u := fun u => by have := ix_set (l := zs) (i := (k : Int)) (v := u) (by omega) (by omega); simpa using this
        have hss : ∀ u v : api_Lot, (zs.set k u).set k v = zs.set k v := fun u v => by simp
        have hself : zs.set k y = zs := by
          apply List.ext_getElem?
          intro q
          rw [List.getElem?_set]
          split
          · rename_i e
            subst e
            rw [if_pos (by omega)]
            have := ix_get (l := zs) (i := (k : Int)) ⟨by omega, by omega⟩
            rw [hat] at this
            simpa using this.symm
          · rfl
        have e1 : y.3 = a.2 → y.2 = a.2 → zs.set k { Number := y.1, Owner := a.3, User := a.3, Squares := y.4, Value := y.5, Used := y.6 : api_Lot } = zs.set k (heirS a.2 a.3 y) := fun q1 q2 => by unfold heirS; rw [if_pos q1, if_pos q2]
        have e2 : y.3 = a.2 → y.2 ≠ a.2 → zs.set k { Number := y.1, Owner := y.2, User := a.3, Squares := y.4, Value := y.5, Used := y.6 : api_Lot } = zs.set k (heirS a.2 a.3 y) := fun q1 q2 => by unfold heirS; rw [if_pos q1, if_neg q2]
        have e3 : y.3 ≠ a.2 → y.2 = a.2 → zs.set k { Number := y.1, Owner := a.3, User := y.3, Squares := y.4, Value := y.5, Used := y.6 : api_Lot } = zs.set k (heirS a.2 a.3 y) := fun q1 q2 => by unfold heirS; rw [if_neg q1, if_pos q2]
        have e4 : y.3 ≠ a.2 → y.2 ≠ a.2 → zs = zs.set k (heirS a.2 a.3 y) := fun q1 q2 => by unfold heirS; rw [if_neg q1, if_neg q2]; exact hself.symm
        show IFB _ _ _
        simp only [w1, hat, Int.toNat_natCast]
        refine IFB.mk (fun _ => JOIN.mk ⟨⟨by omega, by omega⟩, JOIN.mk (IFB.mk (fun ho => ?_) (fun ho => ?_))⟩) (fun h => absurd (of_decide_eq_false h) (by omega))
        · have ho : y.2 = a.2 := of_decide_eq_true ho
          simp only [hat2, hss]
          refine IFB.mk (fun hu => ?_) (fun hu => ?_)
          · rw [e1 (of_decide_eq_true hu) ho]; exact hrec
          · rw [e3 (of_decide_eq_false hu) ho]; exact hrec
        · have ho : ¬ y.2 = a.2 := of_decide_eq_false ho
          simp only [hat]
          refine IFB.mk (fun hu => ?_) (fun hu => ?_)
          · rw [e2 (of_decide_eq_true hu) ho]; exact hrec
          · rw [e4 (of_decide_eq_false hu) ho]; exact hrec
      · intro rec s hG
        have hG : s = ls.map (heirS a.2 a.3) := by rw [hG]; simp; rfl
        rw [← hG] at k
        show IFB _ _ _
        exact IFB.mk (fun h => absurd (of_decide_eq_true h) (by omega)) (fun _ => k)
    refine IFB.mk (fun hb => go _ (.inl (by grind))) (fun hb => go _ (.inr (by rw [gx_f] at hb; simp at hb; omega)))
  have h5 : ¬ a.1 = 5 := of_decide_eq_false h5
  refine IFB.mk (fun h6 => ?_) (fun h6 => ?_)
  · have h6 : a.1 = 6 := of_decide_eq_true h6
    refine JOIN.opq fun (J128 : Int → List api_Lot → Int → Int → Int → Int → Prop) h19 => ?_
    have k : J128 e l r n re nx := by rw [h19]; exact fin
    clear fin h19 hgm
    unfold actS at hA
    simp only [h6, Int.reduceEq, or_self, reduceIte] at hA
    have hp : J128 (useAct ls re nx a).2.2.2 (useAct ls re nx a).1 (useAct ls re nx a).2.1 (useAct ls re nx a).2.2.1 re nx := by rw [hA]; exact k
    clear hA k
    obtain ⟨us, hus⟩ : ∃ us, usableS ls a.2 = us := ⟨_, rfl⟩
    have hum : ∀ j ∈ us, 0 ≤ j ∧ j < ls.length := fun j hj => by rw [← hus] at hj; exact usableS_mem hj
    have hul : us.length ≤ 200 := by rw [← hus]; have := usableS_len (l := ls) (n := a.2); omega
    have hum4 : ∀ j ∈ us, 1 ≤ (ix ls j).4 ∧ (ix ls j).4 ≤ 268435456 := fun j hj => by have h := hum j hj; have := hl2 _ (get_mem h.1 h.2); unfold LotOK at this; omega
    have hsum : SI ls us = useS a.2 ls := by rw [← hus]; exact SI_us
    unfold useAct farmP at hp
    rw [← hsum, hus] at hp
    simp only [hus]
    clear hsum hus
    refine ⟨(by omega), fun _ => ?_⟩
    refine LOOP.list us (fun k (s : Bool × Int) => ((k : Int), s.1, s.2, ())) (fun u => u.1.toNat) (fun k r s => ((s.1 = true ∨ ∃ i ∈ r, a.8 < (ix ls i).6) ↔ ∃ i ∈ us, a.8 < (ix ls i).6) ∧ s.2 + SI ls r = SI ls us ∧ 0 ≤ s.2 ∧ s.2 ≤ 268435456 * k) (false, 0) rfl ⟨by simp, by show 0 + SI ls us = SI ls us; omega, by decide, by simp⟩ (fun k s h => by simp) ?_ ?_
    · intro rec k y r s hd hk hkl hG hrec
      obtain ⟨b, t⟩ := s
      obtain ⟨q1, q2, q3, q4⟩ := hG
      have q2 : t + SI ls (y :: r) = SI ls us := q2
      have q3 : 0 ≤ t := q3
      have q4 : t ≤ 268435456 * k := q4
      have hym := List.mem_of_getElem? hk
      have hy := hum y hym
      have hy4 := hum4 y hym
      have hx := ix_of hk
      have w1 : IntKind.i64.wrap ((k : Int) + 1) = ((k + 1 : Nat) : Int) := by rw [wrap_in (by omega) (by omega)]; rfl
      have w2 : IntKind.i64.wrap (t + (ix ls y).4) = t + (ix ls y).4 := wrap_in (by omega) (by omega)
      have eS : SI ls (y :: r) = (ix ls y).4 + SI ls r := rfl
      show IFB _ _ _
      simp only [w1, hx, w2]
      refine IFB.mk (fun _ => ⟨⟨by omega, by omega⟩, hy, fun _ => hy, hrec (b || decide (a.8 < (ix ls y).6), t + (ix ls y).4) ⟨?_, ?_, ?_, ?_⟩⟩) (fun h => absurd (of_decide_eq_false h) (by omega))
      · rw [← q1]; simp [or_assoc]
      · show t + (ix ls y).4 + SI ls r = SI ls us; omega
      · show 0 ≤ t + (ix ls y).4; omega
      · show t + (ix ls y).4 ≤ 268435456 * ((k + 1 : Nat) : Int); omega
    · intro rec s hG
      obtain ⟨b, t⟩ := s
      obtain ⟨q1, q2, q3, q4⟩ := hG
      have q1 : b = true ↔ ∃ i ∈ us, a.8 < (ix ls i).6 := by rw [← q1]; simp
      have q2 : t = SI ls us := by simpa [SI] using q2
      show IFB _ _ _
      refine IFB.mk (fun h => absurd (of_decide_eq_true h) (by omega)) (fun _ => ?_)
      rw [← q2] at hp
      clear q2 q3 q4
      refine IFB.mk (fun h => ?_) (fun h => ?_)
      · rw [if_pos (by grind)] at hp; exact hp
      rw [if_neg (by grind)] at hp
      refine IFB.mk (fun h => ?_) (fun h => ?_)
      · rw [if_pos (by rw [← q1]; grind)] at hp; exact hp
      rw [if_neg (by rw [← q1]; grind)] at hp
      clear q1
      refine IFB.mk (fun h => ?_) (fun h => ?_)
      · rw [if_pos (by grind)] at hp; exact hp
      rw [if_neg (by grind)] at hp
      have hsq : 1 ≤ a.5 ∧ a.5 ≤ 268435456 := by grind
      refine IFB.mk (fun h => ?_) (fun h => ?_)
      · rw [if_pos (of_decide_eq_true h)] at hp; exact hp
      rw [if_neg (of_decide_eq_false h)] at hp
      refine JOIN.opq fun (J134 : List api_Lot → Prop) h134 => ?_
      obtain ⟨R, hR⟩ : ∃ R, useL a.8 ls a.5 us = R := ⟨_, rfl⟩
      rw [hR] at hp
      intro _
      refine LOOP.list us (fun k (s : Int × List api_Lot) => ((k : Int), s.1, s.2, ())) (fun u => u.1.toNat) (fun k r s => s.2.length = ls.length ∧ (∀ l ∈ s.2, 1 ≤ l.4 ∧ l.4 ≤ 268435456) ∧ 0 ≤ s.1 ∧ s.1 ≤ a.5 ∧ useL a.8 s.2 s.1 r = R) (a.5, ls) rfl ⟨rfl, fun l hl => by have := hl2 l hl; unfold LotOK at this; omega, by show 0 ≤ a.5; omega, by show a.5 ≤ a.5; omega, hR⟩ (fun k s h => by simp) ?_ ?_
      · intro rec k y r s hd hk hkl hG hrec
        obtain ⟨left, zs⟩ := s
        obtain ⟨q1, q2, q3, q4, q5⟩ := hG
        have q1 : zs.length = ls.length := q1
        have q3 : 0 ≤ left := q3
        have q4 : left ≤ a.5 := q4
        have q5 : useL a.8 zs left (y :: r) = R := q5
        obtain ⟨hy1, hy2⟩ := hum y (List.mem_of_getElem? hk)
        have hx := ix_of hk
        have w1 : IntKind.i64.wrap ((k : Int) + 1) = ((k + 1 : Nat) : Int) := by rw [wrap_in (by omega) (by omega)]; rfl
        have w3 : nx < 1073741824 → IntKind.i64.wrap (nx + 1) = nx + 1 := fun h => wrap_in (by omega) (by omega)
        obtain ⟨v, hv⟩ : ∃ v, ix zs y = v := ⟨_, rfl⟩
        have hvm : 1 ≤ v.4 ∧ v.4 ≤ 268435456 := by rw [← hv]; exact q2 _ (get_mem hy1 (by omega))
        have hsl : ∀ u : api_Lot, (zs.set y.toNat u).length = ls.length := fun u => by rw [List.length_set]; exact q1
        unfold useL at q5
        rw [hv] at q5
        show IFB _ _ _
        simp only [w1, hx, hv, hsl, q1]
        refine IFB.mk (fun _ => ⟨⟨by omega, by omega⟩, ⟨by omega, by omega⟩, IFB.mk (fun h1 => IFB.mk (fun h0 => ⟨⟨by omega, by omega⟩, ⟨by omega, by omega⟩, ⟨by omega, by omega⟩, JOIN.mk ?_⟩) (fun h0 => ?_)) (fun h1 => ⟨⟨by omega, by omega⟩, ⟨by omega, by omega⟩, ?_⟩)⟩) (fun h => absurd (of_decide_eq_false h) (by omega))
        · have h0 : 0 < left := of_decide_eq_true h0
          have h1 : left < v.4 := of_decide_eq_true h1
          rw [if_neg (by omega), if_neg (by omega)] at q5
          have wl : IntKind.i64.wrap (v.4 - left) = v.4 - left := wrap_in (by omega) (by omega)
          simp only [wl]
          rw [← q5] at hp
          unfold addS at hp
          simp only [hsl] at hp
          intro _
          refine IFB.mk (fun h => ?_) (fun h => JOIN.mk ⟨?_, ?_⟩)
          · rw [if_pos (by grind)] at hp; exact hp
          · simp; omega
          · rw [if_neg (by grind)] at hp
            rw [w3 (by grind)]
            exact hp
        · have h0 : ¬ 0 < left := of_decide_eq_false h0
          rw [if_pos (by omega)] at q5
          rw [h134]
          rw [← q5] at hp; exact hp
        · have h1 : ¬ left < v.4 := of_decide_eq_false h1
          rw [if_neg (by omega), if_pos (by omega)] at q5
          have wl : IntKind.i64.wrap (left - v.4) = left - v.4 := wrap_in (by omega) (by omega)
          rw [wl]
          refine hrec (left - v.4, zs.set y.toNat { v with Used := a.8 }) ⟨hsl _, fun l hl => ?_, by show 0 ≤ left - v.4; omega, by show left - v.4 ≤ a.5; omega, q5⟩
          rcases List.mem_or_eq_of_mem_set hl with h | h
          · exact q2 l h
          · rw [h]; exact hvm
      · intro rec s hG
        obtain ⟨left, zs⟩ := s
        obtain ⟨q1, q2, q3, q4, q5⟩ := hG
        have q5 : useL a.8 zs left [] = R := q5
        unfold useL at q5
        rw [← q5] at hp
        show IFB _ _ _
        exact IFB.mk (fun h => absurd (of_decide_eq_true h) (by omega)) (fun _ => by rw [h134]; exact hp)
  have h6 : ¬ a.1 = 6 := of_decide_eq_false h6
  refine IFB.mk (fun h7 => ?_) (fun h7 => ?_)
  · have h7 : a.1 = 7 := of_decide_eq_true h7
    refine JOIN.opq fun (J158 : Int → List api_Lot → Int → Int → Int → Int → Prop) h19 => ?_
    have k : J158 e l r n re nx := by rw [h19]; exact fin
    clear fin h19 hgm
    unfold actS at hA
    simp only [h7, Int.reduceEq, or_self, reduceIte] at hA
    refine IFB.mk (fun hb => ?_) (fun hb => ?_)
    · rw [if_pos (by grind)] at hA; grind
    rw [if_neg (by grind)] at hA
    have hyr : 0 ≤ a.8 ∧ a.8 ≤ 100 := by grind
    have k : J158 0 (lapseS a.8 ls) (re + lapseN a.8 ls) nx re nx := by
      injection hA with q1 hA
      injection hA with q2 hA
      injection hA with q3 q4
      rw [← q1, ← q2, ← q3, ← q4] at k
      exact k
    clear hA hb
    have wy : IntKind.i64.wrap (a.8 - 2) = a.8 - 2 := wrap_in (by omega) (by omega)
    simp only [wy]
    have hL : ∀ l ∈ ls, 1 ≤ l.4 ∧ l.4 ≤ 268435456 := fun l h => by have := hl2 l h; unfold LotOK at this; omega
    have b1 := lapseN_le (y := a.8) hL
    refine JOIN.opq fun (J164 : List api_Lot → Int → Int → Int → Int → Prop) h164 => ?_
    have k2 : J164 (lapseS a.8 ls) (re + lapseN a.8 ls) nx re nx := by rw [h164]; exact k
    clear k h164
    refine JOIN.opq fun (J190 : Int → Int → Int → Int → Int → Prop) h190 => ?_
    have hm : lapseS a.8 ls = ls ∧ lapseN a.8 ls = 0 → J190 (-1) re nx re nx := fun hq => by
      rw [h190]
      exact IFB.mk (fun _ => by rw [hq.1, hq.2, Int.add_zero] at k2; exact k2) (fun hb => by simp at hb)
    have hgo : ∀ (i : Nat) (y : api_Lot) (r : List api_Lot), ls.drop i = y :: r → ls[i]? = some y → i < ls.length → y.6 ≤ a.8 - 2 → lapseS a.8 ls = ls.take i ++ lapseS a.8 r → lapseN a.8 ls = y.4 + lapseN a.8 r → J190 (i : Int) (re + y.4) nx re nx := by
      intro i y r hdr hiy hil hly hS hN
      have hrL : ∀ x ∈ r, 1 ≤ x.4 ∧ x.4 ≤ 268435456 := fun x hx => hL x (List.mem_of_mem_drop (i := i) (by rw [hdr]; simp [hx]))
      have hyL := hL y (List.mem_of_getElem? hiy)
      have hr1 : ls.drop (i + 1) = r := by rw [← List.drop_drop, hdr]; rfl
      have hrl : r.length + (i + 1) = ls.length := by rw [← hr1]; simp; omega
      rw [h190]
      clear h190 hm hdr
      have w1 : IntKind.i64.wrap ((i : Int) + 1) = i + 1 := wrap_in (by omega) (by omega)
      simp only [w1]
      refine IFB.mk (fun hb => absurd (of_decide_eq_true hb) (by omega)) (fun _ => ?_)
      refine LOOP.list r (fun k (s : Nat × Int × List api_Lot) => (((i + 1 + k : Nat) : Int), (s.1 : Int), s.2.1, nx, re, nx, s.2.2, ())) (fun u => u.1.toNat - (i + 1)) (fun k q s => s.2.2.length = ls.length ∧ s.1 ≤ i + k ∧ s.2.2.take s.1 ++ lapseS a.8 q = lapseS a.8 ls ∧ s.2.2.drop (i + 1 + k) = q ∧ s.2.1 + lapseN a.8 q = re + lapseN a.8 ls ∧ 0 ≤ s.2.1 ∧ (∀ x ∈ q, 1 ≤ x.4 ∧ x.4 ≤ 268435456)) (i, re + y.4, ls) rfl ⟨rfl, Nat.le_refl _, hS.symm, hr1, by show re + y.4 + _ = _; omega, by show 0 ≤ re + y.4; omega, hrL⟩ (fun k s h => by show ((i + 1 + k : Nat) : Int).toNat - (i + 1) = k; omega) ?_ ?_
      · intro rec k y' q s hdq hkq hkl hG hrec
        obtain ⟨m, rr, row⟩ := s
        obtain ⟨g1, g2, g3, g4, g5, g6, g7⟩ := hG
        have g1 : row.length = ls.length := g1
        have g2 : m ≤ i + k := g2
        have g3 : row.take m ++ lapseS a.8 (y' :: q) = lapseS a.8 ls := g3
        have g4 : row.drop (i + 1 + k) = y' :: q := g4
        have g5 : rr + lapseN a.8 (y' :: q) = re + lapseN a.8 ls := g5
        have g6 : 0 ≤ rr := g6
        have hy' := g7 y' (by simp)
        have g7' : ∀ x ∈ q, 1 ≤ x.4 ∧ x.4 ≤ 268435456 := fun x hx => g7 x (by simp [hx])
        have b2 := lapseN_le (y := a.8) g7'
        have b3 := lapseN_le (y := a.8) g7
        have eS : lapseS a.8 (y' :: q) = if y'.6 ≤ a.8 - 2 then lapseS a.8 q else y' :: lapseS a.8 q := rfl
        have eN : lapseN a.8 (y' :: q) = if y'.6 ≤ a.8 - 2 then y'.4 + lapseN a.8 q else lapseN a.8 q := rfl
        have hat : row[i + 1 + k]? = some y' := by
          have := congrArg (fun z => z[0]?) g4
          simpa using this
        have hjl := (List.getElem?_eq_some_iff.1 hat).1
        have hx : ix row ((i + 1 + k : Nat) : Int) = y' := ix_of hat
        have w2 : IntKind.i64.wrap (((i + 1 + k : Nat) : Int) + 1) = ((i + 1 + (k + 1) : Nat) : Int) := by rw [wrap_in (by omega) (by omega)]; omega
        have w3 : IntKind.i64.wrap ((m : Int) + 1) = ((m + 1 : Nat) : Int) := by rw [wrap_in (by omega) (by omega)]; omega
        have w4 : IntKind.i64.wrap (rr + y'.4) = rr + y'.4 := wrap_in (by omega) (by omega)
        have g4' : row.drop (i + 1 + (k + 1)) = q := by rw [show i + 1 + (k + 1) = (i + 1 + k) + 1 by omega, ← List.drop_drop, g4]; rfl
        show _ → IFB _ _ _
        intro _
        simp only [hx, w2, w3, w4, Int.toNat_natCast]
        refine IFB.mk (fun _ => JOIN.mk ⟨⟨by omega, by omega⟩, JOIN.mk (IFB.mk (fun hb => ?_) (fun hb => ?_))⟩) (fun h => absurd (of_decide_eq_false h) (by omega))
        · have hb' : y'.6 ≤ a.8 - 2 := of_decide_eq_true hb
          rw [eS, if_pos hb'] at g3
          rw [eN, if_pos hb'] at g5
          refine IFB.mk (fun h => by rw [hb] at h; cases h) (fun _ => ?_)
          exact hrec (m, rr + y'.4, row) ⟨g1, by show m ≤ i + (k + 1); omega, g3, g4', by show rr + y'.4 + _ = _; omega, by show 0 ≤ rr + y'.4; omega, g7'⟩
        · have hb' : ¬ y'.6 ≤ a.8 - 2 := of_decide_eq_false hb
          rw [eS, if_neg hb'] at g3
          rw [eN, if_neg hb'] at g5
          refine IFB.mk (fun _ => ⟨⟨by omega, by omega⟩, ?_⟩) (fun h => by rw [hb] at h; cases h)
          have t1 : (row.set m y').take (m + 1) = row.take m ++ [y'] := by
            rw [List.take_add_one, List.take_set_of_le (by omega)]
            rw [List.getElem?_set, if_pos rfl, if_pos (by omega)]
            rfl
          exact hrec (m + 1, rr, row.set m y') ⟨by show (row.set m y').length = _; rw [List.length_set]; exact g1, by show m + 1 ≤ i + (k + 1); omega, by show (row.set m y').take (m + 1) ++ _ = _; rw [t1, List.append_assoc]; exact g3, by show (row.set m y').drop _ = _; rw [List.drop_set_of_lt (by omega)]; exact g4', g5, g6, g7'⟩
      · intro rec s hG
        obtain ⟨m, rr, row⟩ := s
        obtain ⟨g1, g2, g3, g4, g5, g6, g7⟩ := hG
        have g1 : row.length = ls.length := g1
        have g2 : m ≤ i + r.length := g2
        have g3 : row.take m = lapseS a.8 ls := by simpa [lapseS] using g3
        have g5 : rr = re + lapseN a.8 ls := by simpa [lapseN] using g5
        rw [← g3, ← g5] at k2
        show _ → IFB _ _ _
        intro _
        refine IFB.mk (fun h => absurd (of_decide_eq_true h) (by simp; omega)) (fun _ => ⟨⟨by simp, by simp; omega, by simp⟩, ⟨by exact Int.NonNeg.mk 0, by simp, by simp; omega⟩, ?_⟩)
        have e : List.take ((m : Nat) : Int).toNat (List.take ((m : Nat) : Int).toNat row ++ (List.replicate ((row.length : Int).toNat - ((m : Nat) : Int).toNat) (⟨0, 0, 0, 0, 0, 0⟩ : api_Lot) ++ List.drop (row.length : Int).toNat row)) = row.take m := by
          rw [Int.toNat_natCast, List.take_append_of_le_length (by simp; omega), List.take_take, Nat.min_self]
        show J164 (List.take ((m : Nat) : Int).toNat (List.take ((m : Nat) : Int).toNat row ++ (List.replicate ((row.length : Int).toNat - ((m : Nat) : Int).toNat) (⟨0, 0, 0, 0, 0, 0⟩ : api_Lot) ++ List.drop (row.length : Int).toNat row))) rr nx re nx
        rw [e]
        exact k2
    clear h190
    refine fun _ => LOOP.list ls (fun k (s : Unit) => ((k : Int), re, nx, re, nx, ())) (fun u => u.1.toNat) (fun k r (s : Unit) => lapseS a.8 ls = ls.take k ++ lapseS a.8 r ∧ lapseN a.8 ls = lapseN a.8 r) () rfl ⟨by simp, rfl⟩ (fun k s h => by simp) ?_ ?_
    · intro rec k y r s hd hk hkl hG hrec
      have hx := ix_of hk
      obtain ⟨g1, g2⟩ := hG
      have hyL := hL y (List.mem_of_getElem? hk)
      have w1 : IntKind.i64.wrap ((k : Int) + 1) = ((k + 1 : Nat) : Int) := by rw [wrap_in (by omega) (by omega)]; rfl
      have w2 : IntKind.i64.wrap (re + y.4) = re + y.4 := wrap_in (by omega) (by omega)
      have eS : lapseS a.8 (y :: r) = if y.6 ≤ a.8 - 2 then lapseS a.8 r else y :: lapseS a.8 r := rfl
      have eN : lapseN a.8 (y :: r) = if y.6 ≤ a.8 - 2 then y.4 + lapseN a.8 r else lapseN a.8 r := rfl
      have ht : ls.take (k + 1) = ls.take k ++ [y] := by rw [List.take_add_one, hk]; rfl
      show IFB _ _ _
      simp only [w1, w2, hx]
      refine IFB.mk (fun _ => ⟨⟨by omega, by omega⟩, JOIN.mk (IFB.mk (fun hb => ?_) (fun hb => ?_))⟩) (fun h => absurd (of_decide_eq_false h) (by omega))
      · have hb' : y.6 ≤ a.8 - 2 := of_decide_eq_true hb
        rw [eS, if_pos hb'] at g1
        rw [eN, if_pos hb'] at g2
        exact IFB.mk (fun _ => hgo k y r hd hk hkl hb' g1 g2) (fun h => by rw [hb] at h; cases h)
      · have hb' : ¬ y.6 ≤ a.8 - 2 := of_decide_eq_false hb
        rw [eS, if_neg hb'] at g1
        rw [eN, if_neg hb'] at g2
        exact IFB.mk (fun h => by rw [hb] at h; cases h) (fun _ => hrec () ⟨by rw [ht, List.append_assoc]; exact g1, g2⟩)
    · intro rec s hG
      obtain ⟨g1, g2⟩ := hG
      show IFB _ _ _
      exact IFB.mk (fun h => absurd (of_decide_eq_true h) (by omega)) (fun _ => hm ⟨by simpa [lapseS] using g1, g2⟩)
  have h7 : ¬ a.1 = 7 := of_decide_eq_false h7
  refine IFB.mk (fun h8 => ?_) (fun h8 => ?_)
  · have h8 : a.1 = 8 := of_decide_eq_true h8
    refine JOIN.opq fun (J19 : Int → List api_Lot → Int → Int → Int → Int → Prop) h19 => ?_
    have k : J19 e l r n re nx := by rw [h19]; exact fin
    refine JOIN.opq fun (J : Int → Prop) hJ => find_ok (J := J) (by omega) ?_
    rw [hJ]
    clear hJ J
    have hs := seekS_spec (n := a.4) (l := ls) (k := 0) (by omega)
    unfold actS at hA
    simp only [h8] at hA
    obtain ⟨i, hi⟩ : ∃ i, seekS a.4 0 ls = i := ⟨_, rfl⟩
    simp only [hi] at hA hs ⊢
    clear fin h19 hl2
    have hgm := hgm i
    unfold LotOK at hgm
    refine IFB.mk (fun hb => ?_) (fun hb => ?_)
    · grind
    refine ⟨by grind, IFB.mk (fun hb => ?_) (fun hb => ?_)⟩
    · grind
    refine ⟨by grind, by grind, IFB.mk (fun hb => ?_) (fun hb => ?_)⟩
    · grind
    refine JOIN.opq fun (J : List api_Lot → Int → Int → Int → Int → Prop) hJ => take_ok (J := fun l => J l re nx re nx) (by omega) (by grind) (by grind) (by grind) (by grind) (by grind) ?_
    rw [hJ]
    have w1 : IntKind.i64.wrap (re + a.5) = re + a.5 := wrap_in (by grind) (by grind)
    show J19 0 (takeS ls i.toNat a.5) (IntKind.i64.wrap (re + a.5)) nx re nx
    rw [w1]
    grind
  have h8 : ¬ a.1 = 8 := of_decide_eq_false h8
  have hA : (ls, re, nx, (14 : Int)) = (l, r, n, e) := by unfold actS at hA; grind
  injection hA with q1 hA
  injection hA with q2 hA
  injection hA with q3 q4
  rw [← q4] at fin
  exact IFB.mk (fun _ => fin.t rfl) (fun h => by cases h)
end RE
end Go.Proofs.Ytpnmiieohdkenaa
set_option maxRecDepth 100000
set_option linter.unusedVariables false
namespace Go.Proofs.Ytpnmiieohdkenaa
open Go.RowKit
namespace RE
open PL
def rsame_P (x : api_Entitlements) (y : api_Entitlements) (post : Bool → Prop) : Prop := ∀ b : Bool, (b = true ↔ x = y) → post b
def rsame_sp : Spec := ⟨20, false, false, [.st .api_Entitlements, .st .api_Entitlements], .dat (.bool), fun x post => rsame_P (x.1 : api_Entitlements) (x.2.1 : api_Entitlements) (fun y0 => post (y0, ()))⟩
def rsame_C : Ctx := ⟨tau, [], lookJ [(0, 9, ⟨[(30, .dat (.int .i64))], [], [31, 32, 5, 33, 34, 35, 36, 37, 38, 39, 40, 41, 42, 43, 44], [], []⟩)]⟩
def rsame_W (x : api_Entitlements) (y : api_Entitlements) (post : Bool → Prop) : Prop := (gx false (!decide (x.2 = y.2) || !decide (x.3 = y.3)) = true → (↑x.1.length : Int) ≤ (9223372036854775807 : Int)) → (gx false (!decide (x.2 = y.2) || !decide (x.3 = y.3)) = true → (↑y.1.length : Int) ≤ (9223372036854775807 : Int)) → IFB (!decide (x.2 = y.2) || !decide (x.3 = y.3) || !decide ((↑x.1.length : Int) = (↑y.1.length : Int))) (post false) ((↑x.1.length : Int) ≤ (9223372036854775807 : Int) → LOOP [Ty.int IntKind.i64] (fun (rec1 : Int → Prop) (z2 : Int) ↦ IFB (decide (z2 < (↑x.1.length : Int))) (((0 : Int) ≤ z2 ∧ z2 < (↑x.1.length : Int)) ∧ ((0 : Int) ≤ z2 ∧ z2 < (↑y.1.length : Int)) ∧ IFB (!(decide ((ix x.1 z2).1 = (ix y.1 z2).1) && (decide ((ix x.1 z2).2 = (ix y.1 z2).2) && (decide ((ix x.1 z2).3 = (ix y.1 z2).3) && (decide ((ix x.1 z2).4 = (ix y.1 z2).4) && (decide ((ix x.1 z2).5 = (ix y.1 z2).5) && (decide ((ix x.1 z2).6 = (ix y.1 z2).6) && true))))))) (post false) (rec1 (IntKind.i64.wrap (z2 + (1 : Int))))) (post true)) ((0 : Int), PUnit.unit))
theorem rsame_w (x : api_Entitlements) (y : api_Entitlements) (post : dens (shT rsame_sp.rs []) → Prop) : rsame_W x y (fun y0 => post (y0, ())) = walk Try.prog rsame_C (drawR Try.prog tau) 8 0 20 false [tv (.st .api_Entitlements) x, tv (.st .api_Entitlements) y] rsame_sp.rs post := by kernel_rfl
theorem rsame_of (h : ∀ (x : api_Entitlements) (y : api_Entitlements) (post : Bool → Prop), rsame_P x y post → rsame_W x y post) : SpecOK Try.prog rsame_sp := SpecOK.of_walkH (C := rsame_C) (dr := drawR Try.prog tau) (n := 8) (fk := 0) .nil (drawR_ok tau) fun x post hp => HoldW.of (rsame_w x.1 x.2.1 post) (h x.1 x.2.1 (fun y0 => post (y0, ())) hp)
theorem rsame_ok : SpecOK Try.prog rsame_sp := rsame_of fun x y post hp => by
  obtain ⟨l1, r1, n1⟩ := x
  obtain ⟨l2, r2, n2⟩ := y
  unfold rsame_W
  dsimp only
  intro _ _
  refine IFB.mk (fun h => hp _ ?_) (fun h => ?_)
  · constructor
    · intro h'; cases h'
    · intro h'; injection h' with q1 q2 q3; subst q1 q2 q3; simp at h
  have h : r1 = r2 ∧ n1 = n2 ∧ l1.length = l2.length := by simp at h; omega
  obtain ⟨h1, h2, h3⟩ := h
  subst h1 h2
  intro _
  refine LOOP.list l1 (fun k (s : Unit) => ((k : Int), ())) (fun u => u.1.toNat) (fun k r (s : Unit) => l1.take k = l2.take k) () rfl rfl (fun k s h => by simp) ?_ ?_
  · intro rec k y r s hd hk hkl hG hrec
    have hx := ix_of hk
    have hk2 := List.getElem?_eq_getElem (show k < l2.length by omega)
    have hx2 := ix_of hk2
    have w1 : IntKind.i64.wrap ((k : Int) + 1) = ((k + 1 : Nat) : Int) := by rw [wrap_in (by omega) (by omega)]; rfl
    show IFB _ _ _
    obtain ⟨v, hv⟩ : ∃ v, l2[k] = v := ⟨_, rfl⟩
    rw [hv] at hx2 hk2
    simp only [w1, hx, hx2]
    refine IFB.mk (fun _ => ⟨⟨by omega, by omega⟩, ⟨by omega, by omega⟩, IFB.mk (fun hb => hp _ ?_) (fun hb => hrec () ?_)⟩) (fun h => absurd (of_decide_eq_false h) (by omega))
    · constructor
      · intro h'; cases h'
      · intro h'
        injection h' with q1 q2 q3
        subst q1
        rw [hk] at hk2
        injection hk2 with hk2
        subst hk2
        simp at hb
    · obtain ⟨a1, a2, a3, a4, a5, a6⟩ := y
      obtain ⟨b1, b2, b3, b4, b5, b6⟩ := v
      simp at hb
      obtain ⟨e1, e2, e3, e4, e5, e6⟩ := hb
      subst e1 e2 e3 e4 e5 e6
      rw [List.take_add_one, List.take_add_one, hG, hk, hk2]
  · intro rec s hG
    show IFB _ _ _
    refine IFB.mk (fun h => absurd (of_decide_eq_true h) (by omega)) (fun _ => hp _ ?_)
    rw [List.take_length, h3, List.take_length] at hG
    simp [hG]

def kmod_P (a : Int) (b : Int) (post : Int → Prop) : Prop := (b ≤ 9223372036854775807) ∧ post (modS a b)
def kmod_sp : Spec := ⟨15, false, false, [.int .i64, .int .i64], .dat (.int .i64), fun x post => kmod_P (x.1 : Int) (x.2.1 : Int) (fun y0 => post (y0, ()))⟩
def kmod_C : Ctx := ⟨tau, [], lookJ [(0, 12, ⟨[(0, .dat (.int .i64))], [], [10, 11, 12, 13, 14], [], []⟩)]⟩
def kmod_W (a : Int) (b : Int) (post : Int → Prop) : Prop := IFB (decide (b < (1 : Int))) (post (0 : Int)) ((b = (0 : Int) → False) ∧ JOIN [Ty.int IntKind.i64] (fun (y1 : Int) ↦ post y1) fun (J2 : Int → Prop) ↦ IFB (decide (a.tmod b < (0 : Int))) (J2 (IntKind.i64.wrap (a.tmod b + b))) (J2 (a.tmod b)))
theorem kmod_w (a : Int) (b : Int) (post : dens (shT kmod_sp.rs []) → Prop) : kmod_W a b (fun y0 => post (y0, ())) = walk Try.prog kmod_C (drawR Try.prog tau) 8 0 15 false [tv (.int .i64) a, tv (.int .i64) b] kmod_sp.rs post := by kernel_rfl
theorem kmod_of (h : ∀ (a : Int) (b : Int) (post : Int → Prop), kmod_P a b post → kmod_W a b post) : SpecOK Try.prog kmod_sp := SpecOK.of_walkH (C := kmod_C) (dr := drawR Try.prog tau) (n := 8) (fk := 0) .nil (drawR_ok tau) fun x post hp => HoldW.of (kmod_w x.1 x.2.1 post) (h x.1 x.2.1 (fun y0 => post (y0, ())) hp)
theorem kmod_ok : SpecOK Try.prog kmod_sp := kmod_of fun a b post hp => by
  obtain ⟨h1, hp⟩ := hp
  unfold kmod_W
  unfold modS at hp
  refine IFB.mk (fun h => ?_) (fun h => ?_)
  · rw [if_pos (of_decide_eq_true h)] at hp; exact hp
  have h : ¬ b < 1 := of_decide_eq_false h
  rw [if_neg h] at hp
  obtain ⟨t1, t2⟩ := tmod_of (a := a) (b := b) (by omega)
  have h3 := Int.emod_nonneg a (show b ≠ 0 by omega)
  have h4 := Int.emod_lt_of_pos a (show 0 < b by omega)
  refine ⟨fun h0 => by omega, JOIN.mk (IFB.mk (fun hb => ?_) (fun hb => ?_))⟩
  · have hb := t1 (of_decide_eq_true hb)
    rw [hb, wrap_in (by omega) (by omega)]; exact hp
  · have hb := t2 (of_decide_eq_false hb)
    rw [hb]; exact hp

def rints_P (x : List (Int)) (y : List (Int)) (post : Bool → Prop) : Prop := ∀ b : Bool, (b = true ↔ x = y) → post b
def rints_sp : Spec := ⟨30, false, false, [.sl (.int .i64), .sl (.int .i64)], .dat (.bool), fun x post => rints_P (x.1 : List (Int)) (x.2.1 : List (Int)) (fun y0 => post (y0, ()))⟩
def rints_C : Ctx := ⟨tau, [], lookJ [(0, 9, ⟨[(13, .dat (.int .i64))], [], [14, 15, 5, 16, 17, 18, 19, 20, 21, 22, 23, 24, 25], [], []⟩)]⟩
def rints_W (x : List (Int)) (y : List (Int)) (post : Bool → Prop) : Prop := (↑x.length : Int) ≤ (9223372036854775807 : Int) → (↑y.length : Int) ≤ (9223372036854775807 : Int) → IFB (!decide ((↑x.length : Int) = (↑y.length : Int))) (post false) ((↑x.length : Int) ≤ (9223372036854775807 : Int) → LOOP [Ty.int IntKind.i64] (fun (rec1 : Int → Prop) (z2 : Int) ↦ IFB (decide (z2 < (↑x.length : Int))) (((0 : Int) ≤ z2 ∧ z2 < (↑x.length : Int)) ∧ ((0 : Int) ≤ z2 ∧ z2 < (↑y.length : Int)) ∧ IFB (!decide (ix x z2 = ix y z2)) (post false) (rec1 (IntKind.i64.wrap (z2 + (1 : Int))))) (post true)) ((0 : Int), PUnit.unit))
theorem rints_w (x : List (Int)) (y : List (Int)) (post : dens (shT rints_sp.rs []) → Prop) : rints_W x y (fun y0 => post (y0, ())) = walk Try.prog rints_C (drawR Try.prog tau) 8 0 30 false [tv (.sl (.int .i64)) x, tv (.sl (.int .i64)) y] rints_sp.rs post := by kernel_rfl
theorem rints_of (h : ∀ (x : List (Int)) (y : List (Int)) (post : Bool → Prop), rints_P x y post → rints_W x y post) : SpecOK Try.prog rints_sp := SpecOK.of_walkH (C := rints_C) (dr := drawR Try.prog tau) (n := 8) (fk := 0) .nil (drawR_ok tau) fun x post hp => HoldW.of (rints_w x.1 x.2.1 post) (h x.1 x.2.1 (fun y0 => post (y0, ())) hp)
theorem rints_ok : SpecOK Try.prog rints_sp := rints_of fun l1 l2 post hp => by
  unfold rints_W
  intro _ _
  refine IFB.mk (fun h => hp _ ?_) (fun h => ?_)
  · constructor
    · intro h'; cases h'
    · intro h'; subst h'; simp at h
  have h3 : l1.length = l2.length := by simp at h; omega
  intro _
  refine LOOP.list l1 (fun k (s : Unit) => ((k : Int), ())) (fun u => u.1.toNat) (fun k r (s : Unit) => l1.take k = l2.take k) () rfl rfl (fun k s h => by simp) ?_ ?_
  · intro rec k y r s hd hk hkl hG hrec
    have hx := ix_of hk
    have hk2 := List.getElem?_eq_getElem (show k < l2.length by omega)
    have hx2 := ix_of hk2
    have w1 : IntKind.i64.wrap ((k : Int) + 1) = ((k + 1 : Nat) : Int) := by rw [wrap_in (by omega) (by omega)]; rfl
    show IFB _ _ _
    obtain ⟨v, hv⟩ : ∃ v, l2[k] = v := ⟨_, rfl⟩
    rw [hv] at hx2 hk2
    simp only [w1, hx, hx2]
    refine IFB.mk (fun _ => ⟨⟨by omega, by omega⟩, ⟨by omega, by omega⟩, IFB.mk (fun hb => hp _ ?_) (fun hb => hrec () ?_)⟩) (fun h => absurd (of_decide_eq_false h) (by omega))
    · constructor
      · intro h'; cases h'
      · intro h'
        subst h'
        rw [hk] at hk2
        injection hk2 with hk2
        subst hk2
        simp at hb
    · have hb : y = v := by simpa using hb
      subst hb
      rw [List.take_add_one, List.take_add_one, hG, hk, hk2]
  · intro rec s hG
    show IFB _ _ _
    refine IFB.mk (fun h => absurd (of_decide_eq_true h) (by omega)) (fun _ => hp _ ?_)
    rw [List.take_length, h3, List.take_length] at hG
    simp [hG]

def eusable_P (x : api_Entitlements) (n : Int) (post : List (Int) → Prop) : Prop := (x.1.length ≤ 200) ∧ post (if chkE x = 0 then usableS x.1 n else [])
def eusable_sp : Spec := ⟨31, false, false, [.st .api_Entitlements, .int .i64], .dat (.sl (.int .i64)), fun x post => eusable_P (x.1 : api_Entitlements) (x.2.1 : Int) (fun y0 => post (y0, ()))⟩
def eusable_C : Ctx := ⟨tau, [echk_sp, usab_sp], lookJ []⟩
def eusable_W (x : api_Entitlements) (n : Int) (post : List (Int) → Prop) : Prop := True ∧ IFB (!decide (chkE { Lots := x.1, Reserve := x.2, Next := x.3 : api_Entitlements } = (0 : Int))) (post []) (x.1.length ≤ (1000 : Nat) ∧ post (usableS x.1 n))
theorem eusable_w (x : api_Entitlements) (n : Int) (post : dens (shT eusable_sp.rs []) → Prop) : eusable_W x n (fun y0 => post (y0, ())) = walk Try.prog eusable_C (drawR Try.prog tau) 8 0 31 false [tv (.st .api_Entitlements) x, tv (.int .i64) n] eusable_sp.rs post := by kernel_rfl
theorem eusable_of (h : ∀ (x : api_Entitlements) (n : Int) (post : List (Int) → Prop), eusable_P x n post → eusable_W x n post) : SpecOK Try.prog eusable_sp := SpecOK.of_walkH (C := eusable_C) (dr := drawR Try.prog tau) (n := 8) (fk := 0) (.cons echk_ok (.cons usab_ok .nil)) (drawR_ok tau) fun x post hp => HoldW.of (eusable_w x.1 x.2.1 post) (h x.1 x.2.1 (fun y0 => post (y0, ())) hp)
theorem eusable_ok : SpecOK Try.prog eusable_sp := eusable_of fun x n post hp => by
  obtain ⟨hl, hp⟩ := hp
  unfold eusable_W
  refine ⟨trivial, IFB.mk (fun h => ?_) (fun h => ?_)⟩
  · have h : ¬ chkE x = 0 := by simpa using h
    rw [if_neg h] at hp; exact hp
  · have h : chkE x = 0 := by simpa using h
    rw [if_pos h] at hp; exact ⟨(by omega), hp⟩

def evalue_P (x : api_Entitlements) (n : Int) (sq : Int) (post : Int → Int → Prop) : Prop := (x.1.length ≤ 200) ∧ post ((valueS x n sq).1) ((valueS x n sq).2)
def evalue_sp : Spec := ⟨25, false, false, [.st .api_Entitlements, .int .i64, .int .i64], .tup [.dat (.int .i64), .dat (.int .i64)], fun x post => evalue_P (x.1 : api_Entitlements) (x.2.1 : Int) (x.2.2.1 : Int) (fun y0 y1 => post (y0, y1, ()))⟩
def evalue_C : Ctx := ⟨tau, [echk_sp, usab_sp, edown_sp], lookJ [(0, 21, ⟨[(33, .dat (.int .i64)), (2, .dat (.int .i64)), (9, .dat (.int .i64))], [], [34, 35, 36, 11, 37, 38, 39, 40, 41, 42, 43, 44, 12, 45, 46, 47, 48, 49, 50, 51, 52, 53, 54, 55, 56, 57, 58], [], []⟩)]⟩
def evalue_W (x : api_Entitlements) (n : Int) (sq : Int) (post : Int → Int → Prop) : Prop := True ∧ IFB (!decide (chkE { Lots := x.1, Reserve := x.2, Next := x.3 : api_Entitlements } = (0 : Int))) (post (0 : Int) (chkE { Lots := x.1, Reserve := x.2, Next := x.3 : api_Entitlements })) (IFB (!(decide ((1 : Int) ≤ n) && decide (n ≤ (60 : Int)))) (post (0 : Int) (20 : Int)) (IFB (decide (sq < (0 : Int)) || decide ((268435456 : Int) < sq)) (post (0 : Int) (2 : Int)) (x.1.length ≤ (1000 : Nat) ∧ ((↑(usableS x.1 n).length : Int) ≤ (9223372036854775807 : Int) → LOOP [Ty.int IntKind.i64, Ty.int IntKind.i64, Ty.int IntKind.i64] (fun (rec1 : Int → Int → Int → Prop) (z2 z3 z4 : Int) ↦ IFB (decide (z2 < (↑(usableS x.1 n).length : Int))) (((0 : Int) ≤ z2 ∧ z2 < (↑(usableS x.1 n).length : Int)) ∧ ((0 : Int) ≤ ix (usableS x.1 n) z2 ∧ ix (usableS x.1 n) z2 < (↑x.1.length : Int)) ∧ ((0 : Int) ≤ ix (usableS x.1 n) z2 ∧ ix (usableS x.1 n) z2 < (↑x.1.length : Int)) ∧ rec1 (IntKind.i64.wrap (z2 + (1 : Int))) (IntKind.i64.wrap (z3 - Min.min z3 (ix x.1 (ix (usableS x.1 n) z2)).4)) (IntKind.i64.wrap (z4 + IntKind.i64.wrap (Min.min z3 (ix x.1 (ix (usableS x.1 n) z2)).4 * (ix x.1 (ix (usableS x.1 n) z2)).5)))) (IFB (decide ((0 : Int) < z3)) (post (0 : Int) (22 : Int)) (((0 : Int) ≤ z4 ∧ z4 ≤ (1125899906842624 : Int) ∧ (1 : Int) ≤ (100 : Int) ∧ (100 : Int) ≤ (1099511627776 : Int)) ∧ post (z4 / (100 : Int)) (0 : Int)))) ((0 : Int), sq, (0 : Int), PUnit.unit)))))
theorem evalue_w (x : api_Entitlements) (n : Int) (sq : Int) (post : dens (shT evalue_sp.rs []) → Prop) : evalue_W x n sq (fun y0 y1 => post (y0, y1, ())) = walk Try.prog evalue_C (drawR Try.prog tau) 8 0 25 false [tv (.st .api_Entitlements) x, tv (.int .i64) n, tv (.int .i64) sq] evalue_sp.rs post := by kernel_rfl
theorem evalue_of (h : ∀ (x : api_Entitlements) (n : Int) (sq : Int) (post : Int → Int → Prop), evalue_P x n sq post → evalue_W x n sq post) : SpecOK Try.prog evalue_sp := SpecOK.of_walkH (C := evalue_C) (dr := drawR Try.prog tau) (n := 8) (fk := 0) (.cons echk_ok (.cons usab_ok (.cons edown_ok .nil))) (drawR_ok tau) fun x post hp => HoldW.of (evalue_w x.1 x.2.1 x.2.2.1 post) (h x.1 x.2.1 x.2.2.1 (fun y0 y1 => post (y0, y1, ())) hp)
theorem evalue_ok : SpecOK Try.prog evalue_sp := evalue_of fun x n sq post hp => by
  obtain ⟨hl, hp⟩ := hp
  unfold evalue_W
  unfold valueS farmP at hp
  refine ⟨trivial, IFB.mk (fun h => ?_) (fun h => ?_)⟩
  · have h : chkE x ≠ 0 := by simpa using h
    rw [if_pos h] at hp; exact hp
  have hc : chkE x = 0 := by simpa using h
  rw [if_neg (fun q => q hc)] at hp
  refine IFB.mk (fun h => ?_) (fun h => ?_)
  · rw [if_pos (by grind)] at hp; exact hp
  rw [if_neg (by grind)] at hp
  refine IFB.mk (fun h => ?_) (fun h => ?_)
  · rw [if_pos (by grind)] at hp; exact hp
  rw [if_neg (by grind)] at hp
  have hsq : 0 ≤ sq ∧ sq ≤ 268435456 := by grind

  have hl1 := chkE_lots hc
  obtain ⟨_, hl2⟩ := hl1
  have hl2 : ∀ l ∈ x.Lots, LotOK l := hl2
  obtain ⟨us, hus⟩ : ∃ us, usableS x.Lots n = us := ⟨_, rfl⟩
  have hum : ∀ j ∈ us, 0 ≤ j ∧ j < x.Lots.length := fun j hj => by rw [← hus] at hj; exact usableS_mem hj
  have hul : us.length ≤ x.Lots.length := by rw [← hus]; exact usableS_len
  have hum4 : ∀ j ∈ us, 1 ≤ (ix x.Lots j).4 ∧ (ix x.Lots j).4 ≤ 268435456 ∧ 0 ≤ (ix x.Lots j).5 ∧ (ix x.Lots j).5 ≤ 1048576 := fun j hj => by have h := hum j hj; have := hl2 _ (get_mem h.1 h.2); unfold LotOK at this; omega
  have hsum : SI x.Lots us = useS n x.Lots := by rw [← hus]; exact SI_us
  have hleft := valL_left (ls := x.Lots) (us := us) (left := sq) (t := 0) (by omega) (fun j hj => (hum4 j hj).1)
  rw [← hsum, hus] at hp
  simp only [hus]

  refine ⟨(by omega), fun _ => ?_⟩
  obtain ⟨R, hR⟩ : ∃ R, valL x.Lots us sq 0 = R := ⟨_, rfl⟩
  rw [hR] at hp hleft
  refine LOOP.list us (fun k (s : Int × Int) => ((k : Int), s.1, s.2, ())) (fun u => u.1.toNat) (fun k r s => 0 ≤ s.1 ∧ s.1 ≤ sq ∧ 0 ≤ s.2 ∧ s.2 ≤ (sq - s.1) * 1048576 ∧ valL x.Lots r s.1 s.2 = R) (sq, 0) rfl ⟨by show 0 ≤ sq; omega, by show sq ≤ sq; omega, by show (0 : Int) ≤ 0; omega, by show 0 ≤ (sq - sq) * 1048576; omega, hR⟩ (fun k s h => by simp) ?_ ?_
  · intro rec k y r s hd hk hkl hG hrec
    obtain ⟨left, t⟩ := s
    obtain ⟨q1, q2, q3, q4, q5⟩ := hG
    have q1 : 0 ≤ left := q1
    have q2 : left ≤ sq := q2
    have q3 : 0 ≤ t := q3
    have q4 : t ≤ (sq - left) * 1048576 := q4
    have q5 : valL x.Lots (y :: r) left t = R := q5
    have hx := ix_of hk
    have hym := List.mem_of_getElem? hk
    have hy := hum y hym
    have hy4 := hum4 y hym
    obtain ⟨v, hv⟩ : ∃ v, ix x.Lots y = v := ⟨_, rfl⟩
    unfold valL at q5
    rw [hv] at q5 hy4
    have w1 : IntKind.i64.wrap ((k : Int) + 1) = ((k + 1 : Nat) : Int) := by rw [wrap_in (by omega) (by omega)]; rfl
    obtain ⟨p, hpm⟩ : ∃ p, min left v.4 = p := ⟨_, rfl⟩
    have hp0 : 0 ≤ p ∧ p ≤ left := by rw [← hpm]; omega
    have hpv : 0 ≤ p * v.5 := Int.mul_nonneg hp0.1 hy4.2.2.1
    have hpv2 : p * v.5 ≤ p * 1048576 := Int.mul_le_mul_of_nonneg_left hy4.2.2.2 hp0.1
    have w2 : IntKind.i64.wrap (left - p) = left - p := wrap_in (by omega) (by omega)
    have w3 : IntKind.i64.wrap (p * v.5) = p * v.5 := wrap_in (by omega) (by omega)
    have w4 : IntKind.i64.wrap (t + p * v.5) = t + p * v.5 := wrap_in (by omega) (by omega)
    rw [hpm] at q5
    show IFB _ _ _
    simp only [w1, hx, hv, hpm, w2, w3, w4]
    exact IFB.mk (fun _ => ⟨⟨by omega, by omega⟩, hy, hy, hrec (left - p, t + p * v.5) ⟨by show 0 ≤ left - p; omega, by show left - p ≤ sq; omega, by show 0 ≤ t + p * v.5; omega, by show t + p * v.5 ≤ (sq - (left - p)) * 1048576; omega, q5⟩⟩) (fun h => absurd (of_decide_eq_false h) (by omega))
  · intro rec s hG
    obtain ⟨left, t⟩ := s
    obtain ⟨q1, q2, q3, q4, q5⟩ := hG
    have q1 : 0 ≤ left := q1
    have q2 : left ≤ sq := q2
    have q3 : 0 ≤ t := q3
    have q4 : t ≤ (sq - left) * 1048576 := q4
    have q5 : (left, t) = R := q5
    subst q5
    have hleft : 0 < left ↔ SI x.Lots us < sq := hleft
    show IFB _ _ _
    refine IFB.mk (fun h => absurd (of_decide_eq_true h) (by omega)) (fun _ => IFB.mk (fun hb => ?_) (fun hb => ⟨⟨q3, by show t ≤ 1125899906842624; omega, by omega, by omega⟩, ?_⟩))
    · rw [if_pos (hleft.1 (of_decide_eq_true hb))] at hp; exact hp
    · rw [if_neg (fun q => absurd (hleft.2 q) (of_decide_eq_false hb))] at hp; exact hp

def rvalue_P (x : api_Entitlements) (n : Int) (sq : Int) (post : Int → Int → Prop) : Prop := (True) ∧ post ((valueS x n sq).1) ((valueS x n sq).2)
def rvalue_sp : Spec := ⟨33, false, false, [.st .api_Entitlements, .int .i64, .int .i64], .tup [.dat (.int .i64), .dat (.int .i64)], fun x post => rvalue_P (x.1 : api_Entitlements) (x.2.1 : Int) (x.2.2.1 : Int) (fun y0 y1 => post (y0, y1, ()))⟩
def rvalue_C : Ctx := ⟨tau, [rchk_sp, rusab_sp, rdown_sp, rheld_sp], lookJ [(0, 27, ⟨[(42, .dat (.int .i64)), (2, .dat (.int .i64)), (11, .dat (.int .i64))], [], [43, 44, 45, 13, 46, 47, 48, 49, 50, 51, 52, 53, 14, 54, 55, 56, 57, 58, 59, 60, 61, 62, 63, 64, 65, 66, 67], [], []⟩)]⟩
def rvalue_W (x : api_Entitlements) (n : Int) (sq : Int) (post : Int → Int → Prop) : Prop := True ∧ IFB (!decide (chkE { Lots := x.1, Reserve := x.2, Next := x.3 : api_Entitlements } = (0 : Int))) (post (0 : Int) (chkE { Lots := x.1, Reserve := x.2, Next := x.3 : api_Entitlements })) (IFB (!(decide ((1 : Int) ≤ n) && decide (n ≤ (60 : Int)))) (post (0 : Int) (20 : Int)) (IFB (decide (sq < (0 : Int)) || decide ((268435456 : Int) < sq)) (post (0 : Int) (2 : Int)) (True ∧ IFB (decide ((heldS { Lots := x.1, Reserve := x.2, Next := x.3 : api_Entitlements } n).2 < sq)) (post (0 : Int) (22 : Int)) (x.1.length ≤ (80 : Nat) ∧ ((↑(if chkE { Lots := x.1, Reserve := x.2, Next := x.3 : api_Entitlements } = (0 : Int) then usableS x.1 n else []).length : Int) ≤ (9223372036854775807 : Int) → LOOP [Ty.int IntKind.i64, Ty.int IntKind.i64, Ty.int IntKind.i64] (fun (rec1 : Int → Int → Int → Prop) (z2 z3 z4 : Int) ↦ IFB (decide (z2 < (↑(if chkE { Lots := x.1, Reserve := x.2, Next := x.3 : api_Entitlements } = (0 : Int) then usableS x.1 n else []).length : Int))) (((0 : Int) ≤ z2 ∧ z2 < (↑(if chkE { Lots := x.1, Reserve := x.2, Next := x.3 : api_Entitlements } = (0 : Int) then usableS x.1 n else []).length : Int)) ∧ ((0 : Int) ≤ ix (if chkE { Lots := x.1, Reserve := x.2, Next := x.3 : api_Entitlements } = (0 : Int) then usableS x.1 n else []) z2 ∧ ix (if chkE { Lots := x.1, Reserve := x.2, Next := x.3 : api_Entitlements } = (0 : Int) then usableS x.1 n else []) z2 < (↑x.1.length : Int)) ∧ ((0 : Int) ≤ ix (if chkE { Lots := x.1, Reserve := x.2, Next := x.3 : api_Entitlements } = (0 : Int) then usableS x.1 n else []) z2 ∧ ix (if chkE { Lots := x.1, Reserve := x.2, Next := x.3 : api_Entitlements } = (0 : Int) then usableS x.1 n else []) z2 < (↑x.1.length : Int)) ∧ rec1 (IntKind.i64.wrap (z2 + (1 : Int))) (IntKind.i64.wrap (z3 - Min.min z3 (ix x.1 (ix (if chkE { Lots := x.1, Reserve := x.2, Next := x.3 : api_Entitlements } = (0 : Int) then usableS x.1 n else []) z2)).4)) (IntKind.i64.wrap (z4 + IntKind.i64.wrap (Min.min z3 (ix x.1 (ix (if chkE { Lots := x.1, Reserve := x.2, Next := x.3 : api_Entitlements } = (0 : Int) then usableS x.1 n else []) z2)).4 * (ix x.1 (ix (if chkE { Lots := x.1, Reserve := x.2, Next := x.3 : api_Entitlements } = (0 : Int) then usableS x.1 n else []) z2)).5)))) (((0 : Int) ≤ z4 ∧ z4 ≤ (1125899906842624 : Int) ∧ (1 : Int) ≤ (100 : Int) ∧ (100 : Int) ≤ (1099511627776 : Int)) ∧ post (z4 / (100 : Int)) (0 : Int))) ((0 : Int), sq, (0 : Int), PUnit.unit))))))
theorem rvalue_w (x : api_Entitlements) (n : Int) (sq : Int) (post : dens (shT rvalue_sp.rs []) → Prop) : rvalue_W x n sq (fun y0 y1 => post (y0, y1, ())) = walk Try.prog rvalue_C (drawR Try.prog tau) 8 0 33 false [tv (.st .api_Entitlements) x, tv (.int .i64) n, tv (.int .i64) sq] rvalue_sp.rs post := by kernel_rfl
theorem rvalue_of (h : ∀ (x : api_Entitlements) (n : Int) (sq : Int) (post : Int → Int → Prop), rvalue_P x n sq post → rvalue_W x n sq post) : SpecOK Try.prog rvalue_sp := SpecOK.of_walkH (C := rvalue_C) (dr := drawR Try.prog tau) (n := 8) (fk := 0) (.cons rchk_ok (.cons rusab_ok (.cons rdown_ok (.cons rheld_ok .nil)))) (drawR_ok tau) fun x post hp => HoldW.of (rvalue_w x.1 x.2.1 x.2.2.1 post) (h x.1 x.2.1 x.2.2.1 (fun y0 y1 => post (y0, y1, ())) hp)
theorem rvalue_ok : SpecOK Try.prog rvalue_sp := rvalue_of fun x n sq post hp => by
  obtain ⟨_, hp⟩ := hp
  unfold rvalue_W
  unfold valueS farmP at hp
  refine ⟨trivial, IFB.mk (fun h => ?_) (fun h => ?_)⟩
  · have h : chkE x ≠ 0 := by simpa using h
    rw [if_pos h] at hp; exact hp
  have hc : chkE x = 0 := by simpa using h
  rw [if_neg (fun q => q hc)] at hp
  refine IFB.mk (fun h => ?_) (fun h => ?_)
  · rw [if_pos (by grind)] at hp; exact hp
  rw [if_neg (by grind)] at hp
  refine IFB.mk (fun h => ?_) (fun h => ?_)
  · rw [if_pos (by grind)] at hp; exact hp
  rw [if_neg (by grind)] at hp
  have hsq : 0 ≤ sq ∧ sq ≤ 268435456 := by grind

  have hl1 := chkE_lots hc
  obtain ⟨_, hl2⟩ := hl1
  have hl2 : ∀ l ∈ x.Lots, LotOK l := hl2
  obtain ⟨us, hus⟩ : ∃ us, usableS x.Lots n = us := ⟨_, rfl⟩
  have hum : ∀ j ∈ us, 0 ≤ j ∧ j < x.Lots.length := fun j hj => by rw [← hus] at hj; exact usableS_mem hj
  have hul : us.length ≤ x.Lots.length := by rw [← hus]; exact usableS_len
  have hum4 : ∀ j ∈ us, 1 ≤ (ix x.Lots j).4 ∧ (ix x.Lots j).4 ≤ 268435456 ∧ 0 ≤ (ix x.Lots j).5 ∧ (ix x.Lots j).5 ≤ 1048576 := fun j hj => by have h := hum j hj; have := hl2 _ (get_mem h.1 h.2); unfold LotOK at this; omega
  have hsum : SI x.Lots us = useS n x.Lots := by rw [← hus]; exact SI_us
  have hleft := valL_left (ls := x.Lots) (us := us) (left := sq) (t := 0) (by omega) (fun j hj => (hum4 j hj).1)
  rw [← hsum, hus] at hp

  have hl80 : x.Lots.length ≤ 80 := (chkE_lots hc).1
  have hheld : (heldS x n).2 = SI x.Lots us := by unfold heldS; rw [if_pos hc]; exact hsum.symm
  have hcx : chkE ⟨x.1, x.2, x.3⟩ = 0 := hc
  have hhx : (heldS ⟨x.1, x.2, x.3⟩ n).2 = SI x.Lots us := hheld
  simp only [hcx, if_true, hhx, hus]
  refine ⟨trivial, IFB.mk (fun hb => ?_) (fun hb => ?_)⟩
  · rw [if_pos (of_decide_eq_true hb)] at hp; exact hp
  rw [if_neg (of_decide_eq_false hb)] at hp
  refine ⟨hl80, fun _ => ?_⟩
  obtain ⟨R, hR⟩ : ∃ R, valL x.Lots us sq 0 = R := ⟨_, rfl⟩
  rw [hR] at hp
  clear hleft hb
  refine LOOP.list us (fun k (s : Int × Int) => ((k : Int), s.1, s.2, ())) (fun u => u.1.toNat) (fun k r s => 0 ≤ s.1 ∧ s.1 ≤ sq ∧ 0 ≤ s.2 ∧ s.2 ≤ (sq - s.1) * 1048576 ∧ valL x.Lots r s.1 s.2 = R) (sq, 0) rfl ⟨by show 0 ≤ sq; omega, by show sq ≤ sq; omega, by show (0 : Int) ≤ 0; omega, by show 0 ≤ (sq - sq) * 1048576; omega, hR⟩ (fun k s h => by simp) ?_ ?_
  · intro rec k y r s hd hk hkl hG hrec
    obtain ⟨left, t⟩ := s
    obtain ⟨q1, q2, q3, q4, q5⟩ := hG
    have q1 : 0 ≤ left := q1
    have q2 : left ≤ sq := q2
    have q3 : 0 ≤ t := q3
    have q4 : t ≤ (sq - left) * 1048576 := q4
    have q5 : valL x.Lots (y :: r) left t = R := q5
    have hx := ix_of hk
    have hym := List.mem_of_getElem? hk
    have hy := hum y hym
    have hy4 := hum4 y hym
    obtain ⟨v, hv⟩ : ∃ v, ix x.Lots y = v := ⟨_, rfl⟩
    unfold valL at q5
    rw [hv] at q5 hy4
    have w1 : IntKind.i64.wrap ((k : Int) + 1) = ((k + 1 : Nat) : Int) := by rw [wrap_in (by omega) (by omega)]; rfl
    obtain ⟨p, hpm⟩ : ∃ p, min left v.4 = p := ⟨_, rfl⟩
    have hp0 : 0 ≤ p ∧ p ≤ left := by rw [← hpm]; omega
    have hpv : 0 ≤ p * v.5 := Int.mul_nonneg hp0.1 hy4.2.2.1
    have hpv2 : p * v.5 ≤ p * 1048576 := Int.mul_le_mul_of_nonneg_left hy4.2.2.2 hp0.1
    have w2 : IntKind.i64.wrap (left - p) = left - p := wrap_in (by omega) (by omega)
    have w3 : IntKind.i64.wrap (p * v.5) = p * v.5 := wrap_in (by omega) (by omega)
    have w4 : IntKind.i64.wrap (t + p * v.5) = t + p * v.5 := wrap_in (by omega) (by omega)
    rw [hpm] at q5
    show IFB _ _ _
    simp only [w1, hx, hv, hpm, w2, w3, w4]
    exact IFB.mk (fun _ => ⟨⟨by omega, by omega⟩, hy, hy, hrec (left - p, t + p * v.5) ⟨by show 0 ≤ left - p; omega, by show left - p ≤ sq; omega, by show 0 ≤ t + p * v.5; omega, by show t + p * v.5 ≤ (sq - (left - p)) * 1048576; omega, q5⟩⟩) (fun h => absurd (of_decide_eq_false h) (by omega))
  · intro rec s hG
    obtain ⟨left, t⟩ := s
    obtain ⟨q1, q2, q3, q4, q5⟩ := hG
    have q1 : 0 ≤ left := q1
    have q2 : left ≤ sq := q2
    have q3 : 0 ≤ t := q3
    have q4 : t ≤ (sq - left) * 1048576 := q4
    have q5 : (left, t) = R := q5
    subst q5
    show IFB _ _ _
    exact IFB.mk (fun h => absurd (of_decide_eq_true h) (by omega)) (fun _ => ⟨⟨q3, by show t ≤ 1125899906842624; omega, by omega, by omega⟩, hp⟩)

end RE
end Go.Proofs.Ytpnmiieohdkenaa
