/-
  Chapter 14: each version reduces itself, and what reduces a reduction reduces.
-/
import Derived.Test.YtjkcjfgdablklaaGreatXApp
import Derived.Test.YtjkcjfgdablklaaGreatXPlain
set_option maxRecDepth 100000
set_option linter.unusedVariables false
namespace Go.Proofs.YtjkcjfgdablklaaGreat
open Go.RowKit
namespace RE
open PL

def lOrder_C : CtxR := ⟨tau, [ruleN 13, rule1 kmade_sp, rule1 pred_sp, rule1 pawake_sp], lookJ [(0, 11, ⟨[(39, .dat (.int .i64))], [], [40, 41, 42, 8, 44, 45, 46, 43, 47, 48, 9, 10, 49, 50, 51, 54, 52, 53, 55, 56, 106, 64, 63, 65, 66, 14, 68, 69, 70, 67, 71, 72, 15, 16, 74, 75, 76, 73, 77, 78, 17, 18, 80, 81, 82, 79, 83, 84, 19, 20, 85, 86, 87, 90, 91, 94, 95, 104, 88, 89, 92, 93, 96, 97, 98, 99, 100, 101, 102, 103, 105, 62, 61, 12, 60, 59, 57, 58, 107], [], []⟩), (0, 23, ⟨[(57, .dat (.int .i64))], [], [58, 59, 60, 12, 61, 62, 105, 103, 102, 101, 100, 99, 98, 97, 96, 93, 92, 89, 88, 104, 95, 94, 91, 90, 87, 86, 85, 20, 19, 84, 83, 79, 82, 81, 80, 18, 17, 78, 77, 73, 76, 75, 74, 16, 15, 72, 71, 67, 70, 69, 68, 14, 66, 65, 63, 64, 106], [], []⟩), (0, 29, ⟨[(63, .dat (.int .i64))], [], [64, 65, 66, 14, 68, 69, 70, 67, 71, 72, 15, 16, 74, 75, 76, 73, 77, 78, 17, 18, 80, 81, 82, 79, 83, 84, 19, 20, 85, 86, 87, 90, 91, 94, 95, 104, 88, 89, 92, 93, 96, 97, 98, 99, 100, 101, 102, 103, 105], [], []⟩), (0, 1000003, ⟨[(6, .own 34 (.st .api_Version))], [], [27, 28, 29, 30, 31, 32, 33, 34, 35, 36], [], []⟩)]⟩
def lOrder_W (l : List (Int)) (post : Bool → Prop) : Prop := ∀ (v1 : api_Application), madeOK v1 → ∀ (v2 : api_Application), madeOK v2 → JOIN [(Ty.st Sn.api_Version).sl] (fun (y3 : List api_Version) ↦ (↑y3.length : Int) ≤ (9223372036854775807 : Int) → LOOP [Ty.int IntKind.i64] (fun (rec4 : Int → Prop) (z5 : Int) ↦ IFB (decide (z5 < (↑y3.length : Int))) (((0 : Int) ≤ z5 ∧ z5 < (↑y3.length : Int)) ∧ ((ix y3 z5).2.length ≤ (20 : Nat) ∧ (ix y3 z5).2.length ≤ (20 : Nat) ∧ (∀ (v6 : api_Line), v6 ∈ (ix y3 z5).2 → v6.2.1.length ≤ (120 : Nat) ∧ (∀ (v7 : api_Rect), v7 ∈ v6.2.1 → (0 : Int) ≤ v7.1 ∧ v7.1 < v7.3 ∧ v7.3 ≤ (16384 : Int) ∧ (0 : Int) ≤ v7.2 ∧ v7.2 < v7.4 ∧ v7.4 ≤ (16384 : Int)) ∧ Canon v6.2.1) ∧ ∀ (v8 : api_Line), v8 ∈ (ix y3 z5).2 → v8.2.1.length ≤ (120 : Nat) ∧ (∀ (v9 : api_Rect), v9 ∈ v8.2.1 → (0 : Int) ≤ v9.1 ∧ v9.1 < v9.3 ∧ v9.3 ≤ (16384 : Int) ∧ (0 : Int) ≤ v9.2 ∧ v9.2 < v9.4 ∧ v9.4 ≤ (16384 : Int)) ∧ Canon v8.2.1) ∧ ∀ (v10 : Bool), (v10 = true ↔ reducesP { Day := (ix y3 z5).1, Lines := (ix y3 z5).2 : api_Version } { Day := (ix y3 z5).1, Lines := (ix y3 z5).2 : api_Version }) → IFB (!decide ((0 : Int) = (0 : Int)) || !v10) (post false) ((↑y3.length : Int) ≤ (9223372036854775807 : Int) → LOOP [Ty.int IntKind.i64] (fun (rec11 : Int → Prop) (z12 : Int) ↦ IFB (decide (z12 < (↑y3.length : Int))) (((0 : Int) ≤ z12 ∧ z12 < (↑y3.length : Int)) ∧ ((↑y3.length : Int) ≤ (9223372036854775807 : Int) → LOOP [Ty.int IntKind.i64] (fun (rec13 : Int → Prop) (z14 : Int) ↦ IFB (decide (z14 < (↑y3.length : Int))) (((0 : Int) ≤ z14 ∧ z14 < (↑y3.length : Int)) ∧ ((ix y3 z5).2.length ≤ (20 : Nat) ∧ (ix y3 z12).2.length ≤ (20 : Nat) ∧ (∀ (v15 : api_Line), v15 ∈ (ix y3 z5).2 → v15.2.1.length ≤ (120 : Nat) ∧ (∀ (v16 : api_Rect), v16 ∈ v15.2.1 → (0 : Int) ≤ v16.1 ∧ v16.1 < v16.3 ∧ v16.3 ≤ (16384 : Int) ∧ (0 : Int) ≤ v16.2 ∧ v16.2 < v16.4 ∧ v16.4 ≤ (16384 : Int)) ∧ Canon v15.2.1) ∧ ∀ (v17 : api_Line), v17 ∈ (ix y3 z12).2 → v17.2.1.length ≤ (120 : Nat) ∧ (∀ (v18 : api_Rect), v18 ∈ v17.2.1 → (0 : Int) ≤ v18.1 ∧ v18.1 < v18.3 ∧ v18.3 ≤ (16384 : Int) ∧ (0 : Int) ≤ v18.2 ∧ v18.2 < v18.4 ∧ v18.4 ≤ (16384 : Int)) ∧ Canon v17.2.1) ∧ ∀ (v19 : Bool), (v19 = true ↔ reducesP { Day := (ix y3 z5).1, Lines := (ix y3 z5).2 : api_Version } { Day := (ix y3 z12).1, Lines := (ix y3 z12).2 : api_Version }) → ((ix y3 z12).2.length ≤ (20 : Nat) ∧ (ix y3 z14).2.length ≤ (20 : Nat) ∧ (∀ (v20 : api_Line), v20 ∈ (ix y3 z12).2 → v20.2.1.length ≤ (120 : Nat) ∧ (∀ (v21 : api_Rect), v21 ∈ v20.2.1 → (0 : Int) ≤ v21.1 ∧ v21.1 < v21.3 ∧ v21.3 ≤ (16384 : Int) ∧ (0 : Int) ≤ v21.2 ∧ v21.2 < v21.4 ∧ v21.4 ≤ (16384 : Int)) ∧ Canon v20.2.1) ∧ ∀ (v22 : api_Line), v22 ∈ (ix y3 z14).2 → v22.2.1.length ≤ (120 : Nat) ∧ (∀ (v23 : api_Rect), v23 ∈ v22.2.1 → (0 : Int) ≤ v23.1 ∧ v23.1 < v23.3 ∧ v23.3 ≤ (16384 : Int) ∧ (0 : Int) ≤ v23.2 ∧ v23.2 < v23.4 ∧ v23.4 ≤ (16384 : Int)) ∧ Canon v22.2.1) ∧ ∀ (v24 : Bool), (v24 = true ↔ reducesP { Day := (ix y3 z12).1, Lines := (ix y3 z12).2 : api_Version } { Day := (ix y3 z14).1, Lines := (ix y3 z14).2 : api_Version }) → ((ix y3 z5).2.length ≤ (20 : Nat) ∧ (ix y3 z14).2.length ≤ (20 : Nat) ∧ (∀ (v25 : api_Line), v25 ∈ (ix y3 z5).2 → v25.2.1.length ≤ (120 : Nat) ∧ (∀ (v26 : api_Rect), v26 ∈ v25.2.1 → (0 : Int) ≤ v26.1 ∧ v26.1 < v26.3 ∧ v26.3 ≤ (16384 : Int) ∧ (0 : Int) ≤ v26.2 ∧ v26.2 < v26.4 ∧ v26.4 ≤ (16384 : Int)) ∧ Canon v25.2.1) ∧ ∀ (v27 : api_Line), v27 ∈ (ix y3 z14).2 → v27.2.1.length ≤ (120 : Nat) ∧ (∀ (v28 : api_Rect), v28 ∈ v27.2.1 → (0 : Int) ≤ v28.1 ∧ v28.1 < v28.3 ∧ v28.3 ≤ (16384 : Int) ∧ (0 : Int) ≤ v28.2 ∧ v28.2 < v28.4 ∧ v28.4 ≤ (16384 : Int)) ∧ Canon v27.2.1) ∧ ∀ (v29 : Bool), (v29 = true ↔ reducesP { Day := (ix y3 z5).1, Lines := (ix y3 z5).2 : api_Version } { Day := (ix y3 z14).1, Lines := (ix y3 z14).2 : api_Version }) → IFB (!decide ((0 : Int) = (0 : Int)) || !decide ((0 : Int) = (0 : Int)) || !decide ((0 : Int) = (0 : Int)) || v19 && v24 && !v29) (post false) (rec13 (IntKind.i64.wrap (z14 + (1 : Int))))) (rec11 (IntKind.i64.wrap (z12 + (1 : Int))))) ((0 : Int), PUnit.unit))) (rec4 (IntKind.i64.wrap (z5 + (1 : Int))))) ((0 : Int), PUnit.unit))) (True ∧ post true)) ((0 : Int), PUnit.unit)) fun (J30 : List api_Version → Prop) ↦ (Int.NonNeg (0 : Int) ∧ (0 : Int) < (↑v2.3.length : Int)) ∧ ((((0 : Nat) + v1.3.length) * (32 : Nat) ≤ (140737488355328 : Nat) ∧ (([] ++ v1.3).length + [{ Day := (ix v2.3 (0 : Int)).1, Lines := (ix v2.3 (0 : Int)).2 : api_Version }].length) * (32 : Nat) ≤ (140737488355328 : Nat) ∧ J30 ([] ++ v1.3 ++ [{ Day := (ix v2.3 (0 : Int)).1, Lines := (ix v2.3 (0 : Int)).2 : api_Version }])) ∧ ((0 : Nat) + v1.3.length) * (32 : Nat) ≤ (140737488355328 : Nat) ∧ (([] ++ v1.3).length + [{ Day := (ix v2.3 (0 : Int)).1, Lines := (ix v2.3 (0 : Int)).2 : api_Version }].length) * (32 : Nat) ≤ (140737488355328 : Nat) ∧ J30 ([] ++ v1.3 ++ [{ Day := (ix v2.3 (0 : Int)).1, Lines := (ix v2.3 (0 : Int)).2 : api_Version }])) ∧ ((0 : Nat) + v1.3.length) * (32 : Nat) ≤ (140737488355328 : Nat) ∧ (([] ++ v1.3).length + [{ Day := (ix v2.3 (0 : Int)).1, Lines := (ix v2.3 (0 : Int)).2 : api_Version }].length) * (32 : Nat) ≤ (140737488355328 : Nat) ∧ J30 ([] ++ v1.3 ++ [{ Day := (ix v2.3 (0 : Int)).1, Lines := (ix v2.3 (0 : Int)).2 : api_Version }])
theorem lOrder_w (l : List (Int)) (post : Bool → Prop) : lOrder_W l post = lawG (callR Tryz.prog lOrder_C (drawR Tryz.prog tau) 10 0) 4 [tv (.sl (.int .i64)) l] post := by kernel_rfl
theorem lOrder_calls (l : List (Int)) (h : lOrder_W l fun b => b = true) {w : World} {S : Cells} {us : List Value} (h1 : ∀ b o, S b o → b < w.heap.size) (h3 : us.length = 1) (h4 : ∀ (i : Nat) (d : D) (u : Value), [tv (.sl (.int .i64)) l][i]? = some d → us[i]? = some u → Rd S w d u) : Calls Tryz.prog 4 us.toArray w fun e w' => (∃ b, e = .returned (.bool b) ∧ b = true) ∧ Below w.heap.size w w' := lawG_okH (cp := callR Tryz.prog lOrder_C (drawR Tryz.prog tau) 10 0) (callR_ok (C := lOrder_C) (dr := drawR Tryz.prog tau) (.cons (ruleN_ok knew_ok) (.cons (rule1_ok kmade_ok) (.cons (rule1_ok pred_ok) (.cons (rule1_ok pawake_ok) .nil)))) (drawR_ok tau) 10 0) (HoldW.of (lOrder_w l fun b => b = true) h) h1 h3 h4
theorem lOrder_h (l : List Int) : lOrder_W l fun b => b = true := by
  unfold lOrder_W
  intro v1 h1 v2 h2
  obtain ⟨⟨a1, a2⟩, a3, _⟩ := h1
  obtain ⟨⟨b1, b2⟩, b3, _⟩ := h2
  refine JOIN.opq fun (J30 : List api_Version → Prop) hJ30 => ?_
  have main : J30 ([] ++ v1.3 ++ [⟨(ix v2.3 0).1, (ix v2.3 0).2⟩]) := by
    have hall : ∀ v ∈ ([] ++ v1.3 ++ [⟨(ix v2.3 0).1, (ix v2.3 0).2⟩] : List api_Version), v.2.length ≤ 20 ∧ linesV v.2 := fun v hv => by
      have key : ∀ w : api_Version, w ∈ v1.3 ∨ w ∈ v2.3 → w.2.length ≤ 20 ∧ linesV w.2 := fun w hw => by
        rcases hw with hw | hw
        · obtain ⟨q1, q2, _⟩ := a3 w hw
          exact ⟨by omega, linesOK_V q1⟩
        · obtain ⟨q1, q2, _⟩ := b3 w hw
          exact ⟨by omega, linesOK_V q1⟩
      rw [List.nil_append] at hv
      rcases List.mem_append.1 hv with hv | hv
      · exact key v (.inl hv)
      · rw [List.mem_singleton] at hv
        subst hv
        exact key (ix v2.3 0) (.inr (ix_mem (i := 0) (by omega) (by omega)))
    have hlen : ([] ++ v1.3 ++ [⟨(ix v2.3 0).1, (ix v2.3 0).2⟩] : List api_Version).length ≤ 10 := by simp only [List.nil_append, List.length_append, List.length_cons, List.length_nil]; omega
    rw [hJ30]
    dsimp only
    generalize ([] ++ v1.3 ++ [⟨(ix v2.3 0).1, (ix v2.3 0).2⟩] : List api_Version) = ys at hall hlen
    have hx : ∀ k : Nat, k < ys.length → (ix ys (k : Int)).2.length ≤ 20 ∧ linesV (ix ys (k : Int)).2 := fun k hk => hall _ (ix_mem (by omega) (by omega))
    intro _
    refine loopCmp (n := ys.length) (by omega) (p := fun _ => True) (fun rec k hk hpre hrec => ⟨by omega, ⟨(hx k hk).1, (hx k hk).1, (hx k hk).2, (hx k hk).2⟩, fun q hq => IFB.mk (fun h => ?_) (fun _ _ => ?_)⟩) (fun _ => ⟨trivial, rfl⟩)
    · exfalso
      have : q = true := hq.2 (reduces_refl (hx k hk).2)
      rw [this] at h; cases h
    · refine loopCmp (n := ys.length) (by omega) (p := fun _ => True) (fun rec2 m hm _ hrec2 => ⟨by omega, fun _ => ?_⟩) (fun _ => hrec trivial)
      refine loopCmp (n := ys.length) (by omega) (p := fun _ => True) (fun rec3 n hn _ hrec3 => ⟨by omega, ⟨(hx k hk).1, (hx m hm).1, (hx k hk).2, (hx m hm).2⟩, fun q1 hq1 => ⟨⟨(hx m hm).1, (hx n hn).1, (hx m hm).2, (hx n hn).2⟩, fun q2 hq2 => ⟨⟨(hx k hk).1, (hx n hn).1, (hx k hk).2, (hx n hn).2⟩, fun q3 hq3 => IFB.mk (fun h => ?_) (fun _ => hrec3 trivial)⟩⟩⟩) (fun _ => hrec2 trivial)
      exfalso
      have h : (q1 && q2 && !q3) = true := by simpa using h
      rw [Bool.and_eq_true, Bool.and_eq_true] at h
      have : q3 = true := hq3.2 (reduces_trans (hq1.1 h.1.1) (hq2.1 h.1.2))
      rw [this] at h
      cases h.2
  refine ⟨⟨Int.NonNeg.mk _, by omega⟩, ?_⟩
  have c1 : (0 + v1.3.length) * 32 ≤ 140737488355328 := by omega
  have c2 : (([] ++ v1.3 : List api_Version).length + [(⟨(ix v2.3 0).1, (ix v2.3 0).2⟩ : api_Version)].length) * 32 ≤ 140737488355328 := by simp only [List.nil_append, List.length_cons, List.length_nil]; omega
  exact ⟨⟨⟨c1, c2, main⟩, c1, c2, main⟩, c1, c2, main⟩

end RE
end Go.Proofs.YtjkcjfgdablklaaGreat
