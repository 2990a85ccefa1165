/-
  Chapter 22: Once.
-/
import Derived.Test.YtblcakaohlgagaaGreatVCopF
import Derived.Test.YtblcakaohlgagaaGreatVPlain
import Derived.Test.YtblcakaohlgagaaGreatVEngC
set_option maxRecDepth 100000
set_option linter.unusedVariables false
namespace Go.Proofs.YtblcakaohlgagaaGreat
open Go.RowKit
namespace RE
open PL

def lOnce_C : CtxR := ⟨tau, [ruleN 10, rule1 kcrops_sp, rule1 kvers_sp, rule1 kyie_sp, rule1 pset_sp, rule1 rmeet_sp, rule1 rwit_sp, rule1 pawake_sp], lookJ [(0, 65, ⟨[(129, .dat (.int .i64))], [], [130, 131, 132, 15, 133, 134, 145, 144, 143, 142, 141, 140, 139, 138, 16, 137, 135, 136, 146], [], []⟩), (0, 71, ⟨[(135, .dat (.int .i64))], [], [136, 137, 16, 138, 139, 140, 141, 142, 143, 144, 145], [], []⟩), (0, 41, ⟨[(96, .dat (.int .i64))], [], [97, 98, 12, 99, 100, 101, 102, 115, 114, 113, 112, 111, 110, 109, 108, 107, 106, 13, 105, 103, 104, 116, 117, 118, 119, 120, 121, 122, 123, 124, 125, 126], [], []⟩), (0, 47, ⟨[(103, .dat (.int .i64))], [], [104, 105, 13, 106, 107, 108, 109, 110, 111, 112, 113, 114, 115], [], []⟩), (0, 19, ⟨[(43, .dat (.int .i64)), (9, .own 41 (.st .api_Region)), (8, .own 41 (.st .api_Region))], [], [44, 45, 10, 46, 47, 48, 49, 50, 51, 52, 53, 54, 55, 56, 57, 58, 59, 60, 61, 62, 63, 64, 92, 68, 69, 70, 71, 72, 73, 74, 75, 76, 77, 78, 79, 80, 81, 82, 83, 84, 85, 86, 87, 88, 89, 90, 91, 11, 67, 65, 66, 93], [], []⟩), (0, 29, ⟨[(65, .dat (.int .i64)), (9, .own 41 (.st .api_Region)), (8, .own 41 (.st .api_Region))], [], [66, 67, 11, 91, 90, 89, 88, 87, 86, 85, 84, 83, 82, 81, 80, 79, 78, 77, 76, 75, 74, 73, 72, 71, 70, 69, 68, 92], [0, 1], []⟩), (0, 1000016, ⟨[(9, .own 41 (.st .api_Region)), (8, .own 41 (.st .api_Region))], [], [68, 69, 70, 71, 72, 73, 74, 75, 76, 77, 78, 79, 80, 81, 82, 83, 84, 85, 86, 87, 88, 89, 90, 91], [3, 2], []⟩)]⟩
def lOnce_W (l : List (Int)) (post : Bool → Prop) : Prop := ∀ (v1 : List api_Crop), (3 : Nat) ≤ v1.length ∧ v1.length ≤ (8 : Nat) → ((1 : Nat) ≤ v1.length ∧ v1.length ≤ (1000 : Nat) ∧ (1 : Int) ≤ (3 : Int) ∧ (3 : Int) ≤ (10 : Int)) ∧ ∀ (v2 : List api_Version), madeV (3 : Int) v2 → ((1 : Nat) ≤ v2.length ∧ v2.length ≤ (1000 : Nat) ∧ ∀ (v3 : api_Version), v3 ∈ v2 → v3.2.length ≤ (1000 : Nat)) ∧ ∀ (v4 : List api_Yield), madeY v2 v4 → okS v2 ∧ ∀ (v5 : List api_Version) (v6 : List api_Double) (v7 : Int), setR v2 v4 v5 v6 v7 → ((gx false !decide (v7 = (0 : Int))) = true → (↑v5.length : Int) ≤ (9223372036854775807 : Int)) → ((gx false !decide (v7 = (0 : Int))) = true → (↑v2.length : Int) ≤ (9223372036854775807 : Int)) → IFB (!decide (v7 = (0 : Int)) || !decide ((↑v5.length : Int) = (↑v2.length : Int))) (post false) ((↑v2.length : Int) ≤ (9223372036854775807 : Int) → LOOP [Ty.int IntKind.i64, (Ty.st Sn.api_Region).sl, (Ty.st Sn.api_Region).sl] (fun (rec8 : Int → List api_Region → List api_Region → Prop) (z9 : Int) (z10 z11 : List api_Region) ↦ IFB (decide (z9 < (↑v2.length : Int))) (((0 : Int) ≤ z9 ∧ z9 < (↑v5.length : Int)) ∧ ((0 : Int) ≤ z9 ∧ z9 < (↑v2.length : Int)) ∧ ((↑(ix v5 z9).2.length : Int) ≤ (9223372036854775807 : Int) → (↑(ix v2 z9).2.length : Int) ≤ (9223372036854775807 : Int) → IFB (!decide ((↑(ix v5 z9).2.length : Int) = (↑(ix v2 z9).2.length : Int))) (post false) (((0 : Int) ≤ z9 ∧ z9 < (↑v5.length : Int)) ∧ ((↑(ix v5 z9).2.length : Int) ≤ (9223372036854775807 : Int) → LOOP [Ty.int IntKind.i64, (Ty.st Sn.api_Region).sl, (Ty.st Sn.api_Region).sl] (fun (rec12 : Int → List api_Region → List api_Region → Prop) (z13 : Int) (z14 z15 : List api_Region) ↦ IFB (decide (z13 < (↑(ix v5 z9).2.length : Int))) (JOIN [(Ty.st Sn.api_Region).sl, (Ty.st Sn.api_Region).sl] (fun (y16 y17 : List api_Region) ↦ rec12 (IntKind.i64.wrap (z13 + (1 : Int))) y16 y17) fun (J18 : List api_Region → List api_Region → Prop) ↦ ((0 : Int) ≤ z9 ∧ z9 < (↑v5.length : Int)) ∧ ((0 : Int) ≤ z13 ∧ z13 < (↑(ix v5 z9).2.length : Int)) ∧ ((0 : Int) ≤ z9 ∧ z9 < (↑v2.length : Int)) ∧ ((0 : Int) ≤ z13 ∧ z13 < (↑(ix v2 z9).2.length : Int)) ∧ (((z15.length + [{ Rects := (ix (ix v5 z9).2 z13).2.1 : api_Region }].length) * (24 : Nat) ≤ (140737488355328 : Nat) ∧ (z14.length + [{ Rects := (ix (ix v2 z9).2 z13).2.1 : api_Region }].length) * (24 : Nat) ≤ (140737488355328 : Nat) ∧ J18 (z14 ++ [{ Rects := (ix (ix v2 z9).2 z13).2.1 : api_Region }]) (z15 ++ [{ Rects := (ix (ix v5 z9).2 z13).2.1 : api_Region }])) ∧ (z15.length + [{ Rects := (ix (ix v5 z9).2 z13).2.1 : api_Region }].length) * (24 : Nat) ≤ (140737488355328 : Nat) ∧ (z14.length + [{ Rects := (ix (ix v2 z9).2 z13).2.1 : api_Region }].length) * (24 : Nat) ≤ (140737488355328 : Nat) ∧ J18 (z14 ++ [{ Rects := (ix (ix v2 z9).2 z13).2.1 : api_Region }]) (z15 ++ [{ Rects := (ix (ix v5 z9).2 z13).2.1 : api_Region }])) ∧ (z15.length + [{ Rects := (ix (ix v5 z9).2 z13).2.1 : api_Region }].length) * (24 : Nat) ≤ (140737488355328 : Nat) ∧ (z14.length + [{ Rects := (ix (ix v2 z9).2 z13).2.1 : api_Region }].length) * (24 : Nat) ≤ (140737488355328 : Nat) ∧ J18 (z14 ++ [{ Rects := (ix (ix v2 z9).2 z13).2.1 : api_Region }]) (z15 ++ [{ Rects := (ix (ix v5 z9).2 z13).2.1 : api_Region }])) (rec8 (IntKind.i64.wrap (z9 + (1 : Int))) z14 z15)) ((0 : Int), z10, z11, PUnit.unit)))) ∧ ((↑(ix v2 z9).2.length : Int) ≤ (9223372036854775807 : Int) → (↑(ix v5 z9).2.length : Int) ≤ (9223372036854775807 : Int) → IFB (!decide ((↑(ix v5 z9).2.length : Int) = (↑(ix v2 z9).2.length : Int))) (post false) (((0 : Int) ≤ z9 ∧ z9 < (↑v5.length : Int)) ∧ ((↑(ix v5 z9).2.length : Int) ≤ (9223372036854775807 : Int) → LOOP [Ty.int IntKind.i64, (Ty.st Sn.api_Region).sl, (Ty.st Sn.api_Region).sl] (fun (rec19 : Int → List api_Region → List api_Region → Prop) (z20 : Int) (z21 z22 : List api_Region) ↦ IFB (decide (z20 < (↑(ix v5 z9).2.length : Int))) (JOIN [(Ty.st Sn.api_Region).sl, (Ty.st Sn.api_Region).sl] (fun (y23 y24 : List api_Region) ↦ rec19 (IntKind.i64.wrap (z20 + (1 : Int))) y23 y24) fun (J25 : List api_Region → List api_Region → Prop) ↦ ((0 : Int) ≤ z9 ∧ z9 < (↑v5.length : Int)) ∧ ((0 : Int) ≤ z20 ∧ z20 < (↑(ix v5 z9).2.length : Int)) ∧ ((0 : Int) ≤ z9 ∧ z9 < (↑v2.length : Int)) ∧ ((0 : Int) ≤ z20 ∧ z20 < (↑(ix v2 z9).2.length : Int)) ∧ (((z22.length + [{ Rects := (ix (ix v5 z9).2 z20).2.1 : api_Region }].length) * (24 : Nat) ≤ (140737488355328 : Nat) ∧ (z21.length + [{ Rects := (ix (ix v2 z9).2 z20).2.1 : api_Region }].length) * (24 : Nat) ≤ (140737488355328 : Nat) ∧ J25 (z21 ++ [{ Rects := (ix (ix v2 z9).2 z20).2.1 : api_Region }]) (z22 ++ [{ Rects := (ix (ix v5 z9).2 z20).2.1 : api_Region }])) ∧ (z22.length + [{ Rects := (ix (ix v5 z9).2 z20).2.1 : api_Region }].length) * (24 : Nat) ≤ (140737488355328 : Nat) ∧ (z21.length + [{ Rects := (ix (ix v2 z9).2 z20).2.1 : api_Region }].length) * (24 : Nat) ≤ (140737488355328 : Nat) ∧ J25 (z21 ++ [{ Rects := (ix (ix v2 z9).2 z20).2.1 : api_Region }]) (z22 ++ [{ Rects := (ix (ix v5 z9).2 z20).2.1 : api_Region }])) ∧ (z22.length + [{ Rects := (ix (ix v5 z9).2 z20).2.1 : api_Region }].length) * (24 : Nat) ≤ (140737488355328 : Nat) ∧ (z21.length + [{ Rects := (ix (ix v2 z9).2 z20).2.1 : api_Region }].length) * (24 : Nat) ≤ (140737488355328 : Nat) ∧ J25 (z21 ++ [{ Rects := (ix (ix v2 z9).2 z20).2.1 : api_Region }]) (z22 ++ [{ Rects := (ix (ix v5 z9).2 z20).2.1 : api_Region }])) (rec8 (IntKind.i64.wrap (z9 + (1 : Int))) z21 z22)) ((0 : Int), z10, z11, PUnit.unit))))) ((↑z11.length : Int) ≤ (9223372036854775807 : Int) → LOOP [Ty.int IntKind.i64] (fun (rec26 : Int → Prop) (z27 : Int) ↦ IFB (decide (z27 < (↑z11.length : Int))) ((Int.NonNeg (0 : Int) ∧ (0 : Int) ≤ z27 ∧ z27 ≤ (↑z11.length : Int)) ∧ ((0 : Int) ≤ (0 : Int) ∧ (0 : Int) ≤ z27 → LOOP [Ty.int IntKind.i64] (fun (rec28 : Int → Prop) (z29 : Int) ↦ IFB (decide (z29 < z27 - (0 : Int))) (((0 : Int) ≤ z27 ∧ z27 < (↑z11.length : Int)) ∧ ((0 : Int) ≤ z29 ∧ z29 < (↑z11.length : Int)) ∧ ∀ (v30 : Bool), (v30 = true ↔ meetP (ix z11 z27).1 (ix z11 z29).1) → IFB v30 (post false) (rec28 (IntKind.i64.wrap (z29 + (1 : Int))))) (((0 : Int) ≤ z27 ∧ z27 < (↑z11.length : Int)) ∧ ((0 : Int) ≤ z27 ∧ z27 < (↑z10.length : Int)) ∧ ∀ (v31 : Bool), (v31 = true ↔ withinP (ix z11 z27).1 (ix z10 z27).1) → IFB (!v31) (post false) (rec26 (IntKind.i64.wrap (z27 + (1 : Int)))))) ((0 : Int), PUnit.unit))) ((↑v6.length : Int) ≤ (9223372036854775807 : Int) → LOOP [Ty.int IntKind.i64] (fun (rec32 : Int → Prop) (z33 : Int) ↦ IFB (decide (z33 < (↑v6.length : Int))) (((0 : Int) ≤ z33 ∧ z33 < (↑v6.length : Int)) ∧ ((↑z11.length : Int) ≤ (9223372036854775807 : Int) → LOOP [Ty.int IntKind.i64] (fun (rec34 : Int → Prop) (z35 : Int) ↦ IFB (decide (z35 < (↑z11.length : Int))) (((0 : Int) ≤ z35 ∧ z35 < (↑z11.length : Int)) ∧ ∀ (v36 : Bool), (v36 = true ↔ meetP (ix v6 z33).1.1 (ix z11 z35).1) → IFB v36 (post false) (rec34 (IntKind.i64.wrap (z35 + (1 : Int))))) (rec32 (IntKind.i64.wrap (z33 + (1 : Int))))) ((0 : Int), PUnit.unit))) (post true)) ((0 : Int), PUnit.unit))) ((0 : Int), PUnit.unit))) ((0 : Int), [], [], PUnit.unit))
theorem lOnce_w (l : List (Int)) (post : Bool → Prop) : lOnce_W l post = lawG (callR Tryz.prog lOnce_C (drawR Tryz.prog tau) 10 0) 3 [tv (.sl (.int .i64)) l] post := by kernel_rfl
theorem lOnce_calls (l : List (Int)) (h : lOnce_W l fun b => b = true) {w : World} {S : Cells} {us : List Value} (h1 : ∀ b o, S b o → b < w.heap.size) (h3 : us.length = 1) (h4 : ∀ (i : Nat) (d : D) (u : Value), [tv (.sl (.int .i64)) l][i]? = some d → us[i]? = some u → Rd S w d u) : Calls Tryz.prog 3 us.toArray w fun e w' => (∃ b, e = .returned (.bool b) ∧ b = true) ∧ Below w.heap.size w w' := lawG_okH (cp := callR Tryz.prog lOnce_C (drawR Tryz.prog tau) 10 0) (callR_ok (C := lOnce_C) (dr := drawR Tryz.prog tau) (.cons (ruleN_ok knew_ok) (.cons (rule1_ok kcrops_ok) (.cons (rule1_ok kvers_ok) (.cons (rule1_ok kyie_ok) (.cons (rule1_ok pset_ok) (.cons (rule1_ok rmeet_ok) (.cons (rule1_ok rwit_ok) (.cons (rule1_ok pawake_ok) .nil)))))))) (drawR_ok tau) 10 0) (HoldW.of (lOnce_w l fun b => b = true) h) h1 h3 h4
theorem regN_len {l : List api_Version} (h : M3 l) {k : Nat} (hk : k ≤ l.length) : (regN l k).length ≤ 6 := by
  rw [← lin_len]
  have := linN_le (l := l) hk
  have := h.lin
  have e : linV l = linN l l.length := rfl
  rw [e] at this
  omega
def colI (v m : List api_Version) (z : Int) (a b : List api_Region) : Prop := ∃ k : Nat, z = (k : Int) ∧ k ≤ v.length ∧ a = regN v k ∧ b = regN m k
def colJ (v m : List api_Version) (k : Nat) (z : Int) (a b : List api_Region) : Prop := ∃ j : Nat, z = (j : Int) ∧ j ≤ (ix v (k : Int)).Lines.length ∧ a = regN v k ++ ((ix v (k : Int)).Lines.take j).map (·.Region) ∧ b = regN m k ++ ((ix m (k : Int)).Lines.take j).map (·.Region)
/-- What is asked of the settled lines. -/
theorem once_law {v m : List api_Version} {ys : List api_Yield} {ds : List Dbl} (hS : SetOK v ys m ds) :
    (∀ i k : Nat, i < (regN m m.length).length → k < i → ¬ meetP (ix (regN m m.length) (i : Int)).1 (ix (regN m m.length) (k : Int)).1) ∧
    (∀ i : Nat, i < (regN m m.length).length → (∀ x ∈ v, linesOK x.Lines) → withinP (ix (regN m m.length) (i : Int)).1 (ix (regN v v.length) (i : Int)).1) ∧
    ∀ d ∈ ds, ∀ i : Nat, i < (regN m m.length).length → ¬ meetP d.1.1 (ix (regN m m.length) (i : Int)).1 := by
  refine ⟨fun i k hi hk hm => ?_, fun i hi hv => ?_, fun d hd i hi hm => ?_⟩
  · obtain ⟨p, p1, p2, p3⟩ := reg_at hi
    obtain ⟨q, q1, q2, q3⟩ := reg_at (l := m) (i := k) (by omega)
    rw [p3, q3] at hm
    obtain ⟨_, _, x, y, c1, c2⟩ := hm
    have p2 := hS.like.there.1 p2
    have q2 := hS.like.there.1 q2
    obtain ⟨a1, a2⟩ := (hS.covM p p2 x y).1 c1
    obtain ⟨b1, _⟩ := (hS.covM q q2 x y).1 c2
    exact plc_ne q1 p1 (by omega) (a2 q q2 b1)
  · have hi2 : i < (regN v v.length).length := by rw [← reg_len hS.like]; exact hi
    obtain ⟨p, p1, p2, p3⟩ := reg_at hi
    obtain ⟨q, q1, q2, q3⟩ := reg_at hi2
    rw [plc_like hS.like, q1] at p1
    have e : q = p := by injection p1
    subst e
    rw [p3, q3]
    obtain ⟨a, a1, a2, a3⟩ := hS.box q q2
    obtain ⟨b, b1, b2, b3⟩ := gat_boxed hv q2
    exact ⟨boxed_valid a1 a2 a3, boxed_valid b1 b2 b3, fun x y hc => ((hS.covG q q2 x y).1 ((hS.covM q q2 x y).1 hc).1).1⟩
  · obtain ⟨p, p1, p2, p3⟩ := reg_at hi
    rw [p3] at hm
    obtain ⟨_, _, x, y, c1, c2⟩ := hm
    have p2 := hS.like.there.1 p2
    obtain ⟨a1, a2⟩ := (hS.covM p p2 x y).1 c2
    obtain ⟨_, _, d3, d4⟩ := dbls_each (linV_nodup _) hS.dbl d hd
    have hw := d4 x y c1
    rw [← hw] at d3
    obtain ⟨q, hq, hne⟩ := nodup_two (who_nodup _ x y) d3 p
    obtain ⟨k1, k2⟩ := mem_who.1 hq
    exact hne (a2 q (hS.glike.there.1 k1) k2)
set_option maxHeartbeats 4000000 in
theorem lOnce_h (l : List Int) : lOnce_W l fun b => b = true := by
  unfold lOnce_W
  intro v1 h1
  refine ⟨⟨by omega, by omega, by omega, by omega⟩, fun v hv => ?_⟩
  have hM := made_M3 hv (by omega)
  have hv3 : v.length ≤ 3 := hM.1
  refine ⟨⟨hv.1, by omega, fun x hx => by have := (hM.2 x hx).2; show x.Lines.length ≤ 1000; omega⟩, fun ys hys => ⟨hM.okS, fun m ds e hs => ?_⟩⟩
  obtain ⟨rfl, hS⟩ := set_made hM hys.2 (by have := hys.1; omega) hs
  have hlen : m.length = v.length := hS.like.1
  have hsh := hS.like.shape.2
  have hMl : ∀ k, k ≤ v.length → (regN m k).length ≤ 6 := fun k hk => by
    rw [← lin_len]
    have h1 := linN_le (l := m) (k := k) (n := m.length) (by omega)
    have h2 := linV_like_len hS.like
    have h3 := hM.lin
    have e : linV m = linN m m.length := rfl
    rw [e] at h2
    omega
  intro _ _
  refine IFB.no (by simp [hlen]) fun _ => ?_
  refine LOOP.fuel (fun u => colI v m u.1 u.2.1 u.2.2.1) (fun u => v.length - Int.toNat u.1) ⟨0, rfl, Nat.zero_le _, rfl, rfl⟩ ?_
  rintro rec ⟨(z : Int), (a : List api_Region), (b : List api_Region), ⟨⟩⟩ ⟨k, i1, i2, i3, i4⟩ hrec
  have i1 : z = (k : Int) := i1
  have q3 : a = regN v k := i3
  have q4 : b = regN m k := i4
  clear i3 i4
  subst i1
  refine IFB.mk (fun hb => ?_) (fun hb => ?_)
  · have hb : (k : Int) < v.length := of_decide_eq_true hb
    have hk : k < v.length := by omega
    have A : (0 : Int) ≤ (k : Int) ∧ (k : Int) < (m.length : Int) := by omega
    have B : (0 : Int) ≤ (k : Int) ∧ (k : Int) < (v.length : Int) := by omega
    have hx := (hM.2 _ (ix_mem (l := v) (i := (k : Int)) B.1 B.2)).2
    have hsk : (ix m (k : Int)).Lines.length = (ix v (k : Int)).Lines.length := hsh k
    refine ⟨A, B, ?_, ?_⟩
    all_goals
      intro _ _
      refine IFB.no (by simp [hsk]) ⟨A, fun _ => ?_⟩
      refine LOOP.fuel (fun u => colJ v m k u.1 u.2.1 u.2.2.1) (fun u => (ix v (k : Int)).Lines.length - Int.toNat u.1) ⟨0, rfl, Nat.zero_le _, by show a = regN v k ++ []; rw [List.append_nil]; exact q3, by show b = regN m k ++ []; rw [List.append_nil]; exact q4⟩ ?_
      rintro rec2 ⟨(z2 : Int), (a2 : List api_Region), (b2 : List api_Region), ⟨⟩⟩ ⟨j, j1, j2, j3, j4⟩ hrec2
      have j1 : z2 = (j : Int) := j1
      have r3 : a2 = regN v k ++ ((ix v (k : Int)).Lines.take j).map (·.Region) := j3
      have r4 : b2 = regN m k ++ ((ix m (k : Int)).Lines.take j).map (·.Region) := j4
      clear j3 j4
      subst j1
      have la : a2.length ≤ 10 := by
        rw [r3, List.length_append, List.length_map, List.length_take]
        have := regN_len hM (k := k) (by omega)
        omega
      have lb : b2.length ≤ 10 := by
        rw [r4, List.length_append, List.length_map, List.length_take]
        have := hMl k (by omega)
        omega
      refine IFB.mk (fun hc => JOIN.opq fun (J : List api_Region → List api_Region → Prop) hJ => ?_) (fun hc => ?_)
      · have hc : (j : Int) < ((ix m (k : Int)).Lines.length : Int) := of_decide_eq_true hc
        have hj : j < (ix v (k : Int)).Lines.length := by omega
        have hj2 : j < (ix m (k : Int)).Lines.length := by omega
        have C : (0 : Int) ≤ (j : Int) ∧ (j : Int) < ((ix m (k : Int)).Lines.length : Int) := by omega
        have D : (0 : Int) ≤ (j : Int) ∧ (j : Int) < ((ix v (k : Int)).Lines.length : Int) := by omega
        have c1 : ∀ u : api_Region, (a2.length + [u].length) * 24 ≤ 140737488355328 := fun u => by simp only [List.length_cons, List.length_nil]; omega
        have c2 : ∀ u : api_Region, (b2.length + [u].length) * 24 ≤ 140737488355328 := fun u => by simp only [List.length_cons, List.length_nil]; omega
        have fin : J (a2 ++ [(⟨(ix (ix v (k : Int)).2 (j : Int)).2.1⟩ : api_Region)]) (b2 ++ [(⟨(ix (ix m (k : Int)).2 (j : Int)).2.1⟩ : api_Region)]) := by
          rw [hJ]
          show rec2 (IntKind.i64.wrap ((j : Int) + 1)) _ _
          rw [wrapS (by omega)]
          refine hrec2 (((j + 1 : Nat) : Int), _, _, ()) ⟨j + 1, rfl, hj, ?_, ?_⟩ (by show (ix v (k : Int)).Lines.length - ((j + 1 : Nat) : Int).toNat < (ix v (k : Int)).Lines.length - (j : Int).toNat; omega)
          · show a2 ++ _ = _
            rw [List.take_succ_eq_append_getElem hj, List.map_append, ← List.append_assoc, ← r3, ix_lt hj]; rfl
          · show b2 ++ _ = _
            rw [List.take_succ_eq_append_getElem hj2, List.map_append, ← List.append_assoc, ← r4, ix_lt hj2]; rfl
        repeat' first
          | with_reducible exact fin
          | with_reducible exact A
          | with_reducible exact B
          | with_reducible exact C
          | with_reducible exact D
          | with_reducible exact c1 _
          | with_reducible exact c2 _
          | with_reducible apply And.intro
      · have hc : ¬ (j : Int) < ((ix m (k : Int)).Lines.length : Int) := of_decide_eq_false hc
        have hj : j = (ix v (k : Int)).Lines.length := by omega
        have hj2 : j = (ix m (k : Int)).Lines.length := by omega
        show rec (IntKind.i64.wrap ((k : Int) + 1)) a2 b2
        rw [wrapS (by omega)]
        refine hrec (((k + 1 : Nat) : Int), a2, b2, ()) ⟨k + 1, rfl, hk, ?_, ?_⟩ (by show v.length - ((k + 1 : Nat) : Int).toNat < v.length - (k : Int).toNat; omega)
        · show a2 = _
          rw [regN_succ, r3, hj, List.take_length]
        · show b2 = _
          rw [regN_succ, r4, hj2, List.take_length]
  have hb : ¬ (k : Int) < v.length := of_decide_eq_false hb
  have hk : k = v.length := by omega
  have e1 : a = regN v v.length := by rw [q3, hk]
  have e2 : b = regN m m.length := by rw [q4, hk, hlen]
  clear q3 q4 hrec
  obtain ⟨w1, w2, w3⟩ := once_law hS
  rw [← e2] at w1 w2 w3
  rw [← e1] at w2
  have hab : a.length = b.length := by rw [e1, e2]; exact (reg_len hS.like).symm
  have hb6 : b.length ≤ 6 := by rw [e2, hlen]; exact hMl _ (Nat.le_refl _)
  have hd2 : ds.length ≤ 200 := by
    have := facesS_len (L := linV (ys.foldl give1 v)) (n := 6) (by rw [linV_like_len hS.glike]; exact hM.lin)
    have e3 := hS.dbl.1.length_eq
    rw [List.length_map] at e3
    unfold two at e3
    have e4 := List.length_filter_le (fun f : Fc => decide (2 ≤ f.claims.length)) (facesS (linV (ys.foldl give1 v)))
    omega
  intro _
  refine loopCmp (n := b.length) (by omega) (p := fun _ => True) (fun rec2 i hi _ hrec2 => ⟨⟨Int.NonNeg.mk _, by show (0 : Int) ≤ (i : Int); omega, by show (i : Int) ≤ (b.length : Int); omega⟩, fun _ => ?_⟩) fun _ => ?_
  · have I : (0 : Int) ≤ (i : Int) ∧ (i : Int) < (b.length : Int) := ⟨by omega, by show (i : Int) < (b.length : Int); omega⟩
    rw [Int.sub_zero]
    refine loopCmp (n := i) (by omega) (p := fun _ => True) (fun rec3 j hj _ hrec3 => ⟨I, ⟨by omega, by show (j : Int) < (b.length : Int); omega⟩, fun v30 h30 => IFB.mk (fun hc => absurd (h30.1 hc) (w1 i j hi hj)) (fun _ => hrec3 trivial)⟩) fun _ => ?_
    refine ⟨I, ⟨by omega, by show (i : Int) < (a.length : Int); omega⟩, fun v31 h31 => ?_⟩
    have : v31 = true := h31.2 (w2 i hi fun x hx => (hM.2 x hx).1)
    rw [this]
    exact IFB.no rfl (hrec2 trivial)
  · intro _
    refine loopCmp (n := ds.length) (by omega) (p := fun _ => True) (fun rec2 i hi _ hrec2 => ⟨by omega, fun _ => ?_⟩) fun _ => rfl
    refine loopCmp (n := b.length) (by omega) (p := fun _ => True) (fun rec3 j hj _ hrec3 => ⟨⟨by omega, by show (j : Int) < (b.length : Int); omega⟩, fun v36 h36 => IFB.mk (fun hc => absurd (h36.1 hc) (w3 _ (ix_mem (l := ds) (i := (i : Int)) (by omega) (by omega)) j hj)) (fun _ => hrec3 trivial)⟩) fun _ => hrec2 trivial

end RE
end Go.Proofs.YtblcakaohlgagaaGreat
