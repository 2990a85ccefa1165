/-
  Chapter 22: Alone.
-/
import Derived.Test.YtblcakaohlgagaaGreatVCopF
import Derived.Test.YtblcakaohlgagaaGreatVPlain
import Derived.Test.YtblcakaohlgagaaGreatVEngC
set_option maxRecDepth 100000
set_option linter.unusedVariables false
set_option linter.unusedSimpArgs false
namespace Go.Proofs.YtblcakaohlgagaaGreat
open Go.RowKit
namespace RE
open PL

def lAlone_C : CtxR := ⟨tau, [ruleN 10, rule1 kcrops_sp, rule1 kvers_sp, rule1 pset_sp, rule1 rwou_sp, rule1 rsame_sp, rule1 pawake_sp], lookJ [(0, 15, ⟨[(36, .dat (.int .i64))], [], [37, 38, 8, 39, 40, 41, 42, 43, 44, 45, 46, 47, 48, 49, 50, 51, 52, 53, 54, 55, 56, 57, 120, 119, 118, 117, 116, 115, 114, 113, 112, 111, 110, 109, 108, 73, 72, 74, 11, 75, 76, 77, 78, 79, 80, 106, 83, 12, 84, 85, 86, 87, 91, 88, 89, 90, 93, 94, 95, 96, 97, 98, 99, 100, 101, 102, 103, 92, 104, 105, 81, 82, 107, 71, 70, 10, 69, 68, 67, 66, 65, 64, 63, 62, 61, 9, 60, 58, 59, 121], [], []⟩), (0, 25, ⟨[(58, .dat (.int .i64))], [], [59, 60, 9, 61, 62, 63, 64, 65, 66, 67, 68, 69, 10, 70, 71, 107, 82, 81, 105, 104, 92, 103, 102, 101, 100, 99, 98, 97, 96, 95, 94, 93, 90, 89, 88, 91, 87, 86, 85, 84, 12, 83, 106, 80, 79, 78, 77, 76, 75, 11, 74, 72, 73, 108, 109, 110, 111, 112, 113, 114, 115, 116, 117, 118, 119, 120], [], []⟩), (0, 33, ⟨[(72, .dat (.int .i64))], [(0, [.dat (.sl (.st .api_Rect))])], [73, 74, 11, 75, 76, 77, 78, 79, 80, 106, 83, 12, 84, 85, 86, 87, 91, 88, 89, 90, 93, 94, 95, 96, 97, 98, 99, 100, 101, 102, 103, 92, 104, 105, 81, 82, 107], [], []⟩), (0, 39, ⟨[(81, .dat (.int .i64))], [(0, [.dat (.sl (.st .api_Rect))])], [82, 105, 104, 92, 103, 102, 101, 100, 99, 98, 97, 96, 95, 94, 93, 90, 89, 88, 91, 87, 86, 85, 84, 12, 83, 106], [], []⟩), (0, 46, ⟨[], [(0, [.dat (.sl (.st .api_Rect))])], [83, 12, 84, 85, 86, 87, 91, 88, 89, 90, 93, 94, 95, 96, 97, 98, 99, 100, 101, 102, 103, 92, 104, 105], [], []⟩)]⟩
def lAlone_W (l : List (Int)) (post : Bool → Prop) : Prop := ∀ (v1 : List api_Crop), (3 : Nat) ≤ v1.length ∧ v1.length ≤ (8 : Nat) → ((1 : Nat) ≤ v1.length ∧ v1.length ≤ (1000 : Nat) ∧ (1 : Int) ≤ (3 : Int) ∧ (3 : Int) ≤ (10 : Int)) ∧ ∀ (v2 : List api_Version), madeV (3 : Int) v2 → okS v2 ∧ ∀ (v3 : List api_Version) (v4 : List api_Double) (v5 : Int), setR v2 [] v3 v4 v5 → ((gx false !decide (v5 = (0 : Int))) = true → (↑v3.length : Int) ≤ (9223372036854775807 : Int)) → ((gx false !decide (v5 = (0 : Int))) = true → (↑v2.length : Int) ≤ (9223372036854775807 : Int)) → IFB (!decide (v5 = (0 : Int)) || !decide ((↑v3.length : Int) = (↑v2.length : Int))) (post false) ((↑v2.length : Int) ≤ (9223372036854775807 : Int) → LOOP [Ty.int IntKind.i64] (fun (rec6 : Int → Prop) (z7 : Int) ↦ IFB (decide (z7 < (↑v2.length : Int))) (((0 : Int) ≤ z7 ∧ z7 < (↑v3.length : Int)) ∧ ((0 : Int) ≤ z7 ∧ z7 < (↑v2.length : Int)) ∧ ((↑(ix v3 z7).2.length : Int) ≤ (9223372036854775807 : Int) → (↑(ix v2 z7).2.length : Int) ≤ (9223372036854775807 : Int) → IFB (!decide ((↑(ix v3 z7).2.length : Int) = (↑(ix v2 z7).2.length : Int))) (post false) (((0 : Int) ≤ z7 ∧ z7 < (↑v2.length : Int)) ∧ ((↑(ix v2 z7).2.length : Int) ≤ (9223372036854775807 : Int) → LOOP [Ty.int IntKind.i64] (fun (rec8 : Int → Prop) (z9 : Int) ↦ IFB (decide (z9 < (↑(ix v2 z7).2.length : Int))) (((0 : Int) ≤ z7 ∧ z7 < (↑v2.length : Int)) ∧ ((0 : Int) ≤ z9 ∧ z9 < (↑(ix v2 z7).2.length : Int)) ∧ ((↑v2.length : Int) ≤ (9223372036854775807 : Int) → LOOP [Ty.int IntKind.i64, (Ty.st Sn.api_Rect).sl] (fun (rec10 : Int → List api_Rect → Prop) (z11 : Int) (z12 : List api_Rect) ↦ IFB (decide (z11 < (↑v2.length : Int))) (((0 : Int) ≤ z11 ∧ z11 < (↑v2.length : Int)) ∧ ((↑(ix v2 z11).2.length : Int) ≤ (9223372036854775807 : Int) → LOOP [Ty.int IntKind.i64, (Ty.st Sn.api_Rect).sl] (fun (rec13 : Int → List api_Rect → Prop) (z14 : Int) (z15 : List api_Rect) ↦ IFB (decide (z14 < (↑(ix v2 z11).2.length : Int))) (JOIN [(Ty.st Sn.api_Rect).sl] (fun (y16 : List api_Rect) ↦ rec13 (IntKind.i64.wrap (z14 + (1 : Int))) y16) fun (J17 : List api_Rect → Prop) ↦ IFB (!decide (z11 = z7) || !decide (z14 = z9)) (((0 : Int) ≤ z11 ∧ z11 < (↑v2.length : Int)) ∧ ((0 : Int) ≤ z14 ∧ z14 < (↑(ix v2 z11).2.length : Int)) ∧ True ∧ J17 (wouS z15 (ix (ix v2 z11).2 z14).2.1).1) (J17 z15)) (rec10 (IntKind.i64.wrap (z11 + (1 : Int))) z15)) ((0 : Int), z12, PUnit.unit))) (((0 : Int) ≤ z7 ∧ z7 < (↑v3.length : Int)) ∧ ((0 : Int) ≤ z9 ∧ z9 < (↑(ix v3 z7).2.length : Int)) ∧ (ix (ix v3 z7).2 z9).2.1.length ≤ (1000000000 : Nat) ∧ ∀ (v18 : Bool), (v18 = true ↔ { Rects := (ix (ix v3 z7).2 z9).2.1 : api_Region } = { Rects := z12 : api_Region }) → IFB (!v18) (post false) (rec8 (IntKind.i64.wrap (z9 + (1 : Int)))))) ((0 : Int), (ix (ix v2 z7).2 z9).2.1, PUnit.unit))) (rec6 (IntKind.i64.wrap (z7 + (1 : Int))))) ((0 : Int), PUnit.unit)))) ∧ ((↑(ix v2 z7).2.length : Int) ≤ (9223372036854775807 : Int) → (↑(ix v3 z7).2.length : Int) ≤ (9223372036854775807 : Int) → IFB (!decide ((↑(ix v3 z7).2.length : Int) = (↑(ix v2 z7).2.length : Int))) (post false) (((0 : Int) ≤ z7 ∧ z7 < (↑v2.length : Int)) ∧ ((↑(ix v2 z7).2.length : Int) ≤ (9223372036854775807 : Int) → LOOP [Ty.int IntKind.i64] (fun (rec19 : Int → Prop) (z20 : Int) ↦ IFB (decide (z20 < (↑(ix v2 z7).2.length : Int))) (((0 : Int) ≤ z7 ∧ z7 < (↑v2.length : Int)) ∧ ((0 : Int) ≤ z20 ∧ z20 < (↑(ix v2 z7).2.length : Int)) ∧ ((↑v2.length : Int) ≤ (9223372036854775807 : Int) → LOOP [Ty.int IntKind.i64, (Ty.st Sn.api_Rect).sl] (fun (rec21 : Int → List api_Rect → Prop) (z22 : Int) (z23 : List api_Rect) ↦ IFB (decide (z22 < (↑v2.length : Int))) (((0 : Int) ≤ z22 ∧ z22 < (↑v2.length : Int)) ∧ ((↑(ix v2 z22).2.length : Int) ≤ (9223372036854775807 : Int) → LOOP [Ty.int IntKind.i64, (Ty.st Sn.api_Rect).sl] (fun (rec24 : Int → List api_Rect → Prop) (z25 : Int) (z26 : List api_Rect) ↦ IFB (decide (z25 < (↑(ix v2 z22).2.length : Int))) (JOIN [(Ty.st Sn.api_Rect).sl] (fun (y27 : List api_Rect) ↦ rec24 (IntKind.i64.wrap (z25 + (1 : Int))) y27) fun (J28 : List api_Rect → Prop) ↦ IFB (!decide (z22 = z7) || !decide (z25 = z20)) (((0 : Int) ≤ z22 ∧ z22 < (↑v2.length : Int)) ∧ ((0 : Int) ≤ z25 ∧ z25 < (↑(ix v2 z22).2.length : Int)) ∧ True ∧ J28 (wouS z26 (ix (ix v2 z22).2 z25).2.1).1) (J28 z26)) (rec21 (IntKind.i64.wrap (z22 + (1 : Int))) z26)) ((0 : Int), z23, PUnit.unit))) (((0 : Int) ≤ z7 ∧ z7 < (↑v3.length : Int)) ∧ ((0 : Int) ≤ z20 ∧ z20 < (↑(ix v3 z7).2.length : Int)) ∧ (ix (ix v3 z7).2 z20).2.1.length ≤ (1000000000 : Nat) ∧ ∀ (v29 : Bool), (v29 = true ↔ { Rects := (ix (ix v3 z7).2 z20).2.1 : api_Region } = { Rects := z23 : api_Region }) → IFB (!v29) (post false) (rec19 (IntKind.i64.wrap (z20 + (1 : Int)))))) ((0 : Int), (ix (ix v2 z7).2 z20).2.1, PUnit.unit))) (rec6 (IntKind.i64.wrap (z7 + (1 : Int))))) ((0 : Int), PUnit.unit))))) (post true)) ((0 : Int), PUnit.unit))
theorem lAlone_w (l : List (Int)) (post : Bool → Prop) : lAlone_W l post = lawG (callR Tryz.prog lAlone_C (drawR Tryz.prog tau) 10 0) 4 [tv (.sl (.int .i64)) l] post := by kernel_rfl
theorem lAlone_calls (l : List (Int)) (h : lAlone_W l fun b => b = true) {w : World} {S : Cells} {us : List Value} (h1 : ∀ b o, S b o → b < w.heap.size) (h3 : us.length = 1) (h4 : ∀ (i : Nat) (d : D) (u : Value), [tv (.sl (.int .i64)) l][i]? = some d → us[i]? = some u → Rd S w d u) : Calls Tryz.prog 4 us.toArray w fun e w' => (∃ b, e = .returned (.bool b) ∧ b = true) ∧ Below w.heap.size w w' := lawG_okH (cp := callR Tryz.prog lAlone_C (drawR Tryz.prog tau) 10 0) (callR_ok (C := lAlone_C) (dr := drawR Tryz.prog tau) (.cons (ruleN_ok knew_ok) (.cons (rule1_ok kcrops_ok) (.cons (rule1_ok kvers_ok) (.cons (rule1_ok pset_ok) (.cons (rule1_ok rwou_ok) (.cons (rule1_ok rsame_ok) (.cons (rule1_ok pawake_ok) .nil))))))) (drawR_ok tau) 10 0) (HoldW.of (lAlone_w l fun b => b = true) h) h1 h3 h4
def rowP (a b : Nat) : List api_Place := (List.range b).map fun (j : Nat) => (⟨(a : Int), (j : Int)⟩ : api_Place)
theorem rowP_succ (a b : Nat) : rowP a (b + 1) = rowP a b ++ [⟨(a : Int), (b : Int)⟩] := by unfold rowP; rw [List.range_succ, List.map_append]; rfl
theorem wou_boxed {b : Int} (h0 : 0 ≤ b) (h1 : b ≤ 2) {r s : List Rc} (hr : boxed b r) (hs : validP s) : wouS r s = (notC r s, 0) := by
  have hv := boxed_valid h0 h1 hr
  have hn : boxed b (notC r s) := boxed_not hr
  have := boxed_len hn
  unfold wouS
  rw [if_neg (not_not_intro ⟨hv, hs⟩), if_neg (by omega)]
/-- What is left of the line at p behind some others. -/
def aloI (v : List api_Version) (p : api_Place) (b : Int) (qs : List api_Place) (r : List Rc) : Prop := boxed b r ∧ ∀ x y, cov r x y = true ↔ cov (gat v p) x y = true ∧ ∀ q ∈ qs, q ≠ p → cov (gat v q) x y = false
theorem alo_step {v : List api_Version} {p q : api_Place} {b : Int} {qs : List api_Place} {r : List Rc} (h0 : 0 ≤ b) (h1 : b ≤ 2) (h : aloI v p b qs r) (hv : validP (gat v q)) (hq : q ≠ p) : aloI v p b (qs ++ [q]) (wouS r (gat v q)).1 := by
  rw [wou_boxed h0 h1 h.1 hv]
  refine ⟨boxed_not h.1, fun x y => ?_⟩
  show cov (notC r (gat v q)) x y = true ↔ _
  rw [cov_not, h.2 x y]
  constructor
  · rintro ⟨⟨a1, a2⟩, a3⟩
    refine ⟨a1, fun s hs hne => ?_⟩
    rcases List.mem_append.1 hs with hs | hs
    · exact a2 s hs hne
    · rw [List.mem_singleton] at hs; rw [hs]; exact a3
  · rintro ⟨a1, a2⟩
    exact ⟨⟨a1, fun s hs hne => a2 s (List.mem_append.2 (.inl hs)) hne⟩, a2 q (List.mem_append.2 (.inr (List.mem_singleton.2 rfl))) hq⟩
theorem alo_skip {v : List api_Version} {p : api_Place} {b : Int} {qs : List api_Place} {r : List Rc} (h : aloI v p b qs r) : aloI v p b (qs ++ [p]) r := by
  refine ⟨h.1, fun x y => ?_⟩
  rw [h.2 x y]
  constructor
  · rintro ⟨a1, a2⟩
    refine ⟨a1, fun s hs hne => ?_⟩
    rcases List.mem_append.1 hs with hs | hs
    · exact a2 s hs hne
    · rw [List.mem_singleton] at hs; exact absurd hs hne
  · rintro ⟨a1, a2⟩
    exact ⟨a1, fun s hs hne => a2 s (List.mem_append.2 (.inl hs)) hne⟩
theorem alo_end {v m : List api_Version} {ds : List Dbl} (hS : SetOK v [] m ds) {p : api_Place} (hp : thereP v p) {b : Int} {r : List Rc} (h : aloI v p b (plcN v v.length) r) : gat m p = r := by
  obtain ⟨q, _, _, hq⟩ := hS.box p hp
  refine canon_uniq hq.1 h.1.1 fun x y => bool_iff ?_
  rw [hS.covM p hp x y, h.2 x y]
  show cov (gat v p) x y = true ∧ _ ↔ _
  constructor
  · rintro ⟨a1, a2⟩
    refine ⟨a1, fun s hs hne => ?_⟩
    obtain ⟨i, j, rfl, hi, hj⟩ := plcN_mem.1 hs
    cases hc : cov (gat v ⟨(i : Int), (j : Int)⟩) x y
    · rfl
    · exact absurd (a2 _ (there_nat.2 ⟨hi, hj⟩) hc) hne
  · rintro ⟨a1, a2⟩
    refine ⟨a1, fun s hs hc => Classical.byContradiction fun hne => ?_⟩
    obtain ⟨i, j, rfl, hi, hj⟩ := place_nat hs
    have := a2 _ (plcN_mem.2 ⟨i, j, rfl, hi, hj⟩) hne
    have hc : cov (gat v ⟨(i : Int), (j : Int)⟩) x y = true := hc
    rw [this] at hc; cases hc
def aloK (v : List api_Version) (p : api_Place) (b z : Int) (r : List Rc) : Prop := ∃ a : Nat, z = (a : Int) ∧ a ≤ v.length ∧ aloI v p b (plcN v a) r
def aloL (v : List api_Version) (p : api_Place) (b : Int) (a : Nat) (z : Int) (r : List Rc) : Prop := ∃ c : Nat, z = (c : Int) ∧ c ≤ (ix v (a : Int)).Lines.length ∧ aloI v p b (plcN v a ++ rowP a c) r
set_option maxHeartbeats 1000000 in
theorem lAlone_h (l : List Int) : lAlone_W l fun b => b = true := by
  unfold lAlone_W
  intro v1 h1
  refine ⟨⟨by omega, by omega, by omega, by omega⟩, fun v hv => ?_⟩
  have hM := made_M3 hv (by omega)
  have hv3 : v.length ≤ 3 := hM.1
  refine ⟨hM.okS, fun m ds e hs => ?_⟩
  obtain ⟨rfl, hS⟩ := set_made hM (fun z hz => by cases hz) (Nat.zero_le _) hs
  have hlen : m.length = v.length := hS.like.1
  have hsh := hS.like.shape.2
  have hval : ∀ q, thereP v q → validP (gat v q) := fun q hq => by
    obtain ⟨b, b0, b1, b2⟩ := gat_boxed (fun x hx => (hM.2 x hx).1) hq
    exact boxed_valid b0 b1 b2
  intro _ _
  refine IFB.no (by simp [hlen]) fun _ => ?_
  refine loopCmp (n := v.length) (by omega) (p := fun _ => True) (fun rec i hi _ hrec => ?_) fun _ => rfl
  have A : (0 : Int) ≤ (i : Int) ∧ (i : Int) < (m.length : Int) := by omega
  have B : (0 : Int) ≤ (i : Int) ∧ (i : Int) < (v.length : Int) := by omega
  have hx := (hM.2 _ (ix_mem (l := v) (i := (i : Int)) B.1 B.2)).2
  have hsk : (ix m (i : Int)).Lines.length = (ix v (i : Int)).Lines.length := hsh i
  refine ⟨A, B, ?_, ?_⟩
  all_goals
    intro _ _
    refine IFB.no (by simp [hsk]) ⟨B, fun _ => ?_⟩
    refine loopCmp (n := (ix v (i : Int)).Lines.length) (by omega) (p := fun _ => True) (fun rec2 k hk _ hrec2 => ?_) fun _ => hrec trivial
    have C : (0 : Int) ≤ (k : Int) ∧ (k : Int) < ((ix v (i : Int)).Lines.length : Int) := by omega
    have D : (0 : Int) ≤ (k : Int) ∧ (k : Int) < ((ix m (i : Int)).Lines.length : Int) := by omega
    have hp : thereP v ⟨(i : Int), (k : Int)⟩ := there_nat.2 ⟨hi, hk⟩
    obtain ⟨b, b0, b1, b2⟩ := gat_boxed (fun x hx => (hM.2 x hx).1) hp
    refine ⟨B, C, fun _ => ?_⟩
    refine LOOP.fuel (fun u => aloK v ⟨(i : Int), (k : Int)⟩ b u.1 u.2.1) (fun u => v.length - Int.toNat u.1) ⟨0, rfl, Nat.zero_le _, b2, fun x y => ⟨fun h => ⟨h, fun q hq => by cases hq⟩, fun h => h.1⟩⟩ ?_
    rintro rec3 ⟨(z3 : Int), (r : List Rc), ⟨⟩⟩ ⟨a, a1, a2, a3⟩ hrec3
    have a1 : z3 = (a : Int) := a1
    have q3 : aloI v ⟨(i : Int), (k : Int)⟩ b (plcN v a) r := a3
    clear a3
    subst a1
    refine IFB.mk (fun hb => ?_) (fun hb => ?_)
    · have hb : (a : Int) < v.length := of_decide_eq_true hb
      have ha : a < v.length := by omega
      have E : (0 : Int) ≤ (a : Int) ∧ (a : Int) < (v.length : Int) := by omega
      have hxa := (hM.2 _ (ix_mem (l := v) (i := (a : Int)) E.1 E.2)).2
      refine ⟨E, fun _ => ?_⟩
      refine LOOP.fuel (fun u => aloL v ⟨(i : Int), (k : Int)⟩ b a u.1 u.2.1) (fun u => (ix v (a : Int)).Lines.length - Int.toNat u.1) ⟨0, rfl, Nat.zero_le _, by show aloI v _ b (plcN v a ++ []) r; rw [List.append_nil]; exact q3⟩ ?_
      rintro rec4 ⟨(z4 : Int), (s : List Rc), ⟨⟩⟩ ⟨c, c1, c2, c3⟩ hrec4
      have c1 : z4 = (c : Int) := c1
      have r3 : aloI v ⟨(i : Int), (k : Int)⟩ b (plcN v a ++ rowP a c) s := c3
      clear c3
      subst c1
      refine IFB.mk (fun hc => JOIN.opq fun (J : List Rc → Prop) hJ => ?_) (fun hc => ?_)
      · have hc : (c : Int) < ((ix v (a : Int)).Lines.length : Int) := of_decide_eq_true hc
        have hcl : c < (ix v (a : Int)).Lines.length := by omega
        have F : (0 : Int) ≤ (c : Int) ∧ (c : Int) < ((ix v (a : Int)).Lines.length : Int) := by omega
        have fin : ∀ y : List Rc, aloI v ⟨(i : Int), (k : Int)⟩ b (plcN v a ++ rowP a (c + 1)) y → J y := fun y hy => by
          rw [hJ]
          show rec4 (IntKind.i64.wrap ((c : Int) + 1)) y
          rw [wrapS (by omega)]
          exact hrec4 (((c + 1 : Nat) : Int), y, ()) ⟨c + 1, rfl, hcl, hy⟩ (by show (ix v (a : Int)).Lines.length - ((c + 1 : Nat) : Int).toNat < (ix v (a : Int)).Lines.length - (c : Int).toNat; omega)
        refine IFB.mk (fun hd => ⟨E, F, trivial, fin _ ?_⟩) (fun hd => fin s ?_)
        · have hne : (⟨(a : Int), (c : Int)⟩ : api_Place) ≠ ⟨(i : Int), (k : Int)⟩ := fun e => by
            injection e with e1 e2
            simp [e1, e2] at hd
          rw [rowP_succ, ← List.append_assoc]
          exact alo_step b0 b1 r3 (hval _ (there_nat.2 ⟨ha, hcl⟩)) hne
        · have he : (⟨(a : Int), (c : Int)⟩ : api_Place) = ⟨(i : Int), (k : Int)⟩ := by
            simp only [Bool.or_eq_false_iff, Bool.not_eq_false', decide_eq_true_iff] at hd
            rw [hd.1, hd.2]
          rw [rowP_succ, ← List.append_assoc, he]
          exact alo_skip r3
      · have hc : ¬ (c : Int) < ((ix v (a : Int)).Lines.length : Int) := of_decide_eq_false hc
        have hcl : c = (ix v (a : Int)).Lines.length := by omega
        show rec3 (IntKind.i64.wrap ((a : Int) + 1)) s
        rw [wrapS (by omega)]
        refine hrec3 (((a + 1 : Nat) : Int), s, ()) ⟨a + 1, rfl, ha, ?_⟩ (by show v.length - ((a + 1 : Nat) : Int).toNat < v.length - (a : Int).toNat; omega)
        show aloI v _ b (plcN v (a + 1)) s
        rw [plcN_succ, ← hcl]; exact r3
    · have hb : ¬ (a : Int) < v.length := of_decide_eq_false hb
      have ha : a = v.length := by omega
      rw [ha] at q3
      have hg := alo_end hS hp q3
      have hg : (ix (ix m (i : Int)).2 (k : Int)).2.1 = r := hg
      refine ⟨A, D, ?_, fun v18 h18 => ?_⟩
      · rw [hg]
        have := boxed_len q3.1
        omega
      · have : v18 = true := h18.2 (congrArg (fun r : List Rc => (⟨r⟩ : api_Region)) hg)
        rw [this]
        exact IFB.no rfl (hrec2 trivial)

end RE
end Go.Proofs.YtblcakaohlgagaaGreat
