/-
  Regions: canonical, Valid, Within.
-/
import Derived.Test.YtpeggkeenboacaaGreatTGD
import Derived.WalkKit
import Derived.WalkSpells
import Derived.WalkLawsBesides
import Derived.BigQuiet
import Derived.Deep.QuietTactic
import Derived.Lib.Hide
import Derived.RegionTactic
set_option maxRecDepth 100000
set_option linter.unusedVariables false
namespace Go.Proofs.YtpeggkeenboacaaGreat
open Go.RowKit
namespace RE
open PL

def bandM (z3 : List region_band) (u v : Int) (ss : List region_Span) (J5 : List region_band → Prop) : Prop := ((↑z3.length : Int) ≤ (9223372036854775807 : Int) → (gx true (decide ((0 : Int) < (↑z3.length : Int))) = true → (0 : Int) ≤ IntKind.i64.wrap ((↑z3.length : Int) - (1 : Int)) ∧ IntKind.i64.wrap ((↑z3.length : Int) - (1 : Int)) < (↑z3.length : Int)) ∧ (gx true (decide ((0 : Int) < (↑z3.length : Int)) && decide ((ix z3 (IntKind.i64.wrap ((↑z3.length : Int) - (1 : Int)))).2 = u)) = true → (0 : Int) ≤ IntKind.i64.wrap ((↑z3.length : Int) - (1 : Int)) ∧ IntKind.i64.wrap ((↑z3.length : Int) - (1 : Int)) < (↑z3.length : Int)) ∧ JOIN [Ty.bool] (fun (y14 : Bool) ↦ IFB (decide ((0 : Int) < (↑z3.length : Int)) && decide ((ix z3 (IntKind.i64.wrap ((↑z3.length : Int) - (1 : Int)))).2 = u) && y14) (((0 : Int) ≤ IntKind.i64.wrap ((↑z3.length : Int) - (1 : Int)) ∧ IntKind.i64.wrap ((↑z3.length : Int) - (1 : Int)) < (↑z3.length : Int)) ∧ J5 (z3.set (IntKind.i64.wrap ((↑z3.length : Int) - (1 : Int))).toNat { low := (ix z3 (IntKind.i64.wrap ((↑z3.length : Int) - (1 : Int)))).1, high := v, spans := (ix z3 (IntKind.i64.wrap ((↑z3.length : Int) - (1 : Int)))).3 : region_band })) ((z3.length + [{ low := u, high := v, spans := ss : region_band }].length) * (40 : Nat) ≤ (140737488355328 : Nat) ∧ J5 (z3 ++ [{ low := u, high := v, spans := ss : region_band }]))) fun (J15 : Bool → Prop) ↦ IFB (gx true (decide ((0 : Int) < (↑z3.length : Int)) && decide ((ix z3 (IntKind.i64.wrap ((↑z3.length : Int) - (1 : Int)))).2 = u))) ((ix z3 (IntKind.i64.wrap ((↑z3.length : Int) - (1 : Int)))).3.length ≤ (1000000000 : Nat) ∧ ∀ (v16 : Bool), (v16 = true ↔ (ix z3 (IntKind.i64.wrap ((↑z3.length : Int) - (1 : Int)))).3 = ss) → J15 v16) (J15 false))
theorem bandM_ok {out : List Bd} {u v : Int} {ss : List Sp} {J : List Bd → Prop} (hN : out.length ≤ 1000000) (hS : ∀ b ∈ out, b.3.length ≤ 1000000000) (hJ : J (addBd out u v ss)) : bandM out u v ss J := by
  unfold bandM
  intro _
  rcases List.eq_nil_or_concat out with rfl | ⟨A, b, rfl⟩
  · have hj : addBd [] u v ss = [⟨u, v, ss⟩] := rfl
    rw [hj] at hJ
    refine ⟨fun h => (by cases h), fun h => (by cases h), JOIN.opq fun (J8 : Bool → Prop) hJ8 => IFB.mk (fun hb => (by cases hb)) (fun _ => ?_)⟩
    rw [hJ8]
    exact IFB.mk (fun hb => (by cases hb)) (fun _ => ⟨by simp, hJ⟩)
  · rw [List.concat_eq_append] at *
    have hAl : (A ++ [b]).length = A.length + 1 := by simp
    have w1 : IntKind.i64.wrap (((A ++ [b]).length : Int) - 1) = A.length := by
      rw [hAl, wrap_in (by omega) (by omega)]
      omega
    have hq : ix (A ++ [b]) (A.length : Int) = b := ix_app rfl
    have hset : ∀ z, (A ++ [b]).set (A.length : Int).toNat z = A ++ [z] := fun z => set_app (by simp)
    rw [w1, hq, hset]
    have hj : addBd (A ++ [b]) u v ss = if b.high = u ∧ b.spans = ss then A ++ [⟨b.low, v, b.spans⟩] else A ++ [b] ++ [⟨u, v, ss⟩] := by
      unfold addBd
      simp
    rw [hj] at hJ
    have hd : decide ((0 : Int) < ((A ++ [b]).length : Int)) = true := decide_eq_true (by omega)
    rw [hd, Bool.true_and]
    have hsz : ((A ++ [b]).length + [({ low := u, high := v, spans := ss } : region_band)].length) * 40 ≤ 140737488355328 := by
      rw [hAl]; simp only [List.length_cons, List.length_nil]; omega
    refine ⟨fun _ => by omega, fun _ => by omega, JOIN.opq fun (J8 : Bool → Prop) hJ8 => IFB.mk (fun hb => ⟨hS b (by simp), fun y hy => ?_⟩) (fun hb => ?_)⟩
    · have hb : b.high = u := of_decide_eq_true hb
      have hb2 : decide (b.high = u) = true := decide_eq_true hb
      rw [hJ8]
      dsimp only
      refine IFB.mk (fun h => ⟨by omega, ?_⟩) (fun h => ⟨hsz, ?_⟩)
      · rw [Bool.and_eq_true] at h
        rw [if_pos ⟨hb, hy.1 h.2⟩] at hJ
        exact hJ
      · rw [if_neg (fun hh => by rw [hy.2 hh.2] at h; rw [show b.2 = u from hb] at h; simp at h)] at hJ
        exact hJ
    · have hb : ¬ b.high = u := of_decide_eq_false hb
      rw [hJ8]
      dsimp only
      refine IFB.mk (fun h => ?_) (fun h => ⟨hsz, ?_⟩)
      · rw [Bool.and_eq_true] at h
        cases h.2
      · rw [if_neg (fun hh => hb hh.1)] at hJ
        exact hJ
theorem addBd_len1 {out : List Bd} {u v : Int} {ss : List Sp} : (addBd out u v ss).length ≤ out.length + 1 := by
  rcases List.eq_nil_or_concat out with rfl | ⟨A, b, rfl⟩
  · simp [addBd]
  · unfold addBd
    simp
    split <;> simp
theorem addBd_sp {out : List Bd} {u v : Int} {ss : List Sp} {N : Nat} (h : ∀ b ∈ out, b.3.length ≤ N) (hs : ss.length ≤ N) : ∀ b ∈ addBd out u v ss, b.3.length ≤ N := by
  rcases List.eq_nil_or_concat out with rfl | ⟨A, c, rfl⟩
  · intro b hb
    simp [addBd] at hb
    subst hb; exact hs
  · rw [List.concat_eq_append] at *
    have hj : addBd (A ++ [c]) u v ss = if c.high = u ∧ c.spans = ss then A ++ [⟨c.low, v, c.spans⟩] else A ++ [c] ++ [⟨u, v, ss⟩] := by
      unfold addBd
      simp
    rw [hj]
    intro b hb
    split at hb
    · rcases List.mem_append.1 hb with hb | hb
      · exact h b (by simp [hb])
      · rw [List.mem_singleton] at hb
        subst hb
        exact h c (by simp)
    · rcases List.mem_append.1 hb with hb | hb
      · exact h b hb
      · rw [List.mem_singleton] at hb
        subst hb
        exact hs
theorem build_loop {xs : List Int} {R : Int → List Sp} (hR : ∀ y, (R y).length ≤ 100000) (hx : xs.length ≤ 100000) {B : (Int → List region_band → Prop) → Int → List region_band → Prop} {K : List region_band → Prop}
    (hB : ∀ (rec : Int → List Bd → Prop) (k : Nat) (acc : List Bd), k + 1 < xs.length → acc.length ≤ k → (∀ b ∈ acc, b.3.length ≤ 100000) → rec ((k + 2 : Nat) : Int) (addBd acc (ix xs (k : Int)) (ix xs ((k + 1 : Nat) : Int)) (R (ix xs (k : Int)))) → B rec ((k + 1 : Nat) : Int) acc)
    (hK : (buildG R [] xs).length ≤ 100000 → K (buildG R [] xs)) :
    LOOP [Ty.int IntKind.i64, (Ty.st Sn.region_band).sl] (fun (rec1 : Int → List region_band → Prop) (z2 : Int) (z3 : List region_band) => (xs.length : Int) ≤ (9223372036854775807 : Int) → IFB (decide (z2 < (xs.length : Int))) (B rec1 z2 z3) (K z3)) ((1 : Int), [], PUnit.unit) := by
  refine LOOP.fuel (fun u => ∃ (k : Nat) (acc : List Bd), u.1 = ((k + 1 : Nat) : Int) ∧ u.2.1 = acc ∧ k ≤ xs.length ∧ buildG R acc (xs.drop k) = buildG R [] xs ∧ acc.length ≤ k ∧ ∀ b ∈ acc, b.3.length ≤ 100000) (fun u => xs.length + 1 - Int.toNat u.1) ⟨0, [], rfl, rfl, Nat.zero_le _, rfl, Nat.le_refl _, fun b hb => by cases hb⟩ ?_
  rintro rec ⟨(z2 : Int), (z3 : List region_band), ⟨⟩⟩ ⟨k, acc, h1, h2, h3, h4, h5, h6⟩ hrec
  have h1 : z2 = ((k + 1 : Nat) : Int) := h1
  have h2 : z3 = acc := h2
  subst h1 h2
  have h5 : z3.length ≤ k := h5
  intro _
  refine IFB.mk (fun hb => ?_) (fun hb => ?_)
  · have hb : ((k + 1 : Nat) : Int) < xs.length := of_decide_eq_true hb
    have hb : k + 1 < xs.length := by omega
    refine hB rec k z3 hb h5 h6 ?_
    obtain ⟨d1, d2⟩ := drop_two hb
    refine hrec (((k + 2 : Nat) : Int), _, ()) ⟨k + 1, _, rfl, rfl, by omega, ?_, Nat.le_trans addBd_len1 (by show z3.length + 1 ≤ k + 1; omega), addBd_sp h6 (hR _)⟩ (by show xs.length + 1 - ((k + 2 : Nat) : Int).toNat < xs.length + 1 - ((k + 1 : Nat) : Int).toNat; omega)
    rw [← h4, d1, d2]
    rfl
  · have hb : ¬ ((k + 1 : Nat) : Int) < xs.length := of_decide_eq_false hb
    rw [short_drop (by omega)] at h4
    rw [← h4] at hK
    exact hK (by omega)
theorem rowS_len {l : List Rc} {y : Int} : (rowS l y).length ≤ 2 * l.length := by
  unfold rowS spansOf
  have h1 := spansG_len (p := fun x => cov l x y) (xs := edgesS l) (out := [])
  have h2 := fold_len (f := fun r => r.Left) (g := fun r => r.Right) (l := l) (a := [])
  have h3 : (edgesS l).length ≤ ([] : List Int).length + 2 * l.length := h2
  simp only [List.length_nil] at h1 h3
  omega
theorem cutsS_len {l : List Rc} : (cutsS l).length ≤ 2 * l.length := by
  have h3 : (cutsS l).length ≤ ([] : List Int).length + 2 * l.length := fold_len (f := fun r => r.Low) (g := fun r => r.High) (l := l) (a := [])
  simpa using h3
theorem can_build (l : List Rc) : canonF (cov l) = flat (buildG (rowS l) [] (cutsS l)) := by
  have h := comb_build (howS_0 1) (a := l) (b := []) (R := rowS l) fun u hu => by
    have h := comb_row (howS_0 1) (a := l) (b := []) (y := u)
    rw [comb_or_nil, List.append_nil] at h
    rw [comb_or_nil]
    exact h
  rw [comb_or_nil, List.append_nil] at h
  exact h.2.2
def pcan_P (l : List (api_Rect)) (post : List (api_Rect) → Prop) : Prop := ((∀ r ∈ l, proper r) ∧ l.length ≤ 10000) ∧ post (canonF (cov l))
def pcan_sp : Spec := ⟨179, false, true, [.sl (.st .api_Rect)], .dat (.sl (.st .api_Rect)), fun x post => pcan_P (x.1 : List (api_Rect)) (fun y0 => post (y0, ()))⟩
def pcan_C : CtxR := ⟨tau, [rule1 pcuts_sp, rule1 prow_sp, rule1 peqs_sp, rule1 prects_sp], lookJ [(1026, 7, ⟨[(6, .dat (.int .i64)), (5, .own 229 (.st .region_band))], [], [9, 10, 11, 12, 64, 63, 62, 61, 60, 59, 58, 56, 55, 54, 53, 52, 51, 50, 49, 48, 45, 44, 43, 42, 41, 40, 39, 38, 37, 57, 47, 46, 36, 35, 34, 8, 33, 32, 7, 31, 30, 29, 28, 27, 26, 25, 24, 23, 22, 21, 20, 19, 18, 17, 16, 15, 68, 67, 66, 65, 13, 14], [], []⟩), (1026, 8, ⟨[(5, .own 229 (.st .region_band))], [], [65, 66, 67, 68, 15, 16, 17, 18, 19, 20, 21, 22, 23, 24, 25, 26, 27, 28, 29, 30, 31, 7, 32, 33, 8, 34, 35, 36, 46, 47, 57, 37, 38, 39, 40, 41, 42, 43, 44, 45, 48, 49, 50, 51, 52, 53, 54, 55, 56, 58, 59, 60, 61, 62, 63, 64], [2], []⟩)]⟩
def pcan_W (l : List (api_Rect)) (post : List (api_Rect) → Prop) : Prop := ((l.append []).length ≤ (10000 : Nat) ∧ [l].length ≤ (10 : Nat)) ∧ LOOP [Ty.int IntKind.i64, (Ty.st Sn.region_band).sl] (fun (rec1 : Int → List region_band → Prop) (z2 : Int) (z3 : List region_band) ↦ (↑(cutsS (l.append [])).length : Int) ≤ (9223372036854775807 : Int) → IFB (decide (z2 < (↑(cutsS (l.append [])).length : Int))) (JOIN [(Ty.st Sn.region_band).sl] (fun (y4 : List region_band) ↦ rec1 (IntKind.i64.wrap (z2 + (1 : Int))) y4) fun (J5 : List region_band → Prop) ↦ ((0 : Int) ≤ IntKind.i64.wrap (z2 - (1 : Int)) ∧ IntKind.i64.wrap (z2 - (1 : Int)) < (↑(cutsS (l.append [])).length : Int)) ∧ ((0 : Int) ≤ z2 ∧ z2 < (↑(cutsS (l.append [])).length : Int)) ∧ ((0 : Int) ≤ IntKind.i64.wrap (z2 - (1 : Int)) ∧ IntKind.i64.wrap (z2 - (1 : Int)) < (↑(cutsS (l.append [])).length : Int)) ∧ (((∀ (v6 : api_Rect), v6 ∈ l → v6.1 < v6.3) ∧ l.length ≤ (10000 : Nat)) ∧ ((↑z3.length : Int) ≤ (9223372036854775807 : Int) → (gx true (decide ((0 : Int) < (↑z3.length : Int))) = true → (0 : Int) ≤ IntKind.i64.wrap ((↑z3.length : Int) - (1 : Int)) ∧ IntKind.i64.wrap ((↑z3.length : Int) - (1 : Int)) < (↑z3.length : Int)) ∧ (gx true (decide ((0 : Int) < (↑z3.length : Int)) && decide ((ix z3 (IntKind.i64.wrap ((↑z3.length : Int) - (1 : Int)))).2 = ix (cutsS (l.append [])) (IntKind.i64.wrap (z2 - (1 : Int))))) = true → (0 : Int) ≤ IntKind.i64.wrap ((↑z3.length : Int) - (1 : Int)) ∧ IntKind.i64.wrap ((↑z3.length : Int) - (1 : Int)) < (↑z3.length : Int)) ∧ JOIN [Ty.bool] (fun (y7 : Bool) ↦ IFB (decide ((0 : Int) < (↑z3.length : Int)) && decide ((ix z3 (IntKind.i64.wrap ((↑z3.length : Int) - (1 : Int)))).2 = ix (cutsS (l.append [])) (IntKind.i64.wrap (z2 - (1 : Int)))) && y7) (((0 : Int) ≤ IntKind.i64.wrap ((↑z3.length : Int) - (1 : Int)) ∧ IntKind.i64.wrap ((↑z3.length : Int) - (1 : Int)) < (↑z3.length : Int)) ∧ J5 (z3.set (IntKind.i64.wrap ((↑z3.length : Int) - (1 : Int))).toNat { low := (ix z3 (IntKind.i64.wrap ((↑z3.length : Int) - (1 : Int)))).1, high := ix (cutsS (l.append [])) z2, spans := (ix z3 (IntKind.i64.wrap ((↑z3.length : Int) - (1 : Int)))).3 : region_band })) ((z3.length + [{ low := ix (cutsS (l.append [])) (IntKind.i64.wrap (z2 - (1 : Int))), high := ix (cutsS (l.append [])) z2, spans := rowS l (ix (cutsS (l.append [])) (IntKind.i64.wrap (z2 - (1 : Int)))) : region_band }].length) * (40 : Nat) ≤ (140737488355328 : Nat) ∧ J5 (z3 ++ [{ low := ix (cutsS (l.append [])) (IntKind.i64.wrap (z2 - (1 : Int))), high := ix (cutsS (l.append [])) z2, spans := rowS l (ix (cutsS (l.append [])) (IntKind.i64.wrap (z2 - (1 : Int)))) : region_band }]))) fun (J8 : Bool → Prop) ↦ IFB (gx true (decide ((0 : Int) < (↑z3.length : Int)) && decide ((ix z3 (IntKind.i64.wrap ((↑z3.length : Int) - (1 : Int)))).2 = ix (cutsS (l.append [])) (IntKind.i64.wrap (z2 - (1 : Int)))))) ((ix z3 (IntKind.i64.wrap ((↑z3.length : Int) - (1 : Int)))).3.length ≤ (1000000000 : Nat) ∧ ∀ (v9 : Bool), (v9 = true ↔ (ix z3 (IntKind.i64.wrap ((↑z3.length : Int) - (1 : Int)))).3 = rowS l (ix (cutsS (l.append [])) (IntKind.i64.wrap (z2 - (1 : Int))))) → J8 v9) (J8 false)) ∧ ((↑z3.length : Int) ≤ (9223372036854775807 : Int) → (gx true (decide ((0 : Int) < (↑z3.length : Int))) = true → (0 : Int) ≤ IntKind.i64.wrap ((↑z3.length : Int) - (1 : Int)) ∧ IntKind.i64.wrap ((↑z3.length : Int) - (1 : Int)) < (↑z3.length : Int)) ∧ (gx true (decide ((0 : Int) < (↑z3.length : Int)) && decide ((ix z3 (IntKind.i64.wrap ((↑z3.length : Int) - (1 : Int)))).2 = ix (cutsS (l.append [])) (IntKind.i64.wrap (z2 - (1 : Int))))) = true → (0 : Int) ≤ IntKind.i64.wrap ((↑z3.length : Int) - (1 : Int)) ∧ IntKind.i64.wrap ((↑z3.length : Int) - (1 : Int)) < (↑z3.length : Int)) ∧ JOIN [Ty.bool] (fun (y10 : Bool) ↦ IFB (decide ((0 : Int) < (↑z3.length : Int)) && decide ((ix z3 (IntKind.i64.wrap ((↑z3.length : Int) - (1 : Int)))).2 = ix (cutsS (l.append [])) (IntKind.i64.wrap (z2 - (1 : Int)))) && y10) (((0 : Int) ≤ IntKind.i64.wrap ((↑z3.length : Int) - (1 : Int)) ∧ IntKind.i64.wrap ((↑z3.length : Int) - (1 : Int)) < (↑z3.length : Int)) ∧ J5 (z3.set (IntKind.i64.wrap ((↑z3.length : Int) - (1 : Int))).toNat { low := (ix z3 (IntKind.i64.wrap ((↑z3.length : Int) - (1 : Int)))).1, high := ix (cutsS (l.append [])) z2, spans := (ix z3 (IntKind.i64.wrap ((↑z3.length : Int) - (1 : Int)))).3 : region_band })) ((z3.length + [{ low := ix (cutsS (l.append [])) (IntKind.i64.wrap (z2 - (1 : Int))), high := ix (cutsS (l.append [])) z2, spans := rowS l (ix (cutsS (l.append [])) (IntKind.i64.wrap (z2 - (1 : Int)))) : region_band }].length) * (40 : Nat) ≤ (140737488355328 : Nat) ∧ J5 (z3 ++ [{ low := ix (cutsS (l.append [])) (IntKind.i64.wrap (z2 - (1 : Int))), high := ix (cutsS (l.append [])) z2, spans := rowS l (ix (cutsS (l.append [])) (IntKind.i64.wrap (z2 - (1 : Int)))) : region_band }]))) fun (J11 : Bool → Prop) ↦ IFB (gx true (decide ((0 : Int) < (↑z3.length : Int)) && decide ((ix z3 (IntKind.i64.wrap ((↑z3.length : Int) - (1 : Int)))).2 = ix (cutsS (l.append [])) (IntKind.i64.wrap (z2 - (1 : Int)))))) ((ix z3 (IntKind.i64.wrap ((↑z3.length : Int) - (1 : Int)))).3.length ≤ (1000000000 : Nat) ∧ ∀ (v12 : Bool), (v12 = true ↔ (ix z3 (IntKind.i64.wrap ((↑z3.length : Int) - (1 : Int)))).3 = rowS l (ix (cutsS (l.append [])) (IntKind.i64.wrap (z2 - (1 : Int))))) → J11 v12) (J11 false))) ∧ ((∀ (v13 : api_Rect), v13 ∈ l → v13.1 < v13.3) ∧ l.length ≤ (10000 : Nat)) ∧ ((↑z3.length : Int) ≤ (9223372036854775807 : Int) → (gx true (decide ((0 : Int) < (↑z3.length : Int))) = true → (0 : Int) ≤ IntKind.i64.wrap ((↑z3.length : Int) - (1 : Int)) ∧ IntKind.i64.wrap ((↑z3.length : Int) - (1 : Int)) < (↑z3.length : Int)) ∧ (gx true (decide ((0 : Int) < (↑z3.length : Int)) && decide ((ix z3 (IntKind.i64.wrap ((↑z3.length : Int) - (1 : Int)))).2 = ix (cutsS (l.append [])) (IntKind.i64.wrap (z2 - (1 : Int))))) = true → (0 : Int) ≤ IntKind.i64.wrap ((↑z3.length : Int) - (1 : Int)) ∧ IntKind.i64.wrap ((↑z3.length : Int) - (1 : Int)) < (↑z3.length : Int)) ∧ JOIN [Ty.bool] (fun (y14 : Bool) ↦ IFB (decide ((0 : Int) < (↑z3.length : Int)) && decide ((ix z3 (IntKind.i64.wrap ((↑z3.length : Int) - (1 : Int)))).2 = ix (cutsS (l.append [])) (IntKind.i64.wrap (z2 - (1 : Int)))) && y14) (((0 : Int) ≤ IntKind.i64.wrap ((↑z3.length : Int) - (1 : Int)) ∧ IntKind.i64.wrap ((↑z3.length : Int) - (1 : Int)) < (↑z3.length : Int)) ∧ J5 (z3.set (IntKind.i64.wrap ((↑z3.length : Int) - (1 : Int))).toNat { low := (ix z3 (IntKind.i64.wrap ((↑z3.length : Int) - (1 : Int)))).1, high := ix (cutsS (l.append [])) z2, spans := (ix z3 (IntKind.i64.wrap ((↑z3.length : Int) - (1 : Int)))).3 : region_band })) ((z3.length + [{ low := ix (cutsS (l.append [])) (IntKind.i64.wrap (z2 - (1 : Int))), high := ix (cutsS (l.append [])) z2, spans := rowS l (ix (cutsS (l.append [])) (IntKind.i64.wrap (z2 - (1 : Int)))) : region_band }].length) * (40 : Nat) ≤ (140737488355328 : Nat) ∧ J5 (z3 ++ [{ low := ix (cutsS (l.append [])) (IntKind.i64.wrap (z2 - (1 : Int))), high := ix (cutsS (l.append [])) z2, spans := rowS l (ix (cutsS (l.append [])) (IntKind.i64.wrap (z2 - (1 : Int)))) : region_band }]))) fun (J15 : Bool → Prop) ↦ IFB (gx true (decide ((0 : Int) < (↑z3.length : Int)) && decide ((ix z3 (IntKind.i64.wrap ((↑z3.length : Int) - (1 : Int)))).2 = ix (cutsS (l.append [])) (IntKind.i64.wrap (z2 - (1 : Int)))))) ((ix z3 (IntKind.i64.wrap ((↑z3.length : Int) - (1 : Int)))).3.length ≤ (1000000000 : Nat) ∧ ∀ (v16 : Bool), (v16 = true ↔ (ix z3 (IntKind.i64.wrap ((↑z3.length : Int) - (1 : Int)))).3 = rowS l (ix (cutsS (l.append [])) (IntKind.i64.wrap (z2 - (1 : Int))))) → J15 v16) (J15 false))) (((flat z3).length ≤ (1000000000 : Nat) ∧ z3.length ≤ (1000000000 : Nat)) ∧ post (flat z3))) ((1 : Int), [], PUnit.unit)
theorem pcan_w (l : List (api_Rect)) (post : dens (shT pcan_sp.rs []) → Prop) : pcan_W l (fun y0 => post (y0, ())) = walkG (callR Tryz.prog pcan_C (drawR Tryz.prog tau) 10 0) 179 false [tv (.sl (.st .api_Rect)) l] pcan_sp.rs post := by kernel_rfl
theorem pcan_of (h : ∀ (l : List (api_Rect)) (post : List (api_Rect) → Prop), pcan_P l post → pcan_W l post) : SpecOK Tryz.prog pcan_sp := SpecOK.of_rules (C := pcan_C) (dr := drawR Tryz.prog tau) (n := 10) (fk := 0) (.cons (rule1_ok pcuts_ok) (.cons (rule1_ok prow_ok) (.cons (rule1_ok peqs_ok) (.cons (rule1_ok prects_ok) .nil)))) (drawR_ok tau) fun x post hp => HoldW.of (pcan_w x.1 post) (h x.1 (fun y0 => post (y0, ())) hp)
theorem pcan_ok : SpecOK Tryz.prog pcan_sp := pcan_of fun l post hp => by
  obtain ⟨⟨h1, h2⟩, hp⟩ := hp
  have hcl := cov_len h1
  rw [can_build] at hp hcl
  unfold pcan_W
  have e : l.append [] = l := List.append_nil l
  rw [e]
  have hc := cutsS_len (l := l)
  have hlr : ∀ r ∈ l, r.1 < r.3 := fun r hr => (h1 r hr).2.1
  refine ⟨⟨h2, by simp⟩, ?_⟩
  refine build_loop (xs := cutsS l) (R := rowS l) (fun y => by have := rowS_len (l := l) (y := y); omega) (by omega) (fun rec k acc hk hal has hrec => ?_) (fun hlen => ⟨⟨by omega, by omega⟩, hp⟩)
  refine JOIN.opq fun (J : List Bd → Prop) hJ => ?_
  have w1 : IntKind.i64.wrap (((k + 1 : Nat) : Int) - 1) = k := by rw [wrap_in (by omega) (by omega)]; omega
  rw [w1]
  have hJ : J (addBd acc (ix (cutsS l) (k : Int)) (ix (cutsS l) ((k + 1 : Nat) : Int)) (rowS l (ix (cutsS l) (k : Int)))) := by
    rw [hJ]
    show rec (IntKind.i64.wrap (((k + 1 : Nat) : Int) + 1)) _
    rw [wrapS (by omega)]
    exact hrec
  have main := bandM_ok (by omega) (fun b hb => Nat.le_trans (has b hb) (by omega)) hJ
  have hD : (∀ v6 : api_Rect, v6 ∈ l → v6.1 < v6.3) ∧ l.length ≤ 10000 := ⟨hlr, h2⟩
  exact ⟨by omega, by omega, by omega, ⟨hD, main, main⟩, hD, main⟩

end RE
end Go.Proofs.YtpeggkeenboacaaGreat
namespace Go.Proofs.YtpeggkeenboacaaGreat
open Go.RowKit
set_option linter.unusedVariables false
namespace RE
variable {P : Program}
def clo (g : FuncId) : Value := .func (.func g) #[] #[]
def SpecCOK (P : Program) (s : Spec) (cl : List Value) : Prop := ∀ x post, s.pt x post → ∀ w (S : Cells) (T : Option Nat) (us : List Value), (∀ b o, S b o → b < w.heap.size) → TapeC s.tp w S T → us.length = s.ts.length →
  (∀ (i : Nat) (d : D) (u : Value), (tvs s.ts x)[i]? = some d → us[i]? = some u → Rd S w d u) →
  Calls P s.f (tpArg T us ++ cl).toArray w fun e w' => ∃ v y c', e = .returned v ∧ post y ∧ OXM (MS.add ⟨[], 0, s.tp⟩ (instS s.rs [] y 0).2.1) w' c' ∧ TrM ⟨[], 0, s.tp⟩ w (cx0 S T) (MS.add ⟨[], 0, s.tp⟩ (instS s.rs [] y 0).2.1) w' c' ∧ SRel c' w' (instS s.rs [] y 0).1 v
theorem byConC_ok {cl : List Value} {s : Spec} (hs : SpecCOK P s cl) {ss : List SV} {m : MS} {k : SV → MS → Prop} (h : byCon s ss m k) {us : List Value} {w : World} {c : Cx} (hox : OXM m w c) (hl : us.length = ss.length) (hr : ∀ (i : Nat) (x : SV) (u : Value), ss[i]? = some x → us[i]? = some u → SRel c w x u ∧ x.inU m.U) :
    Calls P s.f (us ++ cl).toArray w fun e w' => ∃ v r m' c', e = .returned v ∧ k r m' ∧ FrM m m' ∧ OXM m' w' c' ∧ TrM m w c m' w' c' ∧ SRel c' w' r v ∧ r.inU m'.U := by
  unfold byCon at h
  split at h
  · exact h.elim
  · rename_i ss' hta
    -- the tape, and the others
    have harg : ∃ (us' : List Value) (T0 : Option Nat), us = tpArg T0 us' ∧ us'.length = ss'.length ∧ (∀ (i : Nat) (x : SV) (u : Value), ss'[i]? = some x → us'[i]? = some u → SRel c w x u ∧ x.inU m.U) ∧ ((s.tp = true ∧ T0 = c.T ∧ m.tp = true ∧ ∃ t, c.T = some t) ∨ (s.tp = false ∧ T0 = none)) := by
      cases htp : s.tp with
      | false =>
        rw [htp] at hta
        injection hta with hta
        subst hta
        exact ⟨us, none, rfl, hl, hr, .inr ⟨rfl, rfl⟩⟩
      | true =>
        rw [htp] at hta
        unfold tapeArg at hta
        split at hta
        · split at hta
          · rename_i r
            cases hm : m.tp with
            | false => rw [hm] at hta; cases hta
            | true =>
              rw [hm] at hta
              injection hta with hta
              subst hta
              match us, hl, hr with
              | u :: us', hl, hr =>
                obtain ⟨T, hT, rfl⟩ := srel_tp (hr 0 .tp u rfl rfl).1
                exact ⟨us', some T, rfl, by simpa using hl, fun i x u hx hu => hr (i + 1) x u hx hu, .inl ⟨rfl, hT.symm, rfl, T, hT⟩⟩
          · cases hta
        · rename_i he; cases he
    obtain ⟨us', T0, rfl, hl', hr', hT⟩ := harg
    have hTC : ∀ S : Cells, (∀ b o, c.S b o → S b o) → (s.tp = true → S = c.S) → TapeC s.tp w S T0 := fun S hS hSe => by
      rcases hT with ⟨e1, e2, e3, t, e4⟩ | ⟨e1, e2⟩
      · rw [e1]
        obtain ⟨T, h1, h2⟩ := hox.tpe e3
        refine ⟨T, e2.trans h1, ?_, ?_⟩
        · rw [hSe e1]; exact h2
        · rw [hSe e1]; exact (hox.nT T h1).2
      · rw [e1]; exact e2
    cases hal : s.al with
    | true =>
      rw [hal] at h
      simp only [cond_true] at h
      split at h
      · rename_i ds ids hd
        split at h
        · rename_i x hx
          cases hp : shPure s.rs with
          | false => rw [hp] at h; exact h.elim
          | true =>
            rw [hp] at h
            simp only [cond_true] at h
            obtain ⟨c1, ox1, t1, hH1, hT1⟩ := hox.freezes ids
            have ob1 : MS.obs ⟨fzU m.obs ids ++ m.ob, m.nx, m.tp⟩ = ovr m.obs (fzU m.obs ids) := lookO_app _ _
            have ox1' : OXM ⟨fzU m.obs ids ++ m.ob, m.nx, m.tp⟩ w c1 := by show OX (MS.obs _) _ _ _ _; rw [ob1]; exact ox1
            have t1' : TrM m w c ⟨fzU m.obs ids ++ m.ob, m.nx, m.tp⟩ w c1 := by show Tr _ _ _ _ (MS.obs ⟨_, _, _⟩) _ _ _; rw [ob1]; exact t1
            obtain ⟨d1, d2⟩ := dataL_rel (m := m.mem) hox ox1 t1 hH1 ss' hd (fun _ h => h)
            obtain ⟨x1, x2⟩ := undoL_rd hx
            have hTC' : TapeC s.tp w c1.S T0 := by
              rcases hT with ⟨e1, e2, e3, t, e4⟩ | ⟨e1, e2⟩
              · rw [e1]
                obtain ⟨T, h1, h2⟩ := ox1'.tpe e3
                exact ⟨T, e2.trans (by rw [← hT1]; exact h1), h2, (ox1'.nT T h1).2⟩
              · rw [e1]; exact e2
            refine (hs x _ h w c1.S T0 us' ox1.sb hTC' (by omega) (fun i d u hdi hu => ?_)).mono ?_
            · have hi : i < ds.length := by have := (List.getElem?_eq_some_iff.1 hdi).1; rw [tvs_len] at this; omega
              have his : i < ss'.length := by omega
              exact x2 i d ds[i] hdi (List.getElem?_eq_getElem hi) (d2 i ss'[i] ds[i] (List.getElem?_eq_getElem his) (List.getElem?_eq_getElem hi) (hr' i _ u (List.getElem?_eq_getElem his) hu).1)
            · rintro e w' ⟨v, y, c', rfl, hy, oxr, tr, hsr⟩
              have hTT : (s.tp = true ∧ true = true ∧ T0 = c1.T) ∨ T0 = none := by
                rcases hT with ⟨e1, e2, _⟩ | ⟨_, e2⟩
                · exact .inl ⟨e1, rfl, by rw [hT1]; exact e2⟩
                · exact .inr e2
              obtain ⟨c2, b1, b2, b3, b4⟩ := call_back (al := true) ox1' hTT (fun _ _ _ h => h) (.inl rfl) oxr tr (fun e => by
                rcases hT with ⟨_, e2, _⟩ | ⟨e2, _⟩
                · rw [hT1]; exact e2
                · rw [e] at e2; cases e2)
              have hsh := instS_shift (c := c') (c2 := c2) (w := w') (n := m.nx) (al := true) (fun _ => b4 rfl) b3 s.rs [] y 0 hp rfl hsr
              refine ⟨v, _, _, c2, rfl, hy, ⟨⟨_, by show rowsOb _ _ ++ (fzU m.obs ids ++ m.ob) = _; rw [← List.append_assoc]⟩, id⟩, b1, t1'.trans b2, by rw [Nat.add_zero] at hsh; exact hsh, ?_⟩
              refine SV.inU_mono (fun i hi => ?_) _ (instS_inU (n := 0) s.rs [] y m.nx hp)
              show i < m.nx + _
              rw [instS_rows s.rs [] y m.nx 0] at hi
              exact hi.2
        · exact h.elim
      · exact h.elim
    | false =>
      rw [hal] at h
      simp only [cond_false] at h
      split at h
      · rename_i ds hd
        split at h
        · rename_i x hx
          cases hp : (shPure s.rs && shFlat s.rs && !s.tp) with
          | false => rw [hp] at h; exact h.elim
          | true =>
            rw [hp] at h
            simp only [cond_true] at h
            simp only [Bool.and_eq_true, Bool.not_eq_true'] at hp
            obtain ⟨⟨p1, p2⟩, p3⟩ := hp
            have hT0 : T0 = none := by
              rcases hT with ⟨e1, _⟩ | ⟨_, e2⟩
              · rw [p3] at e1; cases e1
              · exact e2
            obtain ⟨d1, d2⟩ := viewL_rel (m := m.mem) hox ss' hd
            obtain ⟨x1, x2⟩ := undoL_rd hx
            refine (hs x _ h w (lentS m.obs c) T0 us' (fun b o hb => ?_) (by rw [p3]; exact hT0) (by omega) (fun i d u hdi hu => ?_)).mono ?_
            · rcases hb with hb | ⟨id, y, hy, ho, hb⟩
              · exact hox.sb b o hb
              · exact (hox.fb id y hy ho b hb).1
            · have hi : i < ds.length := by have := (List.getElem?_eq_some_iff.1 hdi).1; rw [tvs_len] at this; omega
              have his : i < ss'.length := by omega
              exact x2 i d ds[i] hdi (List.getElem?_eq_getElem hi) (d2 i ss'[i] ds[i] (List.getElem?_eq_getElem his) (List.getElem?_eq_getElem hi) (hr' i _ u (List.getElem?_eq_getElem his) hu).1)
            · rintro e w' ⟨v, y, c', rfl, hy, oxr, tr, hsr⟩
              obtain ⟨c2, b1, b2, b3, b4⟩ := call_back (al := false) hox (.inr hT0) (fun e => by cases e) (.inr (instS_flat s.rs [] y 0 p2)) oxr tr (fun e => by rw [p3] at e; cases e)
              have hsh := instS_shift (c := c') (c2 := c2) (w := w') (n := m.nx) (al := false) (fun e => by cases e) b3 s.rs [] y 0 p1 (by simpa using p2) hsr
              refine ⟨v, _, _, c2, rfl, hy, ⟨⟨_, rfl⟩, id⟩, b1, b2, by rw [Nat.add_zero] at hsh; exact hsh, ?_⟩
              refine SV.inU_mono (fun i hi => ?_) _ (instS_inU (n := 0) s.rs [] y m.nx p1)
              show i < m.nx + _
              rw [instS_rows s.rs [] y m.nx 0] at hi
              exact hi.2
        · exact h.elim
      · exact h.elim
def dropCl (g : FuncId) : List SV → Option (List SV)
  | [] => none
  | [x] => bif isCl g x then some [] else none
  | x :: r => (dropCl g r).map (x :: ·)
theorem dropCl_ok {g : FuncId} : ∀ {ss ss' : List SV}, dropCl g ss = some ss' → ∃ x, ss = ss' ++ [x] ∧ isCl g x = true
  | [], ss', h => by cases h
  | [x], ss', h => by
    unfold dropCl at h
    cases hb : isCl g x with
    | false => rw [hb] at h; cases h
    | true =>
      rw [hb] at h
      injection h with h
      subst h
      exact ⟨x, rfl, hb⟩
  | x :: y :: r, ss', h => by
    unfold dropCl at h
    rw [Option.map_eq_some_iff] at h
    obtain ⟨t, h1, rfl⟩ := h
    obtain ⟨z, h2, h3⟩ := dropCl_ok h1
    exact ⟨z, by rw [h2]; rfl, h3⟩
def byConC (s : Spec) (g : FuncId) (ss : List SV) (m : MS) (k : SV → MS → Prop) : Prop := match dropCl g ss with
  | some ss' => byCon s ss' m k
  | none => False
def ruleC (s : Spec) (g : FuncId) : Rule := ⟨s.f, byConC s g⟩
theorem ruleC_ok {s : Spec} {g : FuncId} (h : SpecCOK P s [clo g]) : RuleOK P (ruleC s g) := fun ss m k hk us w c hox hl hr => by
  have hk2 : byConC s g ss m k := hk
  clear hk
  unfold byConC at hk2
  split at hk2
  · rename_i ss' hd
    obtain ⟨x, rfl, hx⟩ := dropCl_ok hd
    rcases List.eq_nil_or_concat us with rfl | ⟨us', u, rfl⟩
    · simp at hl
    · rw [List.concat_eq_append] at *
      have hl' : us'.length = ss'.length := by simpa using hl
      have hu : u = clo g := isCl_rel hx (hr ss'.length x u (by simp) (by rw [← hl']; simp)).1
      subst hu
      refine byConC_ok h hk2 hox hl' fun i y v hy hv => hr i y v ?_ ?_
      · rw [List.getElem?_append_left (List.getElem?_eq_some_iff.1 hy).1]; exact hy
      · rw [List.getElem?_append_left (List.getElem?_eq_some_iff.1 hv).1]; exact hv
  · exact hk2.elim
theorem SpecCOK.of_rules {C : CtxR} {dr : DR} (hR : RulesOK P C.rs) (hdr : DrOK P dr) {n fk : Nat} {s : Spec} {g : FuncId} (h : ∀ x post, s.pt x post → HoldW (walkG (callR P C dr n fk) s.f s.tp (tvs s.ts x ++ [.v (clo g)]) s.rs post)) : SpecCOK P s [clo g] := by
  intro x post hp w S T us h1 h2 h3 h4
  have e : tpArg T us ++ [clo g] = tpArg T (us ++ [clo g]) := by
    unfold tpArg
    split <;> simp
  rw [e]
  refine walkG_ok (callR_ok hR hdr n fk) (h x post hp).h h1 h2 (by simp [h3, tvs_len]) fun i d u hd hu => ?_
  by_cases hi : i < us.length
  · rw [List.getElem?_append_left hi] at hu
    rw [List.getElem?_append_left (by rw [tvs_len]; omega)] at hd
    exact h4 i d u hd hu
  · have hi' : (tvs s.ts x).length ≤ i := by rw [tvs_len]; omega
    rw [List.getElem?_append_right hi'] at hd
    rw [List.getElem?_append_right (by omega)] at hu
    have e2 : i - (tvs s.ts x).length = i - us.length := by rw [tvs_len, h3]
    rw [e2] at hd
    match hq : i - us.length, hd, hu with
    | 0, hd, hu =>
      simp at hd hu
      subst hd hu
      exact .v _
    | k + 1, hd, hu => simp at hd
end RE
end Go.Proofs.YtpeggkeenboacaaGreat
set_option maxRecDepth 100000
set_option linter.unusedVariables false
namespace Go.Proofs.YtpeggkeenboacaaGreat
open Go.RowKit
namespace RE
open PL
def pval_P (a : api_Region) (post : Bool → Prop) : Prop := ∀ q : Bool, (q = true ↔ validP a.1) → post q
def pval_sp : Spec := ⟨120, false, false, [.st .api_Region], .dat (.bool), fun x post => pval_P (x.1 : api_Region) (fun y0 => post (y0, ()))⟩
def pval_C : CtxR := ⟨tau, [rule1 pcan_sp, rule1 peqr_sp], lookJ [(0, 1000003, ⟨[(2, .dat .bool)], [], [12, 13, 14, 15, 16, 17], [], []⟩), (1072672813, 0, ⟨[(0, .dat (.int .i64))], [], [], [], []⟩), (1072672813, 5, ⟨[(8, .dat (.int .i64))], [], [9, 10, 5, 11, 12, 13, 14, 15, 16, 18], [], []⟩)]⟩
def pval_W (a : api_Region) (post : Bool → Prop) : Prop := (↑a.1.length : Int) ≤ (9223372036854775807 : Int) → JOIN [Ty.bool] (fun (y1 : Bool) ↦ IFB (decide ((120 : Int) < (↑a.1.length : Int)) || y1) (post false) (JOIN [Ty.bool] (fun (y2 : Bool) ↦ post y2) fun (J3 : Bool → Prop) ↦ ((∀ (v4 : api_Rect), v4 ∈ a.1 → (0 : Int) ≤ v4.1 ∧ v4.1 < v4.3 ∧ v4.3 ≤ (16384 : Int) ∧ (0 : Int) ≤ v4.2 ∧ v4.2 < v4.4 ∧ v4.4 ≤ (16384 : Int)) ∧ a.1.length ≤ (10000 : Nat)) ∧ (canonF (cov a.1)).length ≤ (1000000000 : Nat) ∧ ∀ (v5 : Bool), (v5 = true ↔ canonF (cov a.1) = a.1) → J3 v5)) fun (J6 : Bool → Prop) ↦ IFB (gx false (decide ((120 : Int) < (↑a.1.length : Int)))) (JOIN [Ty.int IntKind.i64] (fun (y7 : Int) ↦ J6 (decide ((0 : Int) ≤ y7))) fun (J8 : Int → Prop) ↦ (↑a.1.length : Int) ≤ (9223372036854775807 : Int) → LOOP [Ty.int IntKind.i64] (fun (rec9 : Int → Prop) (z10 : Int) ↦ IFB (decide (z10 < (↑a.1.length : Int))) (((0 : Int) ≤ z10 ∧ z10 < (↑a.1.length : Int)) ∧ IFB (!(decide ((0 : Int) ≤ (ix a.1 z10).1) && decide ((ix a.1 z10).1 < (ix a.1 z10).3) && decide ((ix a.1 z10).3 ≤ (16384 : Int)) && decide ((0 : Int) ≤ (ix a.1 z10).2) && decide ((ix a.1 z10).2 < (ix a.1 z10).4) && decide ((ix a.1 z10).4 ≤ (16384 : Int)))) (J8 z10) (rec9 (IntKind.i64.wrap (z10 + (1 : Int))))) (J8 (-1 : Int))) ((0 : Int), PUnit.unit)) (J6 false)
theorem pval_w (a : api_Region) (post : dens (shT pval_sp.rs []) → Prop) : pval_W a (fun y0 => post (y0, ())) = walkG (callR Tryz.prog pval_C (drawR Tryz.prog tau) 10 0) 120 false [tv (.st .api_Region) a] pval_sp.rs post := by kernel_rfl
theorem pval_of (h : ∀ (a : api_Region) (post : Bool → Prop), pval_P a post → pval_W a post) : SpecOK Tryz.prog pval_sp := SpecOK.of_rules (C := pval_C) (dr := drawR Tryz.prog tau) (n := 10) (fk := 0) (.cons (rule1_ok pcan_ok) (.cons (rule1_ok peqr_ok) .nil)) (drawR_ok tau) fun x post hp => HoldW.of (pval_w x.1 post) (h x.1 (fun y0 => post (y0, ())) hp)
theorem pval_ok : SpecOK Tryz.prog pval_sp := pval_of fun a post hp => by
  obtain ⟨l⟩ := a
  unfold pval_P at hp
  unfold pval_W
  dsimp only at hp ⊢
  intro _
  refine JOIN.opq fun (J : Bool → Prop) hJ => ?_
  refine IFB.mk (fun hb => ?_) (fun hb => ?_)
  · have hb : (!decide ((120 : Int) < l.length)) = true := hb
    have hb : decide ((120 : Int) < l.length) = false := by simpa using hb
    have hle := of_decide_eq_false hb
    refine JOIN.opq fun (J8 : Int → Prop) hJ8 => ?_
    intro _
    refine loopCmp (n := l.length) (by omega) (p := fun j => proper (ix l (j : Int))) (fun rec k hk hpre hrec => ⟨by omega, IFB.mk (fun hb2 => ?_) (fun hb2 => hrec ?_)⟩) fun hall => ?_
    · rw [hJ8]
      show J (decide (0 ≤ (k : Int)))
      rw [decide_eq_true (by omega : (0 : Int) ≤ k), hJ]
      dsimp only
      refine IFB.mk (fun _ => hp _ ?_) (fun h => ?_)
      · constructor
        · intro h; cases h
        · intro h
          have := properB_iff.2 (h.2.1 _ (ix_mem (l := l) (i := (k : Int)) (by omega) (by omega)))
          unfold properB at this
          rw [this] at hb2
          cases hb2
      · rw [Bool.or_true] at h; cases h
    · exact properB_iff.1 (by unfold properB; simpa using hb2)
    · have hall := all_ix hall
      rw [hJ8]
      show J (decide (0 ≤ (-1 : Int)))
      have hm : decide (0 ≤ (-1 : Int)) = false := rfl
      rw [hm, hJ]
      dsimp only
      rw [hb]
      refine IFB.mk (fun h => by cases h) (fun _ => ?_)
      refine JOIN.opq fun (J3 : Bool → Prop) hJ3 => ?_
      have := cov_len hall
      refine ⟨⟨hall, by omega⟩, by omega, fun q hq => ?_⟩
      rw [hJ3]
      refine hp q (hq.trans ⟨fun h => ⟨by omega, hall, (canon_iff l).1 h⟩, fun h => (canon_iff l).2 h.2.2⟩)
  · have hb : (!decide ((120 : Int) < l.length)) = false := hb
    have hb : decide ((120 : Int) < l.length) = true := by simpa using hb
    rw [hJ]
    dsimp only
    rw [hb]
    refine IFB.mk (fun _ => hp _ ?_) (fun h => by cases h)
    have hb := of_decide_eq_true hb
    constructor
    · intro h; cases h
    · intro h; have := h.1; omega

namespace PL
def edgL (l : List Sp) : List Int := l.flatMap fun s => [s.Left, s.Right]
noncomputable def mergeS (h : Int) (A B : List Sp) : List Sp := spansOf (fun x => howS h (insS A x) (insS B x)) (uniqI (edgL (A ++ B)))
end PL

theorem insS_iff {l : List Sp} {x : Int} : insS l x = true ↔ inSp l x := by
  unfold insS inSp
  simp [List.any_eq_true]
theorem edgL_len {l : List Sp} : (edgL l).length = 2 * l.length := by
  induction l with
  | nil => rfl
  | cons r l ih => 
    have e : edgL (r :: l) = r.Left :: r.Right :: edgL l := rfl
    rw [e]; simp only [List.length_cons, ih]; omega
theorem edgL_mem {l : List Sp} {x : Int} : x ∈ uniqI (edgL l) ↔ ∃ s ∈ l, x = s.Left ∨ x = s.Right := by
  rw [(uniqI_ok _).2]
  unfold edgL; simp
theorem insS_cols {l : List Sp} {x u : Int} (hux : u ≤ x) (hm : ∀ s ∈ l, (s.Left ≤ x → s.Left ≤ u) ∧ (s.Right ≤ x → s.Right ≤ u)) : insS l x = insS l u := by
  refine bool_iff ?_
  rw [insS_iff, insS_iff]
  constructor
  · rintro ⟨r, hr, h1, h2⟩
    have h1 : r.Left ≤ x := h1
    have h2 : x < r.Right := h2
    exact ⟨r, hr, (hm r hr).1 h1, by show u < r.Right; omega⟩
  · rintro ⟨r, hr, h1, h2⟩
    have h1 : r.Left ≤ u := h1
    have h2 : u < r.Right := h2
    refine ⟨r, hr, by show r.Left ≤ x; omega, ?_⟩
    rcases Int.lt_or_le x r.Right with h | h
    · exact h
    · have := (hm r hr).2 h; omega
theorem mergeS_ok (h : Int) (A B : List Sp) : SpOK (mergeS h A B) ∧ ∀ x, inSp (mergeS h A B) x ↔ howS h (insS A x) (insS B x) = true := by
  have c1 := (uniqI_ok (edgL (A ++ B))).1
  have c2 := fun x => edgL_mem (l := A ++ B) (x := x)
  obtain ⟨h1, h2⟩ := spansOf_ok (p := fun x => howS h (insS A x) (insS B x)) c1
  have hin : ∀ x, howS h (insS A x) (insS B x) = true → ∃ s ∈ A ++ B, s.Left ≤ x ∧ x < s.Right := fun x hx => by
    cases ha : insS A x with
    | true =>
      obtain ⟨s, hs, q1, q2⟩ := insS_iff.1 ha
      exact ⟨s, by simp [hs], q1, q2⟩
    | false =>
      cases hb : insS B x with
      | true =>
        obtain ⟨s, hs, q1, q2⟩ := insS_iff.1 hb
        exact ⟨s, by simp [hs], q1, q2⟩
      | false => rw [ha, hb, howS_0] at hx; cases hx
  refine ⟨h1, fun x => ?_⟩
  unfold mergeS
  rw [h2]
  refine edges_set (f := fun x => howS h (insS A x) (insS B x)) c1 (fun x hx => ?_) (fun x hx => ?_) (fun u x hu hux hm => ?_) x
  · obtain ⟨r, hr, h3, h4⟩ := hin x hx
    exact ⟨r.Left, (c2 _).2 ⟨r, hr, .inl rfl⟩, h3⟩
  · obtain ⟨r, hr, h3, h4⟩ := hin x hx
    exact ⟨r.Right, (c2 _).2 ⟨r, hr, .inr rfl⟩, h4⟩
  · have hm' : ∀ r ∈ A ++ B, (r.Left ≤ x → r.Left ≤ u) ∧ (r.Right ≤ x → r.Right ≤ u) := fun r hr => ⟨hm _ ((c2 _).2 ⟨r, hr, .inl rfl⟩), hm _ ((c2 _).2 ⟨r, hr, .inr rfl⟩)⟩
    show howS h (insS A x) (insS B x) = howS h (insS A u) (insS B u)
    rw [insS_cols hux (fun r hr => hm' r (by simp [hr])), insS_cols hux (fun r hr => hm' r (by simp [hr]))]
theorem rowS_ins {l : List Rc} {u x : Int} : insS (rowS l u) x = cov l x u := by
  refine bool_iff ?_
  rw [insS_iff]
  have h := (comb_row (howS_0 1) (a := l) (b := []) (y := u)).2 x
  rw [comb_or_nil, List.append_nil] at h
  exact h
theorem choose_build (h : Int) (l m : List Rc) : canonF (comb (howS h) l m) = flat (buildG (fun y => mergeS h (rowS l y) (rowS m y)) [] (cutsS (l ++ m))) :=
  (comb_build (howS_0 h) (a := l) (b := m) (R := fun y => mergeS h (rowS l y) (rowS m y)) fun u hu => ⟨(mergeS_ok h _ _).1, fun x => by
    rw [(mergeS_ok h _ _).2, rowS_ins, rowS_ins]; rfl⟩).2.2
theorem edg_in {l : List Sp} {A : List Int} {K : List Int → Prop} (hl : A.length + 2 * l.length ≤ 100000) (hK : K (A ++ edgL l)) :
    LOOP [Ty.int IntKind.i64, (Ty.int IntKind.i64).sl] (fun (rec4 : Int → List Int → Prop) (z5 : Int) (z6 : List Int) ↦ IFB (decide (z5 < (↑l.length : Int))) (((0 : Int) ≤ z5 ∧ z5 < (↑l.length : Int)) ∧ (z6.length + [(ix l z5).1, (ix l z5).2].length) * 8 ≤ 140737488355328 ∧ rec4 (IntKind.i64.wrap (z5 + (1 : Int))) (z6 ++ [(ix l z5).1, (ix l z5).2])) (K z6)) ((0 : Int), A, PUnit.unit) := by
  refine LOOP.list l (fun k (s : List Int) => ((k : Int), s, ())) (fun u => Int.toNat u.1) (fun k r (s : List Int) => s ++ edgL r = A ++ edgL l ∧ s.length = A.length + 2 * k) A rfl ⟨rfl, by omega⟩ (fun k s h => by simp) ?_ ?_
  · intro rec k x r s hd hk hkl ⟨g1, g2⟩ hrec
    have hx := ix_of hk
    show IFB _ _ _
    refine IFB.mk (fun _ => ⟨by show 0 ≤ (k : Int) ∧ (k : Int) < l.length; omega, ?_⟩) (fun h => absurd (of_decide_eq_false h) (by show ¬ ¬ ((k : Int) < l.length); omega))
    dsimp only
    rw [hx]
    refine ⟨by simp only [List.length_cons, List.length_nil]; omega, ?_⟩
    rw [wrapS (by omega)]
    refine hrec _ ⟨?_, ?_⟩
    · rw [← g1]
      have e : edgL (x :: r) = x.Left :: x.Right :: edgL r := rfl
      rw [e]; simp
    · simp only [List.length_append, List.length_cons, List.length_nil]; omega
  · intro rec s ⟨g1, g2⟩
    show IFB _ _ _
    refine IFB.mk (fun h => absurd (of_decide_eq_true h) (by show ¬ ((l.length : Int) < l.length); omega)) (fun _ => ?_)
    have g1 : s = A ++ edgL l := by simpa [edgL] using g1
    show K s
    rw [g1]; exact hK
end RE
end Go.Proofs.YtpeggkeenboacaaGreat
set_option linter.unusedVariables false
set_option maxRecDepth 100000
namespace Go.Proofs.YtpeggkeenboacaaGreat
open Go.RowKit
namespace RE
open PL

namespace PL
def xorS : Bool → Bool → Bool := fun a b => !decide (a = b)
noncomputable def mergeX (g : Bool → Bool → Bool) (A B : List Sp) : List Sp := spansOf (fun x => g (insS A x) (insS B x)) (uniqI (edgL (A ++ B)))
end PL

theorem mergeX_ok {g : Bool → Bool → Bool} (h0 : g false false = false) (A B : List Sp) : SpOK (mergeX g A B) ∧ ∀ x, inSp (mergeX g A B) x ↔ g (insS A x) (insS B x) = true := by
  have c1 := (uniqI_ok (edgL (A ++ B))).1
  have c2 := fun x => edgL_mem (l := A ++ B) (x := x)
  obtain ⟨h1, h2⟩ := spansOf_ok (p := fun x => g (insS A x) (insS B x)) c1
  have hin : ∀ x, g (insS A x) (insS B x) = true → ∃ s ∈ A ++ B, s.Left ≤ x ∧ x < s.Right := fun x hx => by
    cases ha : insS A x with
    | true =>
      obtain ⟨s, hs, q1, q2⟩ := insS_iff.1 ha
      exact ⟨s, by simp [hs], q1, q2⟩
    | false =>
      cases hb : insS B x with
      | true =>
        obtain ⟨s, hs, q1, q2⟩ := insS_iff.1 hb
        exact ⟨s, by simp [hs], q1, q2⟩
      | false => rw [ha, hb, h0] at hx; cases hx
  refine ⟨h1, fun x => ?_⟩
  unfold mergeX
  rw [h2]
  refine edges_set (f := fun x => g (insS A x) (insS B x)) c1 (fun x hx => ?_) (fun x hx => ?_) (fun u x hu hux hm => ?_) x
  · obtain ⟨r, hr, h3, h4⟩ := hin x hx
    exact ⟨r.Left, (c2 _).2 ⟨r, hr, .inl rfl⟩, h3⟩
  · obtain ⟨r, hr, h3, h4⟩ := hin x hx
    exact ⟨r.Right, (c2 _).2 ⟨r, hr, .inr rfl⟩, h4⟩
  · have hm' : ∀ r ∈ A ++ B, (r.Left ≤ x → r.Left ≤ u) ∧ (r.Right ≤ x → r.Right ≤ u) := fun r hr => ⟨hm _ ((c2 _).2 ⟨r, hr, .inl rfl⟩), hm _ ((c2 _).2 ⟨r, hr, .inr rfl⟩)⟩
    show g (insS A x) (insS B x) = g (insS A u) (insS B u)
    rw [insS_cols hux (fun r hr => hm' r (by simp [hr])), insS_cols hux (fun r hr => hm' r (by simp [hr]))]
theorem chooseX_build {g : Bool → Bool → Bool} (h0 : g false false = false) (l m : List Rc) : canonF (comb g l m) = flat (buildG (fun y => mergeX g (rowS l y) (rowS m y)) [] (cutsS (l ++ m))) :=
  (comb_build h0 (a := l) (b := m) (R := fun y => mergeX g (rowS l y) (rowS m y)) fun u hu => ⟨(mergeX_ok h0 _ _).1, fun x => by
    rw [(mergeX_ok h0 _ _).2, rowS_ins, rowS_ins]; rfl⟩).2.2
theorem xorS_0 : xorS false false = false := rfl
end RE
end Go.Proofs.YtpeggkeenboacaaGreat
set_option linter.unusedVariables false
set_option maxRecDepth 100000
namespace Go.Proofs.YtpeggkeenboacaaGreat
open Go.RowKit
namespace RE
open PL
namespace PL
abbrev Pc := api_Parcel
abbrev Ed := api_Edit
abbrev Rn := api_Region
def meetP (a b : List Rc) : Prop := validP a ∧ validP b ∧ ∃ x y, cov a x y = true ∧ cov b x y = true
/-- A region that is valid, and not empty. -/
def propR (a : Rn) : Prop := a.Rects ≠ [] ∧ validP a.Rects
def asc (l : List Int) : Prop := ∀ i : Nat, i + 1 < l.length → ix l (i : Int) < ix l ((i + 1 : Nat) : Int)
def endsP (p : Pc) (i : Int) : Int := if i + 1 < (p.Days.length : Int) then ix p.Days (i + 1) else p.Until
/-- The outlines of a parcel are right by themselves. -/
def outP (p : Pc) : Prop := 0 < p.Days.length ∧ p.Days.length = p.Regions.length ∧ ix p.Days 0 = p.From ∧ asc p.Days ∧ ix p.Days ((p.Days.length : Int) - 1) ≤ min p.Until 36864 ∧ ∀ a ∈ p.Regions, propR a
/-- The parents are right. -/
def parP (l : List Pc) (p : Pc) : Prop := asc p.Parents ∧ ∀ k ∈ p.Parents, 1 ≤ k ∧ k ≤ (l.length : Int) ∧ (ix l (k - 1)).Until = p.From
/-- A parcel fits behind others, but for squares in common. -/
def rightP (l : List Pc) (p : Pc) : Prop := p.Number = (l.length : Int) + 1 ∧ 0 ≤ p.From ∧ p.From ≤ p.Until ∧ p.Until ≤ 36865 ∧ (0 < l.length → (ix l ((l.length : Int) - 1)).From ≤ p.From) ∧ outP p ∧ parP l p
/-- Two parcels have squares in common on some day. -/
def meetPc (p q : Pc) : Prop := ∃ a b : Nat, a < p.Regions.length ∧ b < q.Regions.length ∧ max (ix p.Days (a : Int)) (ix q.Days (b : Int)) < min (endsP p (a : Int)) (endsP q (b : Int)) ∧ meetP (ix p.Regions (a : Int)).Rects (ix q.Regions (b : Int)).Rects
/-- A register. -/
def regP (l : List Pc) : Prop := (∀ i : Nat, i < l.length → rightP (l.take i) (ix l (i : Int))) ∧ ∀ i j : Nat, i < l.length → j < i → ¬ meetPc (ix l (i : Int)) (ix l (j : Int))
open Classical in
noncomputable def checkS (l : List Pc) : Int := if 60 < l.length then 1 else if regP l then 0 else 3
end PL
theorem propR_ne {a : Rn} : (0 < a.Rects.length ∧ validP a.Rects) ↔ propR a := by
  unfold propR
  cases a.Rects with
  | nil => simp
  | cons x r => simp
end RE
end Go.Proofs.YtpeggkeenboacaaGreat
set_option maxRecDepth 100000
set_option linter.unusedVariables false
namespace Go.Proofs.YtpeggkeenboacaaGreat
open Go.RowKit
namespace RE
open PL
namespace Keep
theorem ret_int {k : IntKind} {a b : Int} (h : a = b) : Ending.returned (.int k a) = .returned (.int k b) := by rw [h]

/-- What Mod returns. -/
def md (k n : Int) : Int := if n < 1 then 0 else k % n
theorem md_bd (k n : Int) : 0 ≤ md k n ∧ (md k n < n ∨ md k n = 0) := by
  unfold md
  split
  · omega
  · have h1 := Int.emod_nonneg k (show n ≠ 0 by omega)
    have h2 := Int.emod_lt_of_pos k (show 0 < n by omega)
    omega
theorem tmod_cases (k n : Int) (hn : 1 ≤ n) : (0 ≤ k.tmod n ∧ k.tmod n < n ∧ k % n = k.tmod n) ∨ (k.tmod n < 0 ∧ -n < k.tmod n ∧ k % n = k.tmod n + n) := by
  have h1 := Int.mul_tdiv_add_tmod k n
  have hd : k % n = (k.tmod n) % n := by
    conv => lhs; rw [← h1]
    rw [Int.add_comm, Int.add_mul_emod_self_left]
  have ha : -n < k.tmod n ∧ k.tmod n < n := by
    exact ⟨Int.lt_tmod_of_pos k (by omega), Int.tmod_lt_of_pos k (by omega)⟩
  rw [hd]
  rcases Int.le_total 0 (k.tmod n) with h | h
  · left; exact ⟨h, ha.2, Int.emod_eq_of_lt h ha.2⟩
  · by_cases h0 : k.tmod n = 0
    · left; rw [h0]; simp; omega
    · right
      refine ⟨by omega, ha.1, ?_⟩
      have : (k.tmod n + n) % n = k.tmod n % n := by simp
      rw [← this]
      exact Int.emod_eq_of_lt (by omega) (by omega)

theorem mod_any (k n : Int) (h3 : n ≤ 9223372036854775807) (w : World) :
    Calls Tryz.prog 18 #[.int .i64 k, .int .i64 n] w fun e w' => e = .returned (.int .i64 (md k n)) ∧ w = w' := by
  unfold md
  by_cases hn : n < 1
  · rw [if_pos hn]
    go_enter Tryz.func18, Tryz.ntmps18
    go_wp2
    go_ret
    exact ⟨rfl, rfl⟩
  · rw [if_neg hn]
    rcases tmod_cases k n (by omega) with ⟨a, b, c⟩ | ⟨a, b, c⟩
    all_goals
      have c' := Lib.hid c
      clear c
      go_enter Tryz.func18, Tryz.ntmps18
      go_wp2
      go_ret
      exact ⟨ret_int c'.out.symm, rfl⟩
def NextPost (bt : Nat) (S : Cells) (n : Int) (w : World) (e : Ending) (w' : World) : Prop :=
  ∃ r : Int, e = .returned (.int .i64 r) ∧ 0 ≤ r ∧ (r < n ∨ r = 0) ∧ TapeS w' bt S ∧ w.grownBy w' (some bt)
theorem grownBy_refl (w : World) (row : Option Nat) : w.grownBy w row := ⟨rfl, rfl, rfl, Nat.le_refl _, fun _ _ _ => rfl⟩
theorem grownBy_trans {a b c : World} {row : Option Nat} (h : a.grownBy b row) (k : b.grownBy c row) : a.grownBy c row :=
  ⟨k.os.trans h.os, k.tape.trans h.tape, k.output.trans h.output, Nat.le_trans h.size k.size, fun i hi hr => (k.block i (Nat.lt_of_lt_of_le hi h.size) hr).trans (h.block i hi hr)⟩
theorem grownBy_setCell (w : World) (bt o : Nat) (v : Value) : w.grownBy (w.setCell ⟨bt, o, none⟩ v) (some bt) :=
  ⟨rfl, rfl, rfl, by simp [World.setCell], fun k _ hr => Below.heap_setCell _ _ _ _ (by intro e; exact hr (by rw [e]))⟩

theorem only_drewN {a w : World} {row : Option Nat} (h : a.grownBy w row) (n : Nat) : a.grownBy (w.drewN n) row := ⟨h.os, h.tape, h.output, h.size, h.block⟩
theorem quiet_left {P : Program} {f : FuncId} {args : Array Value} {w : World} {n : Nat} {v : Value}
    (h : Calls P f args (w.drewN n) fun e w' => e = .returned v ∧ w.drewN n = w') : Calls P f args (w.drewN n) fun e w'' => e = .returned v ∧ ∃ m, w'' = w.drewN m :=
  h.mono fun _ _ ⟨he, hm⟩ => ⟨he, n, hm.symm⟩

set_option maxHeartbeats 400000 in
theorem next_any (bt : Nat) (n : Int) (h3 : n ≤ 9223372036854775807) (w : World) (S : Cells) (hS : ∀ k, ¬ S bt k) (h : TapeS w bt S) :
    Calls Tryz.prog 16 #[.pointer (some ⟨bt, 0, none⟩), .int .i64 n] w (NextPost bt S n w) := by
  obtain ⟨a, len, cap, at_, ty, hb, hat, hlen, hv⟩ := h
  have c0 : w.cell? ⟨bt, 0, none⟩ = some (.slice a len cap) := by simp [World.cell?, hb]
  have c1 : w.cell? ⟨bt, 1, none⟩ = some (.int .i64 (at_ : Nat)) := by simp [World.cell?, hb]
  have f1 : w.frozen? ⟨bt, 1, none⟩ = false := by simp [World.frozen?, hb]
  have hT : TapeS w bt S := ⟨a, len, cap, at_, ty, hb, hat, hlen, hv⟩
  have hfin : ∀ n', NextPost bt S n w (.returned (.int .i64 0)) (w.drewN n') := fun n' =>
    ⟨0, rfl, by omega, by omega, hT, only_drewN (grownBy_refl w _) n'⟩
  have hmd : ∀ (z : Int) (W : World), TapeS W bt S → w.grownBy W (some bt) → NextPost bt S n w (.returned (.int .i64 (md z n))) W := fun z W h1 h2 =>
    ⟨md z n, rfl, (md_bd z n).1, (md_bd z n).2, h1, h2⟩
  by_cases hlt : at_ < len
  · have hv2 := hv
    obtain ⟨bl, off, rfl, hc⟩ := hv (by omega)
    have hne : bl ≠ bt := fun e => hS _ (e ▸ (hc at_ hlt).1)
    obtain ⟨hsz, z, hz⟩ := hc at_ hlt
    have hno : ¬ len ≤ at_ := by omega
    have hT2 : ∀ nq n' : Nat, TapeS (((w.drewN nq).setCell ⟨bt, 1, none⟩ (.int .i64 ((at_ : Int) + 1))).drewN n') bt S := by
      intro nq n'
      refine ⟨_, len, cap, at_ + 1, ty, ?_, by omega, hlen, fun hl => ⟨bl, off, rfl, fun i hi => ⟨(hc i hi).1, ?_⟩⟩⟩
      rotate_left
      · obtain ⟨z', hz'⟩ := (hc i hi).2
        refine ⟨z', ?_⟩
        show ((w.drewN nq).setCell ⟨bt, 1, none⟩ (.int .i64 ((at_ : Int) + 1))).cell? _ = _
        rw [World.cell?_of_block (w := w.drewN nq) (Below.heap_setCell _ _ _ _ hne)]; exact hz'
      show ((w.drewN nq).setCell ⟨bt, 1, none⟩ (.int .i64 ((at_ : Int) + 1))).heap[bt]? = _
      have hb' : (w.drewN nq).heap[bt]? = some (.cells #[.slice (some ⟨bl, off, none⟩) len cap, .int .i64 (at_ : Nat)] ty (0, 0)) := hb
      simp only [World.setCell, Array.getElem?_modify, if_true, hb']
      simp
    have hG : ∀ nq n' : Nat, w.grownBy (((w.drewN nq).setCell ⟨bt, 1, none⟩ (.int .i64 ((at_ : Int) + 1))).drewN n') (some bt) := fun nq n' =>
      only_drewN (grownBy_trans (only_drewN (grownBy_refl w _) nq) (grownBy_setCell _ bt 1 _)) n'
    have hW0 : ∀ nq : Nat, ((w.drewN nq).setCell ⟨bt, 1, none⟩ (.int .i64 ((at_ : Int) + 1))).cell? ⟨bt, 0, none⟩ = some (.slice (some ⟨bl, off, none⟩) len cap) := fun nq => by
      rw [World.cell?_setCell_other _ _ _ _ (by simp)]; exact c0
    have hW1 : ∀ nq : Nat, ((w.drewN nq).setCell ⟨bt, 1, none⟩ (.int .i64 ((at_ : Int) + 1))).cell? ⟨bt, 1, none⟩ = some (.int .i64 ((at_ : Int) + 1)) := fun nq =>
      World.cell?_setCell_same (u := .int .i64 (at_ : Nat)) _ _ _ c1
    have hWz : ∀ nq : Nat, ((w.drewN nq).setCell ⟨bt, 1, none⟩ (.int .i64 ((at_ : Int) + 1))).cell? ⟨bl, off + at_, none⟩ = some (.int .i64 z) := fun nq => by
      rw [World.cell?_of_block (w := w.drewN nq) (Below.heap_setCell _ _ _ _ hne)]; exact hz
    clear hb hc hfin hz hv hv2
    have hmd' := Lib.hid hmd
    have hT2' := Lib.hid hT2
    have hG' := Lib.hid hG
    have hW0' := Lib.hid hW0
    have hW1' := Lib.hid hW1
    have hWz' := Lib.hid hWz
    clear hmd hT2 hG hW0 hW1 hWz
    go_enter Tryz.func16, Tryz.ntmps16
    go_wp2
    go_quiet (fail)
    rename_i nq
    go_wp2
    have k0 := hW0'.out nq
    have k1 := hW1'.out nq
    have kz := hWz'.out nq
    obtain ⟨W, hW⟩ : ∃ W, W = ((w.drewN nq).setCell ⟨bt, 1, none⟩ (.int .i64 ((at_ : Int) + 1))) := ⟨_, rfl⟩
    rw [← hW] at k0 k1 kz ⊢
    have hW2 := Lib.hid hW
    clear hW c0 c1 f1
    have ks : IntKind.i64.wrap ((at_ : Int) + 1 - 1) = at_ := by rw [IntWalk.i64_in _ (by omega)]; omega
    go_quiet ((go_at_call 18; exact quiet_left (mod_any _ _ (by omega) _)))
    go_wp2
    go_ret
    rw [hW2.out]
    exact hmd'.out z _ (hT2'.out _ _) (hG'.out _ _)
  · have hno : len ≤ at_ := by omega
    clear hb hat hlen hmd hv
    go_enter Tryz.func16, Tryz.ntmps16
    go_wp2
    go_quiet (fail)
    go_wp2
    go_ret
    exact hfin _

end Keep
def knext_P (n : Int) (post : Int → Prop) : Prop := n ≤ 9223372036854775807 ∧ ∀ r : Int, 0 ≤ r → (r < n ∨ r = 0) → post r
def knext_sp : Spec := ⟨16, true, true, [.int .i64], .dat (.int .i64), fun x post => knext_P (x.1 : Int) (fun y0 => post (y0, ()))⟩
theorem knext_ok : SpecOK Tryz.prog knext_sp := by
  intro x post hp w S T us hS hT hl hr
  obtain ⟨n, ⟨⟩⟩ := x
  obtain ⟨hn, hp⟩ := hp
  obtain ⟨t, rfl, hT, hSt⟩ := hT
  match us, hl with
  | [u], _ =>
    have h0 := hr 0 _ _ rfl rfl
    have hu : u = .int .i64 n := by
      have h0 : Rd S w (.v (.int .i64 n)) u := h0
      cases h0; rfl
    subst hu
    refine (Keep.next_any t n hn w S hSt hT).mono ?_
    rintro e w' ⟨r, rfl, h1, h2, h3, h4⟩
    refine ⟨_, (r, ()), cx0 S (some t), rfl, hp r h1 h2, ?_, ?_, ?_⟩
    · refine ⟨fun b o h => Nat.lt_of_lt_of_le (hS b o h) h4.size, fun id x hx => (by cases hx), fun id x hx => (by cases hx), fun i j x y hx => (by cases hx), fun T hT' => ?_, fun _ => ⟨t, rfl, h3⟩, fun h => (by cases h)⟩
      cases hT'
      exact ⟨h3.lt, hSt⟩
    · refine ⟨h4.os, h4.tape, h4.output, h4.size, fun _ h => h, fun _ h => .inl h, fun _ h => h, fun _ _ => ⟨rfl, rfl⟩, fun _ _ h => h, fun _ _ h => .inl h, fun b hb _ ht => h4.block b hb (fun e => ht e.symm), fun _ h => .inl h⟩
    · exact .d _ _ (.v _)
end RE
end Go.Proofs.YtpeggkeenboacaaGreat
set_option maxRecDepth 100000
set_option linter.unusedVariables false
namespace Go.Proofs.YtpeggkeenboacaaGreat
open Go.RowKit
namespace RE
open PL
def krect_P (n : Int) (post : api_Rect → Prop) : Prop := (1 ≤ n ∧ n ≤ 16384) ∧ ∀ r : api_Rect, (proper r ∧ r.Right ≤ n ∧ r.High ≤ n) → post r
def krect_sp : Spec := ⟨73, true, true, [.int .i64], .dat (.st .api_Rect), fun x post => krect_P (x.1 : Int) (fun y0 => post (y0, ()))⟩
def krect_C : CtxR := ⟨tau, [rule1 knext_sp], lookJ []⟩
def krect_W (n : Int) (post : api_Rect → Prop) : Prop := n ≤ (9223372036854775807 : Int) ∧ ∀ (v1 : Int), (0 : Int) ≤ v1 → v1 < n ∨ v1 = (0 : Int) → n ≤ (9223372036854775807 : Int) ∧ ∀ (v2 : Int), (0 : Int) ≤ v2 → v2 < n ∨ v2 = (0 : Int) → IntKind.i64.wrap (n - v1) ≤ (9223372036854775807 : Int) ∧ ∀ (v3 : Int), (0 : Int) ≤ v3 → v3 < IntKind.i64.wrap (n - v1) ∨ v3 = (0 : Int) → IntKind.i64.wrap (n - v2) ≤ (9223372036854775807 : Int) ∧ ∀ (v4 : Int), (0 : Int) ≤ v4 → v4 < IntKind.i64.wrap (n - v2) ∨ v4 = (0 : Int) → post { Left := v1, Low := v2, Right := IntKind.i64.wrap (IntKind.i64.wrap (v1 + (1 : Int)) + v3), High := IntKind.i64.wrap (IntKind.i64.wrap (v2 + (1 : Int)) + v4) : api_Rect }
theorem krect_w (n : Int) (post : dens (shT krect_sp.rs []) → Prop) : krect_W n (fun y0 => post (y0, ())) = walkG (callR Tryz.prog krect_C (drawR Tryz.prog tau) 8 0) 73 true [tv (.int .i64) n] krect_sp.rs post := by kernel_rfl
theorem krect_of (h : ∀ (n : Int) (post : api_Rect → Prop), krect_P n post → krect_W n post) : SpecOK Tryz.prog krect_sp := SpecOK.of_rules (C := krect_C) (dr := drawR Tryz.prog tau) (n := 8) (fk := 0) (.cons (rule1_ok knext_ok) .nil) (drawR_ok tau) fun x post hp => HoldW.of (krect_w x.1 post) (h x.1 (fun y0 => post (y0, ())) hp)
theorem valid_nil : validP [] := ⟨by simp, fun r h => (by cases h), canon_nil⟩
theorem canon_one {r : Rc} (h : proper r) : Canon [r] := by
  obtain ⟨p1, p2, p3, p4, p5, p6⟩ := h
  refine ⟨[⟨r.Low, r.High, [⟨r.Left, r.Right⟩]⟩], ⟨fun b hb => ?_, List.pairwise_singleton _ _, ?_⟩, rfl⟩
  · rw [List.mem_singleton] at hb
    subst hb
    exact ⟨p5, by simp, fun s hs => by rw [List.mem_singleton] at hs; subst hs; exact p2, List.pairwise_singleton _ _⟩
  · first | exact List.pairwise_singleton _ _ | exact trivial | (intro i; simp)
theorem canon_proper {l : List Rc} (h : Canon l) {n m : Int} (hn : n ≤ 16384) (hm : m ≤ 16384) (hb : ∀ x y, cov l x y = true → 0 ≤ x ∧ x < n ∧ 0 ≤ y ∧ y < m) : ∀ r ∈ l, proper r := fun r hr => by
  obtain ⟨q1, q2, q3, q4, q5, q6⟩ := canon_box h hb r hr
  exact ⟨q1, q2, by omega, q4, q5, by omega⟩
theorem ofS_valid {l : List Rc} {n : Int} (hn : n ≤ 16384) (h : ∀ r ∈ l, proper r ∧ r.Right ≤ n ∧ r.High ≤ n) : validP (ofS l).1 ∧ ∀ x y, cov (ofS l).1 x y = true → x < n ∧ y < n := by
  unfold ofS
  have hnil : validP ([] : List Rc) ∧ ∀ x y, cov ([] : List Rc) x y = true → x < n ∧ y < n := ⟨valid_nil, fun x y h => by simp [cov_nil] at h⟩
  split
  · exact hnil
  · split
    · exact hnil
    · split
      · exact hnil
      · rename_i h3
        have hc := canon_cov l
        have hb : ∀ x y, cov (canonF (cov l)) x y = true → 0 ≤ x ∧ x < n ∧ 0 ≤ y ∧ y < n := fun x y hxy => by
          rw [hc.2] at hxy
          obtain ⟨r, hr, q1, q2, q3, q4⟩ := cov_iff.1 hxy
          obtain ⟨⟨p1, p2, p3, p4, p5, p6⟩, p7, p8⟩ := h r hr
          omega
        exact ⟨⟨by show (canonF (cov l)).length ≤ 120; omega, canon_proper hc.1 hn hn hb, hc.1⟩, fun x y hxy => ⟨(hb x y hxy).2.1, (hb x y hxy).2.2.2⟩⟩

theorem krect_ok : SpecOK Tryz.prog krect_sp := krect_of fun n post hp => by
  obtain ⟨⟨h1, h2⟩, hp⟩ := hp
  unfold krect_W
  refine ⟨by omega, fun v1 a1 b1 => ⟨by omega, fun v2 a2 b2 => ?_⟩⟩
  have w1 : IntKind.i64.wrap (n - v1) = n - v1 := wrap_in (by omega) (by omega)
  have w2 : IntKind.i64.wrap (n - v2) = n - v2 := wrap_in (by omega) (by omega)
  rw [w1, w2]
  refine ⟨by omega, fun v3 a3 b3 => ⟨by omega, fun v4 a4 b4 => ?_⟩⟩
  rw [wrap_in (z := v1 + 1) (by omega) (by omega), wrap_in (z := v2 + 1) (by omega) (by omega), wrap_in (z := v1 + 1 + v3) (by omega) (by omega), wrap_in (z := v2 + 1 + v4) (by omega) (by omega)]
  refine hp _ ⟨⟨?_, ?_, ?_, ?_, ?_, ?_⟩, ?_, ?_⟩ <;> dsimp only <;> omega

def kregion_P (n : Int) (m : Int) (post : api_Region → Prop) : Prop := (1 ≤ n ∧ n ≤ 16384 ∧ 0 ≤ m ∧ m ≤ 100) ∧ ∀ a : api_Region, (validP a.1 ∧ ∀ x y, cov a.1 x y = true → x < n ∧ y < n) → post a
def kregion_sp : Spec := ⟨74, true, true, [.int .i64, .int .i64], .dat (.st .api_Region), fun x post => kregion_P (x.1 : Int) (x.2.1 : Int) (fun y0 => post (y0, ()))⟩
def kregion_C : CtxR := ⟨tau, [rule1 knext_sp, rule1 krect_sp, rule1 rof_sp], lookJ [(0, 7, ⟨[(8, .dat (.int .i64)), (7, .own 65 (.st .api_Rect))], [], [15, 16, 19, 20, 21, 22, 23, 24, 17, 18], [], []⟩)]⟩
def kregion_W (n : Int) (m : Int) (post : api_Region → Prop) : Prop := IntKind.i64.wrap (m + (1 : Int)) ≤ (9223372036854775807 : Int) ∧ ∀ (v1 : Int), (0 : Int) ≤ v1 → v1 < IntKind.i64.wrap (m + (1 : Int)) ∨ v1 = (0 : Int) → LOOP [Ty.int IntKind.i64, (Ty.st Sn.api_Rect).sl] (fun (rec2 : Int → List api_Rect → Prop) (z3 : Int) (z4 : List api_Rect) ↦ IFB (decide ((0 : Int) < z3)) (((1 : Int) ≤ n ∧ n ≤ (16384 : Int)) ∧ ∀ (v5 : api_Rect), proper v5 ∧ v5.3 ≤ n ∧ v5.4 ≤ n → (z4.length + [{ Left := v5.1, Low := v5.2, Right := v5.3, High := v5.4 : api_Rect }].length) * (32 : Nat) ≤ (140737488355328 : Nat) ∧ rec2 (IntKind.i64.wrap (z3 - (1 : Int))) (z4 ++ [{ Left := v5.1, Low := v5.2, Right := v5.3, High := v5.4 : api_Rect }])) (post { Rects := (ofS z4).1 : api_Region })) (v1, [], PUnit.unit)
theorem kregion_w (n : Int) (m : Int) (post : dens (shT kregion_sp.rs []) → Prop) : kregion_W n m (fun y0 => post (y0, ())) = walkG (callR Tryz.prog kregion_C (drawR Tryz.prog tau) 8 0) 74 true [tv (.int .i64) n, tv (.int .i64) m] kregion_sp.rs post := by kernel_rfl
theorem kregion_of (h : ∀ (n : Int) (m : Int) (post : api_Region → Prop), kregion_P n m post → kregion_W n m post) : SpecOK Tryz.prog kregion_sp := SpecOK.of_rules (C := kregion_C) (dr := drawR Tryz.prog tau) (n := 8) (fk := 0) (.cons (rule1_ok knext_ok) (.cons (rule1_ok krect_ok) (.cons (rule1_ok rof_ok) .nil))) (drawR_ok tau) fun x post hp => HoldW.of (kregion_w x.1 x.2.1 post) (h x.1 x.2.1 (fun y0 => post (y0, ())) hp)
def regI (n z : Int) (l : List Rc) : Prop := 0 ≤ z ∧ z + (l.length : Int) ≤ 200 ∧ ∀ r ∈ l, proper r ∧ r.Right ≤ n ∧ r.High ≤ n
theorem kregion_ok : SpecOK Tryz.prog kregion_sp := kregion_of fun n m post hp => by
  obtain ⟨⟨h1, h2, h3, h4⟩, hp⟩ := hp
  unfold kregion_W
  have w1 : IntKind.i64.wrap (m + 1) = m + 1 := wrap_in (by omega) (by omega)
  rw [w1]
  refine ⟨by omega, fun v a b => ?_⟩
  refine LOOP.fuel (fun u => regI n u.1 u.2.1) (fun u => Int.toNat u.1) ⟨a, by show v + (([] : List Rc).length : Int) ≤ 200; simp only [List.length_nil]; omega, fun r hr => (by cases hr)⟩ ?_
  rintro rec ⟨(z : Int), (l : List Rc), ⟨⟩⟩ ⟨i1, i2, i3⟩ hrec
  have i1 : 0 ≤ z := i1
  have i2 : z + (l.length : Int) ≤ 200 := i2
  refine IFB.mk (fun hb => ⟨⟨h1, h2⟩, fun r hr => ⟨by simp only [List.length_cons, List.length_nil]; omega, ?_⟩⟩) (fun hb => ?_)
  · have hb : 0 < z := of_decide_eq_true hb
    rw [wrap_in (by omega) (by omega)]
    refine hrec (z - 1, _, ()) ⟨?_, ?_, ?_⟩ (by show (z - 1).toNat < z.toNat; omega)
    · show 0 ≤ z - 1; omega
    · show z - 1 + (List.length (l ++ _) : Int) ≤ 200
      simp only [List.length_append, List.length_cons, List.length_nil]; omega
    · intro q hq
      rcases List.mem_append.1 hq with hq | hq
      · exact i3 q hq
      · rw [List.mem_singleton] at hq
        subst hq
        exact hr
  · exact hp ⟨(ofS l).1⟩ (ofS_valid h2 i3)

def kland_P (n : Int) (m : Int) (post : api_Region → Prop) : Prop := (1 ≤ n ∧ n ≤ 16384 ∧ 0 ≤ m ∧ m ≤ 100) ∧ ∀ a : api_Region, (validP a.1 ∧ a.1 ≠ [] ∧ ∀ x y, cov a.1 x y = true → x < n ∧ y < n) → post a
def kland_sp : Spec := ⟨30, true, true, [.int .i64, .int .i64], .dat (.st .api_Region), fun x post => kland_P (x.1 : Int) (x.2.1 : Int) (fun y0 => post (y0, ()))⟩
def kland_C : CtxR := ⟨tau, [rule1 kregion_sp, rule1 krect_sp], lookJ [(0, 8, ⟨[], [(1, [.dat (.sl (.st .api_Rect))])], [12, 13, 14, 15, 16, 17, 18, 19, 20], [], []⟩)]⟩
def kland_W (n : Int) (m : Int) (post : api_Region → Prop) : Prop := ((1 : Int) ≤ n ∧ n ≤ (16384 : Int) ∧ (0 : Int) ≤ m ∧ m ≤ (100 : Int)) ∧ ∀ (v1 : api_Region), (validP v1.1 ∧ ∀ (x y : Int), cov v1.1 x y = true → x < n ∧ y < n) → JOIN [(Ty.st Sn.api_Rect).sl] (fun (y2 : List api_Rect) ↦ post { Rects := y2 : api_Region }) fun (J3 : List api_Rect → Prop) ↦ (↑v1.1.length : Int) ≤ (9223372036854775807 : Int) → IFB (decide ((↑v1.1.length : Int) = (0 : Int))) (((1 : Int) ≤ n ∧ n ≤ (16384 : Int)) ∧ ∀ (v4 : api_Rect), proper v4 ∧ v4.3 ≤ n ∧ v4.4 ≤ n → J3 [{ Left := v4.1, Low := v4.2, Right := v4.3, High := v4.4 : api_Rect }]) (J3 v1.1)
theorem kland_w (n : Int) (m : Int) (post : dens (shT kland_sp.rs []) → Prop) : kland_W n m (fun y0 => post (y0, ())) = walkG (callR Tryz.prog kland_C (drawR Tryz.prog tau) 8 0) 30 true [tv (.int .i64) n, tv (.int .i64) m] kland_sp.rs post := by kernel_rfl
theorem kland_of (h : ∀ (n : Int) (m : Int) (post : api_Region → Prop), kland_P n m post → kland_W n m post) : SpecOK Tryz.prog kland_sp := SpecOK.of_rules (C := kland_C) (dr := drawR Tryz.prog tau) (n := 8) (fk := 0) (.cons (rule1_ok kregion_ok) (.cons (rule1_ok krect_ok) .nil)) (drawR_ok tau) fun x post hp => HoldW.of (kland_w x.1 x.2.1 post) (h x.1 x.2.1 (fun y0 => post (y0, ())) hp)
theorem kland_ok : SpecOK Tryz.prog kland_sp := kland_of fun n m post hp => by
  obtain ⟨hd, hp⟩ := hp
  unfold kland_W
  refine ⟨hd, fun a ha => ?_⟩
  obtain ⟨l⟩ := a
  obtain ⟨h1, h2⟩ := ha
  refine JOIN.opq fun (J : List Rc → Prop) hJ _ => IFB.mk (fun hb => ⟨⟨hd.1, hd.2.1⟩, fun r hr => ?_⟩) (fun hb => ?_)
  · rw [hJ]
    refine hp ⟨[r]⟩ ⟨⟨by simp, fun q hq => ?_, canon_one hr.1⟩, by simp, fun x y hxy => ?_⟩
    · rw [List.mem_singleton] at hq
      subst hq
      exact hr.1
    · obtain ⟨q, hq, q1, q2, q3, q4⟩ := cov_iff.1 hxy
      rw [List.mem_singleton] at hq
      subst hq
      obtain ⟨_, p7, p8⟩ := hr
      omega
  · have hb : ¬ (l.length : Int) = 0 := of_decide_eq_false hb
    rw [hJ]
    exact hp ⟨l⟩ ⟨h1, fun e => hb (by show (l.length : Int) = 0; rw [show l = [] from e]; rfl), h2⟩

end RE
end Go.Proofs.YtpeggkeenboacaaGreat
namespace Go.Proofs.YtpeggkeenboacaaGreat
open Go.RowKit
set_option linter.unusedVariables false
namespace RE
variable {P : Program}
theorem lawG_okH {cp : CP} (hcp : CallOK P cp) {f : FuncId} {ds : List D} {post : Bool → Prop} (h : HoldW (lawG cp f ds post)) {w : World} {S : Cells} {us : List Value} (h1 : ∀ b o, S b o → b < w.heap.size) (h3 : us.length = ds.length)
    (h4 : ∀ (i : Nat) (d : D) (u : Value), ds[i]? = some d → us[i]? = some u → Rd S w d u) :
    Calls P f us.toArray w fun e w' => (∃ b, e = .returned (.bool b) ∧ post b) ∧ Below w.heap.size w w' := lawG_ok hcp h.h h1 h3 h4
end RE
end Go.Proofs.YtpeggkeenboacaaGreat
namespace Go.Proofs.YtpeggkeenboacaaGreat
open Go.RowKit
set_option linter.unusedVariables false
namespace RE
variable {P : Program}
/-- A list's spine. -/
def fLi {β : Type} {α : Sort _} : List β → (List β → α) → α
  | [], k => k []
  | x :: r, k => fLi r fun r => k (x :: r)
theorem fLi_eq {β : Type} {α : Sort _} : ∀ (l : List β) (k : List β → α), fLi l k = k l
  | [], k => rfl
  | x :: r, k => by unfold fLi; rw [fLi_eq r]
def fBs {α : Sort _} : List Bool → (List Bool → α) → α
  | [], k => k []
  | true :: r, k => fBs r fun r => k (true :: r)
  | false :: r, k => fBs r fun r => k (false :: r)
theorem fBs_eq {α : Sort _} : ∀ (l : List Bool) (k : List Bool → α), fBs l k = k l
  | [], k => rfl
  | true :: r, k => by unfold fBs; rw [fBs_eq r]
  | false :: r, k => by unfold fBs; rw [fBs_eq r]
def fPr {β γ : Type} {α : Sort _} : List (β × γ) → (List (β × γ) → α) → α
  | [], k => k []
  | (x, y) :: r, k => fPr r fun r => k ((x, y) :: r)
theorem fPr_eq {β γ : Type} {α : Sort _} : ∀ (l : List (β × γ)) (k : List (β × γ) → α), fPr l k = k l
  | [], k => rfl
  | (x, y) :: r, k => by unfold fPr; rw [fPr_eq r]
def fV {α : Sort _} : Value → (Value → α) → α
  | .bool b, k => k (.bool b)
  | .int t z, k => k (.int t z)
  | u, k => k u
theorem fV_eq {α : Sort _} (u : Value) (k : Value → α) : fV u k = k u := by cases u <;> rfl
def fD {α : Sort _} : D → (D → α) → α
  | .v u, k => fV u fun u => k (.v u)
  | .agg cs, k => fLi cs fun cs => k (.agg cs)
  | .tup cs, k => fLi cs fun cs => k (.tup cs)
  | d, k => k d
theorem fD_eq {α : Sort _} (d : D) (k : D → α) : fD d k = k d := by
  cases d <;> first | rfl | exact fV_eq _ _ | exact fLi_eq _ _
def fSV {α : Sort _} : SV → (SV → α) → α
  | .d x, k => fD x fun x => k (.d x)
  | .cnd q w g y, k => fSV y fun y => k (.cnd q w g y)
  | .agg cs, k => fLi cs fun cs => k (.agg cs)
  | .tup cs, k => fLi cs fun cs => k (.tup cs)
  | s, k => k s
theorem fSV_eq {α : Sort _} : ∀ (s : SV) (k : SV → α), fSV s k = k s
  | .d x, k => by unfold fSV; exact fD_eq _ _
  | .cnd q w g y, k => by unfold fSV; exact fSV_eq y _
  | .agg cs, k => by unfold fSV; exact fLi_eq _ _
  | .tup cs, k => by unfold fSV; exact fLi_eq _ _
  | .bx _ _, k => rfl
  | .os _, k => rfl
  | .sub _ _ _ _, k => rfl
  | .op _ _ _ _, k => rfl
  | .fn _ _, k => rfl
  | .tp, k => rfl
  | .un, k => rfl
  | .ns _, k => rfl
  | .np _ _ _ _, k => rfl
  | .inn _ _, k => rfl
  | .ip _ _ _ _ _, k => rfl
def fSl {α : Sort _} : List (Nat × SV) → (List (Nat × SV) → α) → α
  | [], k => k []
  | (x, v) :: r, k => fSV v fun v => k ((x, v) :: r)
theorem fSl_eq {α : Sort _} (l : List (Nat × SV)) (k : List (Nat × SV) → α) : fSl l k = k l := by
  cases l with
  | nil => rfl
  | cons p r => obtain ⟨x, v⟩ := p; exact fSV_eq _ _
def fSt {α : Sort _} : St → (St → α) → α
  | ⟨sl, ⟨ob, nx, tp⟩, n, gs, gd⟩, k => fSl sl fun sl => fPr ob fun ob => fLi gs fun gs => fLi gd fun gd => k ⟨sl, ⟨ob, nx, tp⟩, n, gs, gd⟩
theorem fSt_eq {α : Sort _} (st : St) (k : St → α) : fSt st k = k st := by
  obtain ⟨sl, ⟨ob, nx, tp⟩, n, gs, gd⟩ := st
  show (fSl sl fun sl => fPr ob fun ob => fLi gs fun gs => fLi gd fun gd => k ⟨sl, ⟨ob, nx, tp⟩, n, gs, gd⟩) = _
  rw [fSl_eq, fPr_eq, fLi_eq, fLi_eq]
def fAr {α : Sort _} : Array Bool → (Array Bool → α) → α
  | ⟨l⟩, k => fBs l fun l => k ⟨l⟩
theorem fAr_eq {α : Sort _} (L : Array Bool) (k : Array Bool → α) : fAr L k = k L := by
  obtain ⟨l⟩ := L
  exact fBs_eq _ _
def fRes {α : Sort _} : PRes → (PRes → α) → α
  | ⟨ps, fs, r⟩, k => fLi ps fun ps => fLi fs fun fs => fSV r fun r => k ⟨ps, fs, r⟩
theorem fRes_eq {α : Sort _} (R : PRes) (k : PRes → α) : fRes R k = k R := by
  obtain ⟨ps, fs, r⟩ := R
  show (fLi ps fun ps => fLi fs fun fs => fSV r fun r => k ⟨ps, fs, r⟩) = _
  rw [fLi_eq, fLi_eq, fSV_eq]
theorem WF.lenS {t ty : TypeId} {e : TypeId} (he : elemOf P t = some e) (u : Value) : WF P (Builtin.len_ #[t] ty #[u]) := by
  obtain ⟨inf, hu', _⟩ := elemOf_spec he
  intro w v w1 h
  have key : ∀ w', (Builtin.len_ #[t] ty #[u]).run P w' = match u with | .slice _ n _ => .ok (goInt n) w' | _ => (Builtin.len_ #[t] ty #[u]).run P w' := fun w' => by
    cases u <;> first | rfl | simp [Builtin.len_, run_underlying hu']
  cases u with
  | slice a n c =>
    have e1 := key w
    simp only at e1
    rw [e1] at h
    injection h with h1 h2
    subst h1 h2
    exact ⟨rfl, fun w' => key w'⟩
  | _ => simp [Builtin.len_, run_underlying hu'] at h

/-- Lengths of slices are known ahead, too. -/
def lenOp (P : Program) (o : Oper) : Bool := match isLen o.op with
  | some (t, _) => (elemOf P t).isSome
  | none => false
theorem lenOp_ok {o : Oper} (h : lenOp P o = true) (ev : Operand → Value) : ∃ s, execOp ev o = valS s ∧ WF P s := by
  unfold lenOp at h
  split at h
  · rename_i t x hl
    obtain ⟨e, he'⟩ := Option.isSome_iff_exists.1 h
    have hc := isLen_spec hl
    exact ⟨Builtin.len_ #[t] o.type #[ev x], by simp [execOp, hc, resolve, invoke, builtin, valS], WF.lenS he' _⟩
  · cases h
def flKL (P : Program) (m : Mem) (pr : List Nat) (ρ : Operand → SV) (o : Oper) : Option (List Prop × Bool) := bif lenOp P o then some ([], false) else flK P m pr ρ o
theorem flKL_ok {m : Mem} {pr : List Nat} {ρ : Operand → SV} {o : Oper} {ps : List Prop} {lk : Bool} (h : flKL P m pr ρ o = some (ps, lk)) {R : PRes} (hp : popS P m ρ o = some R) {a : Act} {w : World} {c : Cx} (hr : RelsC m ρ a w c) (h1 : allL ps) (h2 : allL R.ps) :
    ∃ v, SRel c w R.r v ∧ R.r.inU m.U ∧ allL R.fs ∧ ∀ w', (lk = true → Looks c m.ob pr w w') → (execOp a.eval o).run P w' = .ok (.value v) w' := by
  unfold flKL at h
  cases hw : lenOp P o with
  | true =>
    obtain ⟨v, k1, k2, k3, k4⟩ := popS_run hp hr h2
    obtain ⟨s, e1, e2⟩ := lenOp_ok hw a.eval
    refine ⟨v, k2, k3, k4, fun w' _ => ?_⟩
    rw [e1] at k1 ⊢
    have hv : WF P (valS s) := WF.bind e2 fun _ => .pure _
    exact (hv w _ _ k1).2 w'
  | false => rw [hw] at h; exact flK_ok h hp hr h1 h2
/-- An operation that is done ahead. -/
def fstepL (P : Program) (pr : List Nat) (all : Array Oper) (o : Oper) (st : St) : Option (Bool × ((St → Prop) → Prop)) :=
  match o.guard with
  | none => match popS P st.ms.mem st.ev o, flKL P st.ms.mem pr st.ev o with
    | some R, some (ps, lk) => bif dstOK st o.dst then some (lk, fun K => andL ps (andL R.ps (impL R.fs (K (st.set o.dst R.r st.ms))))) else none
    | _, _ => none
  | some (j, want) => match (all[j]?).bind (·.dst), o.dst with
    | some q, some d => match guardG want (look st.sl q) with
      | some G => bif dstOK st (some d) && !(Nat.beq q d) && Nat.blt q st.n then match popS P st.ms.mem (fun x => stripS q want (st.ev x)) o, flKL P st.ms.mem pr (fun x => stripS q want (st.ev x)) o with
          | some R, some (ps, lk) => bif R.r.lowN st.ms.nx then some (lk, fun K => andL (ps.map (G = true → ·)) (andL (R.ps.map (G = true → ·)) (impL (R.fs.map (G = true → ·)) (K (st.setG d q want G R.r))))) else none
          | _, _ => none
        else none
      | none => none
    | _, _ => none
theorem fstepL_ok {pr : List Nat} {all : Array Oper} {o : Oper} {st : St} {lk : Bool} {T : (St → Prop) → Prop} (h : fstepL P pr all o st = some (lk, T)) {K : St → Prop} (hT : T K) {a : Act} {w : World} {c : Cx} (hr : RX st a w c) :
    ∃ v st', YieldsIf P all (fun w' => lk = true → Looks c st.ms.obs pr w w') o v a ∧ RX st' (a.put o.dst v) w c ∧ st'.ms = st.ms ∧ Fr st st' ∧ K st' := by
  unfold fstepL at h
  split at h
  · rename_i hg
    split at h
    · rename_i R ps lk' hp hf
      cases hd : dstOK st o.dst with
      | false => rw [hd] at h; cases h
      | true =>
        rw [hd] at h
        simp only [cond_true, Option.some.injEq, Prod.mk.injEq] at h
        obtain ⟨rfl, rfl⟩ := h
        obtain ⟨t1, hT⟩ := andL_spec hT
        obtain ⟨t2, hT⟩ := andL_spec hT
        obtain ⟨v, k1, k2, k3, k4⟩ := flKL_ok hf hp hr.rels t1 t2
        exact ⟨v, _, .inl ⟨by simp [Region.wanted, hg], k4⟩, hr.set .refl hr.ox hd k1 k2, by cases o.dst <;> rfl, .set (.refl _), impL_spec hT k3⟩
    · cases h
  · rename_i j want hg
    split at h
    · rename_i q d hq hdst
      split at h
      · rename_i G hG
        cases hb : (dstOK st (some d) && !(Nat.beq q d) && Nat.blt q st.n) with
        | false => rw [hb] at h; cases h
        | true =>
          rw [hb] at h
          simp only [Bool.and_eq_true, Bool.not_eq_true'] at hb
          obtain ⟨⟨b1, b2⟩, b3⟩ := hb
          have hqd : q ≠ d := fun e => by rw [e] at b2; simp at b2
          have hlt : q < st.n := Nat.le_of_ble_eq_true b3
          simp only [cond_true] at h
          split at h
          · rename_i R ps lk' hp hf
            cases hl : R.r.lowN st.ms.nx with
            | false => rw [hl] at h; cases h
            | true =>
              rw [hl] at h
              simp only [cond_true, Option.some.injEq, Prod.mk.injEq] at h
              obtain ⟨rfl, rfl⟩ := h
              obtain ⟨t1, hT⟩ := andL_spec hT
              obtain ⟨t2, hT⟩ := andL_spec hT
              have hwt : Region.wanted o (yielded all a.tmps) = G := wanted_of hg hq hlt hr hG
              rw [hdst]
              cases hGv : G with
              | true =>
                obtain ⟨v, k1, k2, k3, k4⟩ := flKL_ok hf hp (stripS_rel hr hlt hG hGv) (andL_map hGv t1) (andL_map hGv t2)
                refine ⟨v, st.setG d q want true R.r, .inl ⟨by rw [hwt, hGv], k4⟩, hr.setG .refl hr.ox b1 hqd (by rw [hG, hGv]) (fun _ => k1) (fun e => by cases e) k2, rfl, .setG, ?_⟩
                have := impL_spec hT (allL_map fun _ => k3)
                rw [hGv] at this; exact this
              | false =>
                refine ⟨undef, st.setG d q want false R.r, .inr ⟨by rw [hwt, hGv], rfl⟩, hr.setG .refl hr.ox b1 hqd (by rw [hG, hGv]) (fun e => by cases e) (fun _ => rfl) (SV.lowN_inU _ hl), rfl, .setG, ?_⟩
                have := impL_spec hT (allL_map fun e => by rw [hGv] at e; cases e)
                rw [hGv] at this; exact this
          · cases h
      · cases h
    · cases h
/-- An operation that is done ahead. -/
def fstepF (P : Program) (pr : List Nat) (all : Array Oper) (o : Oper) (st : St) : Option (Bool × ((St → Prop) → Prop)) :=
  match o.guard with
  | none => match popS P st.ms.mem st.ev o, flKL P st.ms.mem pr st.ev o with
    | some R, some (ps, lk) => bif dstOK st o.dst then some (lk, fun K => fRes R fun R => fLi ps fun ps => andL ps (andL R.ps (impL R.fs (K (st.set o.dst R.r st.ms))))) else none
    | _, _ => none
  | some (j, want) => match (all[j]?).bind (·.dst), o.dst with
    | some q, some d => match guardG want (look st.sl q) with
      | some G => bif dstOK st (some d) && !(Nat.beq q d) && Nat.blt q st.n then match popS P st.ms.mem (fun x => stripS q want (st.ev x)) o, flKL P st.ms.mem pr (fun x => stripS q want (st.ev x)) o with
          | some R, some (ps, lk) => bif R.r.lowN st.ms.nx then some (lk, fun K => fRes R fun R => fLi ps fun ps => andL (ps.map (G = true → ·)) (andL (R.ps.map (G = true → ·)) (impL (R.fs.map (G = true → ·)) (K (st.setG d q want G R.r))))) else none
          | _, _ => none
        else none
      | none => none
    | _, _ => none
theorem fstepF_eq : fstepF P = fstepL P := by
  funext pr all o st
  unfold fstepF fstepL
  simp only [fRes_eq, fLi_eq]
def devalF (fs : Nat → FS) (ao : AO) (all : Array Oper) (prL : Nat → List Nat) : Nat → Array Bool → Bool → St → (St → Prop) → Prop
  | 0, L, fr, st, K => match Region.ready .any all L with
    | [] => K st.endR
    | _ => False
  | n + 1, L, fr, st, K => fLi (Region.ready .any all L) fun rs => match rs with
    | [] => K st.endR
    | a :: b => match pickF fs all L fr st (a :: b) with
      | some (i, o, T) => T fun st' => fSt st' fun st' => fAr (L.setIfInBounds i true) fun L' => devalF fs ao all prL n L' fr st' K
      | none => conjL (a :: b) fun i => match all[i]? with
        | some o => fLi (prX all prL o i) fun X => bif ownAt st.ms.obs X then fLi (softL st.ms.obs X) fun Y => ao i o (st.ban Y) fun st1 => match unban Y st st1 with
            | some st' => bif (news st.ms st'.ms).all (fun p => !(has X p.1)) then fSt st' fun st' => fAr (L.setIfInBounds i true) fun L' => devalF fs ao all prL n L' false st' K else False
            | none => False
          else False
        | none => False
theorem devalF_eq {fs : Nat → FS} {ao : AO} {all : Array Oper} {prL : Nat → List Nat} : ∀ (n : Nat) (L : Array Bool) (fr : Bool) (st : St) (K : St → Prop), devalF fs ao all prL n L fr st K = deval fs ao all prL n L fr st K
  | 0, L, fr, st, K => rfl
  | n + 1, L, fr, st, K => by
    unfold devalF deval
    rw [fLi_eq]
    split
    · rename_i h; simp only [h]
    · rename_i a b h
      simp only [h]
      split
      · rename_i i o T hp
        try rw [hp]
        simp only [fSt_eq, fAr_eq, devalF_eq n]
      · rename_i hp
        try rw [hp]
        simp only [fSt_eq, fAr_eq, fLi_eq, devalF_eq n]
        try rfl
def drawL (P : Program) (τ : TypeId → Option Ty) : DR := fun id cp ops st K =>
  bif P.follows .mixedOrders && Region.noSelect ops then deval (fun i => fstepL P (prOf (scanQ P st.ms st.n ops.toList 0 st.sl) i) ops) (fun i o => aop1 P τ (cp i) ops o) ops (prOf (scanQ P st.ms st.n ops.toList 0 st.sl)) ops.size (Array.replicate ops.size false) true st K else False
theorem drawL_ok (τ : TypeId → Option Ty) : DrOK P (drawL P τ) := by
  intro id cp ops st K hcp h a w c hr
  unfold drawL at h
  cases hb : (P.follows .mixedOrders && Region.noSelect ops) with
  | false => rw [hb] at h; exact h.elim
  | true =>
    rw [hb] at h
    obtain ⟨b1, b2⟩ := Bool.and_eq_true_iff.1 hb
    obtain ⟨hr1, t1⟩ := hr.drew
    let Qx : Exit → Act → World → Prop := fun e a' w' => e = .normal ∧ ∃ st' c', Step st a w c st' a' w' c' ∧ K st'
    refine wp_mono (Q := Qx) ?_ (fun e a' w' ⟨he, st', c', k1, k2⟩ => ⟨st', c', k1, he, k2⟩)
    refine wp_region_any b1 (wpAny_of_T _ _ _ _ (deval_ok (fs := fun i => fstepL P (prOf (scanQ P st.ms st.n ops.toList 0 st.sl) i) ops) (ao := fun i o => aop1 P τ (cp i) ops o) (prL := prOf (scanQ P st.ms st.n ops.toList 0 st.sl)) (fun h _ hT _ _ _ hr => fstepL_ok h hT hr) (fun ho _ _ h _ _ _ hr _ _ hQ => aop1_ok (hcp _) ho h hr hQ) b2 hr1 _ _ _ _ _ .start h _ _ _ hr1 (fun _ => ⟨rfl, rfl, rfl⟩) .refl Qx (fun ch a w hh => by cases hh.1) fun st' a' w' c' hs hk => ⟨rfl, st', c', Step.trans ⟨hr1, t1, rfl, .refl _⟩ hs, hk⟩))
def drawF (P : Program) (τ : TypeId → Option Ty) : DR := fun id cp ops st K =>
  bif P.follows .mixedOrders && Region.noSelect ops then fPr (scanQ P st.ms st.n ops.toList 0 st.sl) fun tb => fSt st fun st => devalF (fun i => fstepF P (prOf tb i) ops) (fun i o => aop1 P τ (cp i) ops o) ops (prOf tb) ops.size (Array.replicate ops.size false) true st K else False
theorem drawF_eq (τ : TypeId → Option Ty) : drawF P τ = drawL P τ := by
  funext id cp ops st K
  unfold drawF drawL
  rw [fPr_eq, fSt_eq, devalF_eq, fstepF_eq]
theorem drawF_ok (τ : TypeId → Option Ty) : DrOK P (drawF P τ) := by
  rw [drawF_eq]
  exact drawL_ok τ
end RE
end Go.Proofs.YtpeggkeenboacaaGreat
set_option maxRecDepth 100000
set_option linter.unusedVariables false
namespace Go.Proofs.YtpeggkeenboacaaGreat
open Go.RowKit
namespace RE
open PL

theorem IFB.yes {c : Bool} {A B : Prop} (hc : c = true) (h : A) : IFB c A B := IFB.mk (fun _ => h) (fun e => by rw [hc] at e; cases e)
theorem IFB.no {c : Bool} {A B : Prop} (hc : c = false) (h : B) : IFB c A B := IFB.mk (fun e => by rw [hc] at e; cases e) (fun _ => h)
/-- A loop from s to n that ends early or sees that all are right. -/
theorem loopFrom {n s : Nat} (hn : n ≤ 1000000000) (hs : s ≤ n) {A : Prop} {B : (Int → Prop) → Int → Prop} {K : Prop} {p : Nat → Prop} (hB : A → ∀ (rec : Int → Prop) (k : Nat), s ≤ k → k < n → (∀ j, s ≤ j → j < k → p j) → (p k → rec (IntKind.i64.wrap ((k : Int) + 1))) → B rec (k : Int)) (hK : (∀ j, s ≤ j → j < n → p j) → K) :
    LOOP [Ty.int IntKind.i64] (fun (rec : Int → Prop) (z : Int) => A → IFB (decide (z < (n : Int))) (B rec z) K) ((s : Int), PUnit.unit) := by
  refine LOOP.fuel (fun u => ∃ k : Nat, u.1 = (k : Int) ∧ s ≤ k ∧ k ≤ n ∧ ∀ j, s ≤ j → j < k → p j) (fun u => n - Int.toNat u.1) ⟨s, rfl, Nat.le_refl _, hs, fun j hj => by omega⟩ ?_
  rintro rec ⟨(z : Int), ⟨⟩⟩ ⟨k, hz, hsk, hk, hp⟩ hrec hA
  have hz : z = (k : Int) := hz
  subst hz
  refine IFB.mk (fun hb => ?_) (fun hb => hK fun j hj1 hj => hp j hj1 (by have := of_decide_eq_false hb; omega))
  have hb : (k : Int) < n := of_decide_eq_true hb
  refine hB hA rec k hsk (by omega) hp fun hpk => ?_
  rw [wrapS (by omega)]
  refine hrec (((k + 1 : Nat) : Int), ()) ⟨k + 1, rfl, by omega, by omega, fun j hj1 hj => ?_⟩ (by show n - ((k + 1 : Nat) : Int).toNat < n - (k : Int).toNat; omega)
  by_cases h : j = k
  · rw [h]; exact hpk
  · exact hp j hj1 (by omega)
theorem LOOP.fuel2 {t1 t2 : Ty} {F : (den t1 → den t2 → Prop) → den t1 → den t2 → Prop} {v1 : den t1} {v2 : den t2} (I : den t1 → den t2 → Prop) (μ : den t1 → den t2 → Nat) (h0 : I v1 v2)
    (h : ∀ (rec : den t1 → den t2 → Prop) (z1 : den t1) (z2 : den t2), I z1 z2 → (∀ y1 y2, I y1 y2 → μ y1 y2 < μ z1 z2 → rec y1 y2) → F rec z1 z2) : LOOP [t1, t2] F (v1, v2, PUnit.unit) :=
  LOOP.fuel (fun u => I u.1 u.2.1) (fun u => μ u.1 u.2.1) h0 fun rec u hI hrec => h rec u.1 u.2.1 hI fun y1 y2 hy hm => hrec (y1, y2, PUnit.unit) hy hm
theorem LOOP.fuel3 {t1 t2 t3 : Ty} {F : (den t1 → den t2 → den t3 → Prop) → den t1 → den t2 → den t3 → Prop} {v1 : den t1} {v2 : den t2} {v3 : den t3} (I : den t1 → den t2 → den t3 → Prop) (μ : den t1 → den t2 → den t3 → Nat) (h0 : I v1 v2 v3)
    (h : ∀ (rec : den t1 → den t2 → den t3 → Prop) (z1 : den t1) (z2 : den t2) (z3 : den t3), I z1 z2 z3 → (∀ y1 y2 y3, I y1 y2 y3 → μ y1 y2 y3 < μ z1 z2 z3 → rec y1 y2 y3) → F rec z1 z2 z3) : LOOP [t1, t2, t3] F (v1, v2, v3, PUnit.unit) :=
  LOOP.fuel (fun u => I u.1 u.2.1 u.2.2.1) (fun u => μ u.1 u.2.1 u.2.2.1) h0 fun rec u hI hrec => h rec u.1 u.2.1 u.2.2.1 hI fun y1 y2 y3 hy hm => hrec (y1, y2, y3, PUnit.unit) hy hm
theorem wrapP {k : Nat} (h : k ≤ 1000000000) (h1 : 1 ≤ k) : IntKind.i64.wrap ((k : Int) - 1) = ((k - 1 : Nat) : Int) := by
  rw [wrap_in (by omega) (by omega)]; omega

def pclI_P (l : List (Int)) (post : List (Int) → Prop) : Prop := (l.length ≤ 4000000) ∧ post (l)
def pclI_sp : Spec := ⟨100, false, false, [.sl (.int .i64)], .own 3 (.int .i64), fun x post => pclI_P (x.1 : List (Int)) (fun y0 => post (y0, ()))⟩
def pclI_C : CtxR := ⟨tau, [], lookJ []⟩
def pclI_W (l : List (Int)) (post : List (Int) → Prop) : Prop := ∀ (v1 : Bool), (v1 = true → l = []) → IFB v1 (post []) (((0 : Nat) + l.length) * (8 : Nat) ≤ (140737488355328 : Nat) ∧ post ([] ++ l))
theorem pclI_w (l : List (Int)) (post : dens (shT pclI_sp.rs []) → Prop) : pclI_W l (fun y0 => post (y0, ())) = walkG (callR Tryz.prog pclI_C (drawR Tryz.prog tau) 8 0) 100 false [tv (.sl (.int .i64)) l] pclI_sp.rs post := by kernel_rfl
theorem pclI_of (h : ∀ (l : List (Int)) (post : List (Int) → Prop), pclI_P l post → pclI_W l post) : SpecOK Tryz.prog pclI_sp := SpecOK.of_rules (C := pclI_C) (dr := drawR Tryz.prog tau) (n := 8) (fk := 0) .nil (drawR_ok tau) fun x post hp => HoldW.of (pclI_w x.1 post) (h x.1 (fun y0 => post (y0, ())) hp)
theorem pclI_ok : SpecOK Tryz.prog pclI_sp := pclI_of fun l post hp => by
  obtain ⟨hl, hp⟩ := hp
  unfold pclI_W
  refine fun v hv => IFB.mk (fun h => ?_) (fun _ => ⟨by omega, ?_⟩)
  · rw [hv h] at hp; exact hp
  · rw [List.nil_append]; exact hp

def pasc_P (l : List (Int)) (post : Bool → Prop) : Prop := (l.length ≤ 1000000000) ∧ ∀ q : Bool, (q = true ↔ asc l) → post q
def pasc_sp : Spec := ⟨135, false, false, [.sl (.int .i64)], .dat (.bool), fun x post => pasc_P (x.1 : List (Int)) (fun y0 => post (y0, ()))⟩
def pasc_C : CtxR := ⟨tau, [], lookJ [(0, 5, ⟨[(3, .dat (.int .i64))], [], [4, 5, 6, 7, 10, 11, 12, 13, 14, 15, 16, 17, 18, 19, 8, 9], [], []⟩)]⟩
def pasc_W (l : List (Int)) (post : Bool → Prop) : Prop := LOOP [Ty.int IntKind.i64] (fun (rec1 : Int → Prop) (z2 : Int) ↦ (↑l.length : Int) ≤ (9223372036854775807 : Int) → IFB (decide (z2 < (↑l.length : Int))) (((0 : Int) ≤ z2 ∧ z2 < (↑l.length : Int)) ∧ ((0 : Int) ≤ IntKind.i64.wrap (z2 - (1 : Int)) ∧ IntKind.i64.wrap (z2 - (1 : Int)) < (↑l.length : Int)) ∧ IFB (decide (ix l z2 ≤ ix l (IntKind.i64.wrap (z2 - (1 : Int))))) (post false) (rec1 (IntKind.i64.wrap (z2 + (1 : Int))))) (post true)) ((1 : Int), PUnit.unit)
theorem pasc_w (l : List (Int)) (post : dens (shT pasc_sp.rs []) → Prop) : pasc_W l (fun y0 => post (y0, ())) = walkG (callR Tryz.prog pasc_C (drawR Tryz.prog tau) 8 0) 135 false [tv (.sl (.int .i64)) l] pasc_sp.rs post := by kernel_rfl
theorem pasc_of (h : ∀ (l : List (Int)) (post : Bool → Prop), pasc_P l post → pasc_W l post) : SpecOK Tryz.prog pasc_sp := SpecOK.of_rules (C := pasc_C) (dr := drawR Tryz.prog tau) (n := 8) (fk := 0) .nil (drawR_ok tau) fun x post hp => HoldW.of (pasc_w x.1 post) (h x.1 (fun y0 => post (y0, ())) hp)
theorem pasc_ok : SpecOK Tryz.prog pasc_sp := pasc_of fun l post hp => by
  obtain ⟨hl, hp⟩ := hp
  unfold pasc_W
  by_cases h0 : l.length = 0
  · refine LOOP.fuel (fun u => (u.1 : Int) = (1 : Int)) (fun u => 0) rfl ?_
    rintro rec ⟨(z : Int), ⟨⟩⟩ hz hrec _
    have hz : z = 1 := hz
    subst hz
    refine IFB.no (by rw [h0]; rfl) (hp true ⟨fun _ i hi => by omega, fun _ => rfl⟩)
  · refine loopFrom (n := l.length) (s := 1) hl (by omega) (p := fun j => ix l ((j - 1 : Nat) : Int) < ix l (j : Int)) (fun hA rec k h1 hk hall hrec => ?_) fun hall => hp true ⟨fun _ i hi => hall (i + 1) (by omega) hi, fun _ => rfl⟩
    rw [wrapP (by omega) h1]
    refine ⟨⟨by omega, by omega⟩, ⟨by omega, by omega⟩, IFB.mk (fun hb => hp false ⟨fun h => (by cases h), fun h => ?_⟩) (fun hb => hrec (by have := of_decide_eq_false hb; omega))⟩
    have hb : ix l (k : Int) ≤ ix l ((k - 1 : Nat) : Int) := of_decide_eq_true hb
    have := h (k - 1) (by omega)
    rw [show k - 1 + 1 = k by omega] at this
    omega

def pmts_P (a : api_Region) (b : api_Region) (post : Bool → Prop) : Prop := ∀ q : Bool, (q = true ↔ meetP a.1 b.1) → post q
def pmts_sp : Spec := ⟨142, false, false, [.st .api_Region, .st .api_Region], .dat (.bool), fun x post => pmts_P (x.1 : api_Region) (x.2.1 : api_Region) (fun y0 => post (y0, ()))⟩
def pmts_C : CtxR := ⟨tau, [rule1 pval_sp], lookJ [(1075800136, 0, ⟨[(0, .dat (.int .i64))], [], [], [], []⟩), (1075800136, 5, ⟨[(8, .dat (.int .i64))], [], [9, 10, 5, 11, 12, 13, 14, 15, 16, 18], [], []⟩), (1218669795535893868816298795, 0, ⟨[(0, .dat (.int .i64))], [], [], [], []⟩), (1218669795535893868816298795, 5, ⟨[(8, .dat (.int .i64))], [], [9, 10, 5, 11, 12, 13, 14, 15, 16, 18], [], []⟩)]⟩
def pmts_W (a : api_Region) (b : api_Region) (post : Bool → Prop) : Prop := ∀ (v1 : Bool), (v1 = true ↔ validP a.1) → JOIN [Ty.bool] (fun (y2 : Bool) ↦ JOIN [Ty.bool] (fun (y3 : Bool) ↦ post (v1 && y2 && y3)) fun (J4 : Bool → Prop) ↦ IFB (gx true (v1 && y2)) (JOIN [Ty.int IntKind.i64] (fun (y5 : Int) ↦ J4 (decide ((0 : Int) ≤ y5))) fun (J6 : Int → Prop) ↦ (↑a.1.length : Int) ≤ (9223372036854775807 : Int) → LOOP [Ty.int IntKind.i64] (fun (rec7 : Int → Prop) (z8 : Int) ↦ IFB (decide (z8 < (↑a.1.length : Int))) (((0 : Int) ≤ z8 ∧ z8 < (↑a.1.length : Int)) ∧ JOIN [Ty.int IntKind.i64] (fun (y9 : Int) ↦ IFB (decide ((0 : Int) ≤ y9)) (J6 z8) (rec7 (IntKind.i64.wrap (z8 + (1 : Int))))) fun (J10 : Int → Prop) ↦ (↑b.1.length : Int) ≤ (9223372036854775807 : Int) → LOOP [Ty.int IntKind.i64] (fun (rec11 : Int → Prop) (z12 : Int) ↦ IFB (decide (z12 < (↑b.1.length : Int))) (((0 : Int) ≤ z12 ∧ z12 < (↑b.1.length : Int)) ∧ IFB (decide ((ix a.1 z8).1 < (ix b.1 z12).3) && decide ((ix b.1 z12).1 < (ix a.1 z8).3) && decide ((ix a.1 z8).2 < (ix b.1 z12).4) && decide ((ix b.1 z12).2 < (ix a.1 z8).4)) (J10 z12) (rec11 (IntKind.i64.wrap (z12 + (1 : Int))))) (J10 (-1 : Int))) ((0 : Int), PUnit.unit)) (J6 (-1 : Int))) ((0 : Int), PUnit.unit)) (J4 false)) fun (J13 : Bool → Prop) ↦ IFB (gx true v1) (∀ (v14 : Bool), (v14 = true ↔ validP b.1) → J13 v14) (J13 false)
theorem pmts_w (a : api_Region) (b : api_Region) (post : dens (shT pmts_sp.rs []) → Prop) : pmts_W a b (fun y0 => post (y0, ())) = walkG (callR Tryz.prog pmts_C (drawF Tryz.prog tau) 8 0) 142 false [tv (.st .api_Region) a, tv (.st .api_Region) b] pmts_sp.rs post := by kernel_rfl
theorem pmts_of (h : ∀ (a : api_Region) (b : api_Region) (post : Bool → Prop), pmts_P a b post → pmts_W a b post) : SpecOK Tryz.prog pmts_sp := SpecOK.of_rules (C := pmts_C) (dr := drawF Tryz.prog tau) (n := 8) (fk := 0) (.cons (rule1_ok pval_ok) .nil) (drawF_ok tau) fun x post hp => HoldW.of (pmts_w x.1 x.2.1 post) (h x.1 x.2.1 (fun y0 => post (y0, ())) hp)
/-- Rectangles that overlap have a square in common. -/
theorem over_iff {a b : List Rc} (ha : ∀ r ∈ a, proper r) (hb : ∀ r ∈ b, proper r) : (∃ x y, cov a x y = true ∧ cov b x y = true) ↔ ∃ r ∈ a, ∃ s ∈ b, r.1 < s.3 ∧ s.1 < r.3 ∧ r.2 < s.4 ∧ s.2 < r.4 := by
  constructor
  · rintro ⟨x, y, h1, h2⟩
    obtain ⟨r, hr, p1, p2, p3, p4⟩ := cov_iff.1 h1
    obtain ⟨s, hs, q1, q2, q3, q4⟩ := cov_iff.1 h2
    exact ⟨r, hr, s, hs, by omega, by omega, by omega, by omega⟩
  · rintro ⟨r, hr, s, hs, h1, h2, h3, h4⟩
    obtain ⟨p1, p2, p3, p4, p5, p6⟩ := ha r hr
    obtain ⟨q1, q2, q3, q4, q5, q6⟩ := hb s hs
    exact ⟨max r.1 s.1, max r.2 s.2, cov_iff.2 ⟨r, hr, by omega, by omega, by omega, by omega⟩, cov_iff.2 ⟨s, hs, by omega, by omega, by omega, by omega⟩⟩
theorem ix_ex {α : Type} [Inhabited α] {l : List α} {x : α} (h : x ∈ l) : ∃ k : Nat, k < l.length ∧ ix l (k : Int) = x := by
  obtain ⟨k, hk, e⟩ := List.getElem_of_mem h
  exact ⟨k, hk, by rw [ix_lt hk]; exact e⟩
theorem pmts_ok : SpecOK Tryz.prog pmts_sp := pmts_of fun a b post hp => by
  unfold pmts_W
  intro v1 h1
  refine JOIN.opq fun (J : Bool → Prop) hJ => ?_
  have fin : ∀ y : Bool, (y = true ↔ validP b.1) → v1 = true → J y := fun y hy hv => by
    rw [hJ]
    refine JOIN.opq fun (J4 : Bool → Prop) hJ4 => ?_
    have hva := h1.1 hv
    refine IFB.mk (fun hg => ?_) (fun hg => ?_)
    · have hy1 : y = true := by rw [hv, Bool.true_and, gx_t] at hg; exact hg
      have hvb := hy.1 hy1
      have hla : a.1.length ≤ 120 := hva.1
      have hlb : b.1.length ≤ 120 := hvb.1
      refine JOIN.opq fun (J6 : Int → Prop) hJ6 _ => ?_
      have e6 : ∀ z : Int, J6 z = post (decide (0 ≤ z)) := fun z => by rw [hJ6, hJ4, hv, hy1]; rfl
      have yes : ∀ {i j : Nat}, i < a.1.length → j < b.1.length → (ix a.1 (i : Int)).1 < (ix b.1 (j : Int)).3 ∧ (ix b.1 (j : Int)).1 < (ix a.1 (i : Int)).3 ∧ (ix a.1 (i : Int)).2 < (ix b.1 (j : Int)).4 ∧ (ix b.1 (j : Int)).2 < (ix a.1 (i : Int)).4 → J6 (i : Int) := fun hi hj h => by
        rw [e6]
        refine hp _ ⟨fun _ => ⟨hva, hvb, (over_iff hva.2.1 hvb.2.1).2 ⟨_, ix_mem (by omega) (by omega), _, ix_mem (by omega) (by omega), h⟩⟩, fun _ => decide_eq_true (by omega)⟩
      refine loopCmp (n := a.1.length) (by omega) (p := fun i => ∀ j : Nat, j < b.1.length → ¬ ((ix a.1 (i : Int)).1 < (ix b.1 (j : Int)).3 ∧ (ix b.1 (j : Int)).1 < (ix a.1 (i : Int)).3 ∧ (ix a.1 (i : Int)).2 < (ix b.1 (j : Int)).4 ∧ (ix b.1 (j : Int)).2 < (ix a.1 (i : Int)).4)) (fun rec k hk _ hrec => ⟨by omega, ?_⟩) fun hall => ?_
      · refine JOIN.opq fun (J10 : Int → Prop) hJ10 _ => ?_
        refine loopCmp (n := b.1.length) (by omega) (p := fun j => ¬ ((ix a.1 (k : Int)).1 < (ix b.1 (j : Int)).3 ∧ (ix b.1 (j : Int)).1 < (ix a.1 (k : Int)).3 ∧ (ix a.1 (k : Int)).2 < (ix b.1 (j : Int)).4 ∧ (ix b.1 (j : Int)).2 < (ix a.1 (k : Int)).4)) (fun rec2 j hj _ hrec2 => ⟨by omega, IFB.mk (fun hc => ?_) (fun hc => hrec2 fun h => ?_)⟩) fun hall => ?_
        · simp only [Bool.and_eq_true, decide_eq_true_eq] at hc
          rw [hJ10]
          exact IFB.yes (decide_eq_true (by omega)) (yes hk hj (by omega))
        · simp only [Bool.and_eq_false_iff, decide_eq_false_iff_not] at hc
          omega
        · rw [hJ10]
          exact IFB.no rfl (hrec hall)
      · rw [e6]
        refine hp _ ⟨fun h => (by cases h), fun h => ?_⟩
        obtain ⟨r, hr, s, hs, h⟩ := (over_iff hva.2.1 hvb.2.1).1 h.2.2
        obtain ⟨i, hi, rfl⟩ := ix_ex hr
        obtain ⟨j, hj, rfl⟩ := ix_ex hs
        exact absurd h (hall i hi j hj)
    · rw [hJ4]
      have hy1 : y = false := by rw [hv, Bool.true_and, gx_t] at hg; exact hg
      rw [hy1, Bool.and_false]
      refine hp _ ⟨fun h => (by cases h), fun h => ?_⟩
      have := hy.2 h.2.1
      rw [hy1] at this; cases this
  refine IFB.mk (fun hg y hy => fin y hy (by rw [gx_t] at hg; exact hg)) (fun hg => ?_)
  have hv : v1 = false := by rw [gx_t] at hg; exact hg
  rw [hJ, hv]
  refine JOIN.opq fun (J4 : Bool → Prop) hJ4 => IFB.no rfl ?_
  rw [hJ4]
  refine hp _ ⟨fun h => (by cases h), fun h => ?_⟩
  have := h1.2 h.1
  rw [hv] at this; cases this

def pprop_P (a : api_Region) (post : Bool → Prop) : Prop := (a.1.length ≤ 1000000000) ∧ ∀ q : Bool, (q = true ↔ propR a) → post q
def pprop_sp : Spec := ⟨138, false, false, [.st .api_Region], .dat (.bool), fun x post => pprop_P (x.1 : api_Region) (fun y0 => post (y0, ()))⟩
def pprop_C : CtxR := ⟨tau, [rule1 pval_sp], lookJ []⟩
def pprop_W (a : api_Region) (post : Bool → Prop) : Prop := (↑a.1.length : Int) ≤ (9223372036854775807 : Int) → JOIN [Ty.bool] (fun (y1 : Bool) ↦ post (decide ((0 : Int) < (↑a.1.length : Int)) && y1)) fun (J2 : Bool → Prop) ↦ IFB (gx true (decide ((0 : Int) < (↑a.1.length : Int)))) (∀ (v3 : Bool), (v3 = true ↔ validP a.1) → J2 v3) (J2 false)
theorem pprop_w (a : api_Region) (post : dens (shT pprop_sp.rs []) → Prop) : pprop_W a (fun y0 => post (y0, ())) = walkG (callR Tryz.prog pprop_C (drawF Tryz.prog tau) 8 0) 138 false [tv (.st .api_Region) a] pprop_sp.rs post := by kernel_rfl
theorem pprop_of (h : ∀ (a : api_Region) (post : Bool → Prop), pprop_P a post → pprop_W a post) : SpecOK Tryz.prog pprop_sp := SpecOK.of_rules (C := pprop_C) (dr := drawF Tryz.prog tau) (n := 8) (fk := 0) (.cons (rule1_ok pval_ok) .nil) (drawF_ok tau) fun x post hp => HoldW.of (pprop_w x.1 post) (h x.1 (fun y0 => post (y0, ())) hp)
theorem pprop_ok : SpecOK Tryz.prog pprop_sp := pprop_of fun a post hp => by
  obtain ⟨hl, hp⟩ := hp
  unfold pprop_W
  refine fun _ => JOIN.opq fun (J : Bool → Prop) hJ => IFB.mk (fun hg v hv => ?_) (fun hg => ?_)
  · have hg : 0 < a.1.length := by rw [gx_t] at hg; have := of_decide_eq_true hg; omega
    rw [hJ]
    refine hp _ ?_
    rw [← propR_ne, decide_eq_true (by omega : (0 : Int) < (a.1.length : Int)), Bool.true_and, hv]
    exact ⟨fun h => ⟨hg, h⟩, fun h => h.2⟩
  · have hg : ¬ 0 < a.1.length := by rw [gx_t] at hg; have := of_decide_eq_false hg; omega
    rw [hJ]
    show post (_ && false)
    rw [Bool.and_false]
    refine hp _ ?_
    rw [← propR_ne]
    exact ⟨fun h => (by cases h), fun h => absurd h.1 hg⟩

end RE
end Go.Proofs.YtpeggkeenboacaaGreat
set_option maxRecDepth 100000
set_option linter.unusedVariables false
namespace Go.Proofs.YtpeggkeenboacaaGreat
open Go.RowKit
namespace RE
open PL

namespace PL
/-- Parcels of moderate size. -/
structure szP (p : Pc) : Prop where
  days : p.Days.length ≤ 1000000
  regs : p.Regions.length ≤ 1000000
  pars : p.Parents.length ≤ 1000000
  rect : ∀ a ∈ p.Regions, a.Rects.length ≤ 1000000
structure szL (l : List Pc) : Prop where
  len : l.length ≤ 1000000
  all : ∀ p ∈ l, szP p
end PL

def pends_P (p : api_Parcel) (i : Int) (post : Int → Prop) : Prop := (p.Days.length ≤ 1000000000 ∧ 0 ≤ i ∧ i ≤ 1000000000) ∧ post (endsP p i)
def pends_sp : Spec := ⟨141, false, false, [.st .api_Parcel, .int .i64], .dat (.int .i64), fun x post => pends_P (x.1 : api_Parcel) (x.2.1 : Int) (fun y0 => post (y0, ()))⟩
def pends_C : CtxR := ⟨tau, [], lookJ []⟩
def pends_W (p : api_Parcel) (i : Int) (post : Int → Prop) : Prop := (↑p.5.length : Int) ≤ (9223372036854775807 : Int) → IFB (decide (IntKind.i64.wrap (i + (1 : Int)) < (↑p.5.length : Int))) (((0 : Int) ≤ IntKind.i64.wrap (i + (1 : Int)) ∧ IntKind.i64.wrap (i + (1 : Int)) < (↑p.5.length : Int)) ∧ post (ix p.5 (IntKind.i64.wrap (i + (1 : Int))))) (post p.3)
theorem pends_w (p : api_Parcel) (i : Int) (post : dens (shT pends_sp.rs []) → Prop) : pends_W p i (fun y0 => post (y0, ())) = walkG (callR Tryz.prog pends_C (drawR Tryz.prog tau) 8 0) 141 false [tv (.st .api_Parcel) p, tv (.int .i64) i] pends_sp.rs post := by kernel_rfl
theorem pends_of (h : ∀ (p : api_Parcel) (i : Int) (post : Int → Prop), pends_P p i post → pends_W p i post) : SpecOK Tryz.prog pends_sp := SpecOK.of_rules (C := pends_C) (dr := drawR Tryz.prog tau) (n := 8) (fk := 0) .nil (drawR_ok tau) fun x post hp => HoldW.of (pends_w x.1 x.2.1 post) (h x.1 x.2.1 (fun y0 => post (y0, ())) hp)
theorem pends_ok : SpecOK Tryz.prog pends_sp := pends_of fun p i post hp => by
  obtain ⟨⟨h1, h2, h3⟩, hp⟩ := hp
  unfold pends_W
  rw [wrap_in (by omega) (by omega)]
  unfold endsP at hp
  refine fun _ => IFB.mk (fun hb => ⟨⟨by omega, of_decide_eq_true hb⟩, ?_⟩) (fun hb => ?_)
  · rw [if_pos (of_decide_eq_true hb)] at hp; exact hp
  · rw [if_neg (of_decide_eq_false hb)] at hp; exact hp

def pmt_P (p : api_Parcel) (q : api_Parcel) (post : Bool → Prop) : Prop := (p.Days.length = p.Regions.length ∧ q.Days.length = q.Regions.length ∧ p.Days.length ≤ 1000000 ∧ q.Days.length ≤ 1000000) ∧ ∀ r : Bool, (r = true ↔ meetPc p q) → post r
def pmt_sp : Spec := ⟨67, false, false, [.st .api_Parcel, .st .api_Parcel], .dat (.bool), fun x post => pmt_P (x.1 : api_Parcel) (x.2.1 : api_Parcel) (fun y0 => post (y0, ()))⟩
def pmt_C : CtxR := ⟨tau, [rule1 pmts_sp, rule1 pends_sp], lookJ [(0, 5, ⟨[(12, .dat (.int .i64))], [], [13, 14, 15, 16, 6, 5, 17, 18, 19, 49, 48, 25, 26, 27, 28, 29, 30, 31, 32, 33, 34, 35, 36, 37, 38, 39, 40, 41, 42, 43, 44, 45, 46, 47, 7, 8, 24, 23, 22, 20, 21, 50], [], []⟩), (0, 11, ⟨[(20, .dat (.int .i64))], [], [21, 22, 23, 24, 8, 7, 47, 46, 45, 44, 43, 42, 41, 40, 39, 38, 37, 36, 35, 34, 33, 32, 31, 30, 29, 28, 27, 26, 25, 48, 49], [], []⟩), (0, 1000007, ⟨[(48, .dat .bool)], [], [25, 26, 27, 28, 29, 30, 31, 32, 33, 34, 35, 36, 37, 38, 39, 40, 41, 42, 43, 44, 45, 46, 47], [], []⟩)]⟩
def pmt_W (p : api_Parcel) (q : api_Parcel) (post : Bool → Prop) : Prop := (↑p.6.length : Int) ≤ (9223372036854775807 : Int) → LOOP [Ty.int IntKind.i64] (fun (rec1 : Int → Prop) (z2 : Int) ↦ IFB (decide (z2 < (↑p.6.length : Int))) (((0 : Int) ≤ z2 ∧ z2 < (↑p.6.length : Int)) ∧ ((↑q.6.length : Int) ≤ (9223372036854775807 : Int) → LOOP [Ty.int IntKind.i64] (fun (rec3 : Int → Prop) (z4 : Int) ↦ IFB (decide (z4 < (↑q.6.length : Int))) (((0 : Int) ≤ z4 ∧ z4 < (↑q.6.length : Int)) ∧ JOIN [Ty.bool] (fun (y5 : Bool) ↦ IFB y5 (post true) (rec3 (IntKind.i64.wrap (z4 + (1 : Int))))) fun (J6 : Bool → Prop) ↦ ((0 : Int) ≤ z2 ∧ z2 < (↑p.5.length : Int)) ∧ ((0 : Int) ≤ z4 ∧ z4 < (↑q.5.length : Int)) ∧ (p.5.length ≤ (1000000000 : Nat) ∧ (0 : Int) ≤ z2 ∧ z2 ≤ (1000000000 : Int)) ∧ (q.5.length ≤ (1000000000 : Nat) ∧ (0 : Int) ≤ z4 ∧ z4 ≤ (1000000000 : Int)) ∧ (JOIN [Ty.bool] (fun (y7 : Bool) ↦ J6 (decide (Max.max (ix p.5 z2) (ix q.5 z4) < Min.min (endsP { Number := p.1, From := p.2, Until := p.3, Parents := p.4, Days := p.5, Regions := p.6 : api_Parcel } z2) (endsP { Number := q.1, From := q.2, Until := q.3, Parents := q.4, Days := q.5, Regions := q.6 : api_Parcel } z4)) && y7)) fun (J8 : Bool → Prop) ↦ IFB (gx true (decide (Max.max (ix p.5 z2) (ix q.5 z4) < Min.min (endsP { Number := p.1, From := p.2, Until := p.3, Parents := p.4, Days := p.5, Regions := p.6 : api_Parcel } z2) (endsP { Number := q.1, From := q.2, Until := q.3, Parents := q.4, Days := q.5, Regions := q.6 : api_Parcel } z4)))) (∀ (v9 : Bool), (v9 = true ↔ meetP (ix p.6 z2).1 (ix q.6 z4).1) → J8 v9) (J8 false)) ∧ JOIN [Ty.bool] (fun (y10 : Bool) ↦ J6 (decide (Max.max (ix p.5 z2) (ix q.5 z4) < Min.min (endsP { Number := p.1, From := p.2, Until := p.3, Parents := p.4, Days := p.5, Regions := p.6 : api_Parcel } z2) (endsP { Number := q.1, From := q.2, Until := q.3, Parents := q.4, Days := q.5, Regions := q.6 : api_Parcel } z4)) && y10)) fun (J11 : Bool → Prop) ↦ IFB (gx true (decide (Max.max (ix p.5 z2) (ix q.5 z4) < Min.min (endsP { Number := p.1, From := p.2, Until := p.3, Parents := p.4, Days := p.5, Regions := p.6 : api_Parcel } z2) (endsP { Number := q.1, From := q.2, Until := q.3, Parents := q.4, Days := q.5, Regions := q.6 : api_Parcel } z4)))) (∀ (v12 : Bool), (v12 = true ↔ meetP (ix p.6 z2).1 (ix q.6 z4).1) → J11 v12) (J11 false)) (rec1 (IntKind.i64.wrap (z2 + (1 : Int))))) ((0 : Int), PUnit.unit))) (post false)) ((0 : Int), PUnit.unit)
theorem pmt_w (p : api_Parcel) (q : api_Parcel) (post : dens (shT pmt_sp.rs []) → Prop) : pmt_W p q (fun y0 => post (y0, ())) = walkG (callR Tryz.prog pmt_C (drawF Tryz.prog tau) 8 0) 67 false [tv (.st .api_Parcel) p, tv (.st .api_Parcel) q] pmt_sp.rs post := by kernel_rfl
theorem pmt_of (h : ∀ (p : api_Parcel) (q : api_Parcel) (post : Bool → Prop), pmt_P p q post → pmt_W p q post) : SpecOK Tryz.prog pmt_sp := SpecOK.of_rules (C := pmt_C) (dr := drawF Tryz.prog tau) (n := 8) (fk := 0) (.cons (rule1_ok pmts_ok) (.cons (rule1_ok pends_ok) .nil)) (drawF_ok tau) fun x post hp => HoldW.of (pmt_w x.1 x.2.1 post) (h x.1 x.2.1 (fun y0 => post (y0, ())) hp)
theorem pmt_ok : SpecOK Tryz.prog pmt_sp := pmt_of fun p q post hp => by
  obtain ⟨⟨h1, h2, h3, h4⟩, hp⟩ := hp
  unfold pmt_W
  intro _
  let M : Nat → Nat → Prop := fun a b => max (ix p.Days (a : Int)) (ix q.Days (b : Int)) < min (endsP p (a : Int)) (endsP q (b : Int)) ∧ meetP (ix p.Regions (a : Int)).Rects (ix q.Regions (b : Int)).Rects
  have hl : p.6.length ≤ 1000000 := by omega
  have hl2 : q.6.length ≤ 1000000 := by omega
  refine loopCmp (n := p.6.length) (by omega) (p := fun a => ∀ b : Nat, b < q.6.length → ¬ M a b) (fun rec a ha _ hrec => ⟨by omega, fun _ => ?_⟩) fun hall => ?_
  · refine loopCmp (n := q.6.length) (by omega) (p := fun b => ¬ M a b) (fun rec2 b hb _ hrec2 => ⟨by omega, JOIN.opq fun (J : Bool → Prop) hJ => ⟨⟨by omega, by omega⟩, ⟨by omega, by omega⟩, ⟨by omega, by omega⟩, ⟨by omega, by omega⟩, ?_⟩⟩) fun hall => hrec hall
    have fin : ∀ c : Bool, (c = true ↔ M a b) → J c := fun c hc => by
      rw [hJ]
      refine IFB.mk (fun h => hp true ⟨fun _ => ?_, fun _ => rfl⟩) (fun h => hrec2 fun hm => ?_)
      · exact ⟨a, b, ha, hb, hc.1 h⟩
      · have := hc.2 hm; rw [h] at this; cases this
    have key : JOIN [Ty.bool] (fun (y7 : Bool) => J (decide (Max.max (ix p.5 (a : Int)) (ix q.5 (b : Int)) < Min.min (endsP p (a : Int)) (endsP q (b : Int))) && y7)) fun (J8 : Bool → Prop) => IFB (gx true (decide (Max.max (ix p.5 (a : Int)) (ix q.5 (b : Int)) < Min.min (endsP p (a : Int)) (endsP q (b : Int))))) (∀ (v9 : Bool), (v9 = true ↔ meetP (ix p.6 (a : Int)).1 (ix q.6 (b : Int)).1) → J8 v9) (J8 false) := by
      refine JOIN.opq fun (J8 : Bool → Prop) hJ8 => IFB.mk (fun hg v hv => ?_) (fun hg => ?_)
      · rw [gx_t] at hg
        rw [hJ8]
        refine fin _ ?_
        rw [hg, Bool.true_and, hv]
        exact ⟨fun h => ⟨of_decide_eq_true hg, h⟩, fun h => h.2⟩
      · rw [gx_t] at hg
        rw [hJ8]
        refine fin _ ?_
        rw [hg, Bool.false_and]
        exact ⟨fun h => (by cases h), fun h => absurd h.1 (of_decide_eq_false hg)⟩
    exact ⟨key, key⟩
  · refine hp false ⟨fun h => (by cases h), fun h => ?_⟩
    obtain ⟨a, b, ha, hb, hm⟩ := h
    exact absurd hm (hall a ha b hb)

def pright_P (l : List (api_Parcel)) (p : api_Parcel) (post : Bool → Prop) : Prop := (l.length ≤ 1000000 ∧ p.Days.length ≤ 1000000 ∧ p.Regions.length ≤ 1000000 ∧ p.Parents.length ≤ 1000000 ∧ ∀ a ∈ p.Regions, a.Rects.length ≤ 1000000) ∧ ∀ r : Bool, (r = true ↔ rightP l p) → post r
def pright_sp : Spec := ⟨64, false, false, [.sl (.st .api_Parcel), .st .api_Parcel], .dat (.bool), fun x post => pright_P (x.1 : List (api_Parcel)) (x.2.1 : api_Parcel) (fun y0 => post (y0, ()))⟩
def pright_C : CtxR := ⟨tau, [rule1 pprop_sp, rule1 pasc_sp], lookJ [(8518828876, 0, ⟨[(0, .dat (.int .i64))], [], [], [], []⟩), (8518828876, 5, ⟨[(8, .dat (.int .i64))], [], [9, 10, 5, 11, 12, 13, 14, 15, 16, 18], [], []⟩), (6389121913, 0, ⟨[(0, .dat (.int .i64))], [], [], [], []⟩), (6389121913, 5, ⟨[(8, .dat (.int .i64))], [], [9, 10, 5, 11, 12, 13, 14, 15, 16, 18], [], []⟩), (0, 1000004, ⟨[(90, .dat .bool)], [], [49, 50, 51, 57, 58, 66, 67, 72, 73, 84, 85, 52, 53, 54, 55, 56, 59, 60, 61, 62, 63, 64, 65, 68, 69, 70, 71, 74, 75, 76, 77, 78, 79, 80, 81, 82, 83, 86, 87, 88, 89], [], []⟩)]⟩
def pright_W (l : List (api_Parcel)) (p : api_Parcel) (post : Bool → Prop) : Prop := (↑l.length : Int) ≤ (9223372036854775807 : Int) → (gx false (!decide (p.1 = IntKind.i64.wrap ((↑l.length : Int) + (1 : Int))) || decide (p.2 < (0 : Int)) || decide (p.3 < p.2) || decide ((36865 : Int) < p.3)) = true → (↑l.length : Int) ≤ (9223372036854775807 : Int)) → ((gx false (!decide (p.1 = IntKind.i64.wrap ((↑l.length : Int) + (1 : Int))) || decide (p.2 < (0 : Int)) || decide (p.3 < p.2) || decide ((36865 : Int) < p.3)) && gx true (decide ((0 : Int) < (↑l.length : Int)))) = true → (↑l.length : Int) ≤ (9223372036854775807 : Int)) → ((gx false (!decide (p.1 = IntKind.i64.wrap ((↑l.length : Int) + (1 : Int))) || decide (p.2 < (0 : Int)) || decide (p.3 < p.2) || decide ((36865 : Int) < p.3)) && gx true (decide ((0 : Int) < (↑l.length : Int)))) = true → (0 : Int) ≤ IntKind.i64.wrap ((↑l.length : Int) - (1 : Int)) ∧ IntKind.i64.wrap ((↑l.length : Int) - (1 : Int)) < (↑l.length : Int)) ∧ IFB (!decide (p.1 = IntKind.i64.wrap ((↑l.length : Int) + (1 : Int))) || decide (p.2 < (0 : Int)) || decide (p.3 < p.2) || decide ((36865 : Int) < p.3) || decide ((0 : Int) < (↑l.length : Int)) && decide (p.2 < (ix l (IntKind.i64.wrap ((↑l.length : Int) - (1 : Int)))).2)) (post false) ((↑p.5.length : Int) ≤ (9223372036854775807 : Int) → JOIN [Ty.bool] (fun (y1 : Bool) ↦ IFB y1 (post false) (JOIN [Ty.int IntKind.i64] (fun (y2 : Int) ↦ IFB (decide ((0 : Int) ≤ y2)) (post false) (JOIN [Ty.int IntKind.i64] (fun (y3 : Int) ↦ post !decide ((0 : Int) ≤ y3)) fun (J4 : Int → Prop) ↦ (↑p.4.length : Int) ≤ (9223372036854775807 : Int) → LOOP [Ty.int IntKind.i64] (fun (rec5 : Int → Prop) (z6 : Int) ↦ IFB (decide (z6 < (↑p.4.length : Int))) (((0 : Int) ≤ z6 ∧ z6 < (↑p.4.length : Int)) ∧ ((gx false (decide (ix p.4 z6 < (1 : Int))) = true → (↑l.length : Int) ≤ (9223372036854775807 : Int)) → (gx false (decide (ix p.4 z6 < (1 : Int)) || decide ((↑l.length : Int) < ix p.4 z6)) = true → (0 : Int) ≤ IntKind.i64.wrap (ix p.4 z6 - (1 : Int)) ∧ IntKind.i64.wrap (ix p.4 z6 - (1 : Int)) < (↑l.length : Int)) ∧ IFB (decide (ix p.4 z6 < (1 : Int)) || decide ((↑l.length : Int) < ix p.4 z6) || !decide ((ix l (IntKind.i64.wrap (ix p.4 z6 - (1 : Int)))).3 = p.2)) (J4 z6) (rec5 (IntKind.i64.wrap (z6 + (1 : Int)))))) (J4 (-1 : Int))) ((0 : Int), PUnit.unit))) fun (J7 : Int → Prop) ↦ (↑p.6.length : Int) ≤ (9223372036854775807 : Int) → LOOP [Ty.int IntKind.i64] (fun (rec8 : Int → Prop) (z9 : Int) ↦ IFB (decide (z9 < (↑p.6.length : Int))) (((0 : Int) ≤ z9 ∧ z9 < (↑p.6.length : Int)) ∧ (ix p.6 z9).1.length ≤ (1000000000 : Nat) ∧ ∀ (v10 : Bool), (v10 = true ↔ propR { Rects := (ix p.6 z9).1 : api_Region }) → IFB (!v10) (J7 z9) (rec8 (IntKind.i64.wrap (z9 + (1 : Int))))) (J7 (-1 : Int))) ((0 : Int), PUnit.unit))) fun (J11 : Bool → Prop) ↦ (gx false (decide ((↑p.5.length : Int) = (0 : Int))) = true → (↑p.6.length : Int) ≤ (9223372036854775807 : Int)) → (gx false (decide ((↑p.5.length : Int) = (0 : Int)) || !decide ((↑p.5.length : Int) = (↑p.6.length : Int))) = true → Int.NonNeg (0 : Int) ∧ (0 : Int) < (↑p.5.length : Int)) ∧ JOIN [Ty.bool] (fun (y12 : Bool) ↦ ((gx false (decide ((↑p.5.length : Int) = (0 : Int)) || !decide ((↑p.5.length : Int) = (↑p.6.length : Int)) || !decide (ix p.5 (0 : Int) = p.2) || !y12) = true → (0 : Int) ≤ IntKind.i64.wrap ((↑p.5.length : Int) - (1 : Int)) ∧ IntKind.i64.wrap ((↑p.5.length : Int) - (1 : Int)) < (↑p.5.length : Int)) ∧ (JOIN [Ty.bool] (fun (y13 : Bool) ↦ J11 (decide ((↑p.5.length : Int) = (0 : Int)) || !decide ((↑p.5.length : Int) = (↑p.6.length : Int)) || !decide (ix p.5 (0 : Int) = p.2) || !y12 || decide (Min.min p.3 (36864 : Int) < ix p.5 (IntKind.i64.wrap ((↑p.5.length : Int) - (1 : Int)))) || !y13)) fun (J14 : Bool → Prop) ↦ IFB (gx false (decide ((↑p.5.length : Int) = (0 : Int)) || !decide ((↑p.5.length : Int) = (↑p.6.length : Int)) || !decide (ix p.5 (0 : Int) = p.2) || !y12 || decide (Min.min p.3 (36864 : Int) < ix p.5 (IntKind.i64.wrap ((↑p.5.length : Int) - (1 : Int)))))) (p.4.length ≤ (1000000000 : Nat) ∧ ∀ (v15 : Bool), (v15 = true ↔ asc p.4) → J14 v15) (J14 false)) ∧ JOIN [Ty.bool] (fun (y16 : Bool) ↦ J11 (decide ((↑p.5.length : Int) = (0 : Int)) || !decide ((↑p.5.length : Int) = (↑p.6.length : Int)) || !decide (ix p.5 (0 : Int) = p.2) || !y12 || decide (Min.min p.3 (36864 : Int) < ix p.5 (IntKind.i64.wrap ((↑p.5.length : Int) - (1 : Int)))) || !y16)) fun (J17 : Bool → Prop) ↦ IFB (gx false (decide ((↑p.5.length : Int) = (0 : Int)) || !decide ((↑p.5.length : Int) = (↑p.6.length : Int)) || !decide (ix p.5 (0 : Int) = p.2) || !y12 || decide (Min.min p.3 (36864 : Int) < ix p.5 (IntKind.i64.wrap ((↑p.5.length : Int) - (1 : Int)))))) (p.4.length ≤ (1000000000 : Nat) ∧ ∀ (v18 : Bool), (v18 = true ↔ asc p.4) → J17 v18) (J17 false)) ∧ (gx false (decide ((↑p.5.length : Int) = (0 : Int)) || !decide ((↑p.5.length : Int) = (↑p.6.length : Int)) || !decide (ix p.5 (0 : Int) = p.2) || !y12) = true → (0 : Int) ≤ IntKind.i64.wrap ((↑p.5.length : Int) - (1 : Int)) ∧ IntKind.i64.wrap ((↑p.5.length : Int) - (1 : Int)) < (↑p.5.length : Int)) ∧ JOIN [Ty.bool] (fun (y19 : Bool) ↦ J11 (decide ((↑p.5.length : Int) = (0 : Int)) || !decide ((↑p.5.length : Int) = (↑p.6.length : Int)) || !decide (ix p.5 (0 : Int) = p.2) || !y12 || decide (Min.min p.3 (36864 : Int) < ix p.5 (IntKind.i64.wrap ((↑p.5.length : Int) - (1 : Int)))) || !y19)) fun (J20 : Bool → Prop) ↦ IFB (gx false (decide ((↑p.5.length : Int) = (0 : Int)) || !decide ((↑p.5.length : Int) = (↑p.6.length : Int)) || !decide (ix p.5 (0 : Int) = p.2) || !y12 || decide (Min.min p.3 (36864 : Int) < ix p.5 (IntKind.i64.wrap ((↑p.5.length : Int) - (1 : Int)))))) (p.4.length ≤ (1000000000 : Nat) ∧ ∀ (v21 : Bool), (v21 = true ↔ asc p.4) → J20 v21) (J20 false)) fun (J22 : Bool → Prop) ↦ IFB (gx false (decide ((↑p.5.length : Int) = (0 : Int)) || !decide ((↑p.5.length : Int) = (↑p.6.length : Int)) || !decide (ix p.5 (0 : Int) = p.2))) (p.5.length ≤ (1000000000 : Nat) ∧ ∀ (v23 : Bool), (v23 = true ↔ asc p.5) → J22 v23) (J22 false))
theorem pright_w (l : List (api_Parcel)) (p : api_Parcel) (post : dens (shT pright_sp.rs []) → Prop) : pright_W l p (fun y0 => post (y0, ())) = walkG (callR Tryz.prog pright_C (drawF Tryz.prog tau) 8 0) 64 false [tv (.sl (.st .api_Parcel)) l, tv (.st .api_Parcel) p] pright_sp.rs post := by kernel_rfl
theorem pright_of (h : ∀ (l : List (api_Parcel)) (p : api_Parcel) (post : Bool → Prop), pright_P l p post → pright_W l p post) : SpecOK Tryz.prog pright_sp := SpecOK.of_rules (C := pright_C) (dr := drawF Tryz.prog tau) (n := 8) (fk := 0) (.cons (rule1_ok pprop_ok) (.cons (rule1_ok pasc_ok) .nil)) (drawF_ok tau) fun x post hp => HoldW.of (pright_w x.1 x.2.1 post) (h x.1 x.2.1 (fun y0 => post (y0, ())) hp)
set_option maxHeartbeats 1000000 in
theorem pright_ok : SpecOK Tryz.prog pright_sp := pright_of fun l p post hp => by
  obtain ⟨⟨hl, z1, z2, z3, z4⟩, hp⟩ := hp
  unfold pright_W
  have hw1 : IntKind.i64.wrap ((l.length : Int) + 1) = (l.length : Int) + 1 := wrap_in (by omega) (by omega)
  intro _ _ _
  have hlast : 0 < l.length → IntKind.i64.wrap ((l.length : Int) - 1) = (l.length : Int) - 1 := fun h => wrap_in (by omega) (by omega)
  rw [hw1]
  refine ⟨fun h => ?_, IFB.mk (fun hc => hp false ⟨fun h => (by cases h), fun h => ?_⟩) (fun hc => ?_)⟩
  · have h : (0 : Int) < (l.length : Int) := by
      simp only [Bool.and_eq_true, gx_t, decide_eq_true_eq] at h; exact h.2
    rw [hlast (by omega)]; omega
  · obtain ⟨a1, a2, a3, a4, a5, _, _⟩ := h
    simp only [Bool.or_eq_true, Bool.and_eq_true, Bool.not_eq_true', decide_eq_true_eq, decide_eq_false_iff_not] at hc
    rcases hc with (((hc | hc) | hc) | hc) | ⟨hc1, hc2⟩
    · exact (hc a1).elim
    · omega
    · omega
    · omega
    · rw [hlast (by omega)] at hc2
      have := a5 (by omega)
      omega
  have hA : p.Number = (l.length : Int) + 1 ∧ 0 ≤ p.From ∧ p.From ≤ p.Until ∧ p.Until ≤ 36865 ∧ (0 < l.length → (ix l ((l.length : Int) - 1)).From ≤ p.From) := by
    simp only [Bool.or_eq_false_iff, Bool.and_eq_false_iff, Bool.not_eq_false', decide_eq_true_eq, decide_eq_false_iff_not] at hc
    obtain ⟨⟨⟨⟨c1, c2⟩, c3⟩, c4⟩, c5⟩ := hc
    refine ⟨c1, by omega, by omega, by omega, fun h => ?_⟩
    rw [hlast h] at c5
    rcases c5 with c5 | c5
    · omega
    · exact Int.not_lt.1 c5
  clear hc
  have hI : ∀ q : Bool, (q = true ↔ outP p ∧ parP l p) → post q := fun q hq => hp q (by
    rw [hq]
    exact ⟨fun h => ⟨hA.1, hA.2.1, hA.2.2.1, hA.2.2.2.1, hA.2.2.2.2, h.1, h.2⟩, fun h => ⟨h.2.2.2.2.2.1, h.2.2.2.2.2.2⟩⟩)
  intro _
  let o1 : Prop := 0 < p.Days.length ∧ p.Days.length = p.Regions.length ∧ ix p.Days 0 = p.From ∧ asc p.Days ∧ ix p.Days ((p.Days.length : Int) - 1) ≤ min p.Until 36864 ∧ asc p.Parents
  refine JOIN.opq fun (J11 : Bool → Prop) hJ11 => ?_
  have k11 : ∀ c : Bool, (c = true ↔ ¬ o1) → J11 c := fun c hc => by
    rw [hJ11]
    refine IFB.mk (fun h => hI false ⟨fun h => (by cases h), fun h2 => ?_⟩) (fun h => ?_)
    · exact absurd ⟨h2.1.1, h2.1.2.1, h2.1.2.2.1, h2.1.2.2.2.1, h2.1.2.2.2.2.1, h2.2.1⟩ (hc.1 h)
    have ho : o1 := Classical.byContradiction fun hn => by have := hc.2 hn; rw [h] at this; cases this
    refine JOIN.opq fun (J7 : Int → Prop) hJ7 _ => ?_
    refine loopCmp (n := p.6.length) (by omega) (p := fun i => propR (ix p.6 (i : Int))) (fun rec k hk _ hrec => ⟨by omega, ?_, fun v hv => IFB.mk (fun hb => ?_) (fun hb => hrec (hv.1 (by simpa using hb)))⟩) fun hall => ?_
    · have := z4 _ (ix_mem (l := p.Regions) (i := (k : Int)) (by omega) (by omega)); omega
    · have hv0 : v = false := by simpa using hb
      rw [hJ7]
      refine IFB.yes (decide_eq_true (by omega)) (hI false ⟨fun h => (by cases h), fun h2 => ?_⟩)
      have := hv.2 (h2.1.2.2.2.2.2 _ (ix_mem (l := p.Regions) (i := (k : Int)) (by omega) (by omega)))
      rw [hv0] at this; cases this
    · rw [hJ7]
      refine IFB.no rfl (JOIN.opq fun (J4 : Int → Prop) hJ4 _ => ?_)
      have hreg : ∀ a ∈ p.Regions, propR a := fun a ha => by
        obtain ⟨i, hi, rfl⟩ := ix_ex ha
        exact hall i hi
      have hout : outP p := ⟨ho.1, ho.2.1, ho.2.2.1, ho.2.2.2.1, ho.2.2.2.2.1, hreg⟩
      refine loopCmp (n := p.4.length) (by omega) (p := fun i => 1 ≤ ix p.4 (i : Int) ∧ ix p.4 (i : Int) ≤ (l.length : Int) ∧ (ix l (ix p.4 (i : Int) - 1)).Until = p.From) (fun rec k hk _ hrec => ⟨by omega, fun _ => ⟨fun h => ?_, IFB.mk (fun hb => ?_) (fun hb => hrec ?_)⟩⟩) fun hall2 => ?_
      · rw [gx_f] at h
        simp only [Bool.not_eq_true', Bool.or_eq_false_iff, decide_eq_false_iff_not] at h
        rw [wrap_in (by omega) (by omega)]; omega
      · rw [hJ4]
        show post (!decide ((0 : Int) ≤ (k : Int)))
        have hd : (decide ((0 : Int) ≤ (k : Int))) = true := decide_eq_true (by omega)
        rw [hd]
        refine hI false ⟨fun h => (by cases h), fun h2 => ?_⟩
        obtain ⟨e1, e2, e3⟩ := h2.2.2 _ (ix_mem (l := p.Parents) (i := (k : Int)) (by omega) (by omega))
        simp only [Bool.or_eq_true, Bool.not_eq_true', decide_eq_true_eq, decide_eq_false_iff_not] at hb
        rcases hb with (hb | hb) | hb
        · omega
        · omega
        · rw [wrap_in (by omega) (by omega)] at hb; exact (hb e3).elim
      · simp only [Bool.or_eq_false_iff, Bool.not_eq_false', decide_eq_true_eq, decide_eq_false_iff_not] at hb
        obtain ⟨⟨b1, b2⟩, b3⟩ := hb
        rw [wrap_in (by omega) (by omega)] at b3
        exact ⟨by omega, by omega, b3⟩
      · rw [hJ4]
        refine hI true ⟨fun _ => ⟨hout, ho.2.2.2.2.2, fun k hk => ?_⟩, fun _ => rfl⟩
        obtain ⟨i, hi, rfl⟩ := ix_ex hk
        exact hall2 i hi
  intro _
  have hz : Int.NonNeg (0 : Int) := Int.NonNeg.mk 0
  refine ⟨fun h => ⟨hz, ?_⟩, ?_⟩
  · rw [gx_f] at h
    simp only [Bool.not_eq_true', Bool.or_eq_false_iff, decide_eq_false_iff_not] at h
    omega
  refine JOIN.opq fun (J22 : Bool → Prop) hJ22 => ?_
  have kn : ∀ y : Bool, (gx false (decide ((p.5.length : Int) = (0 : Int)) || !decide ((p.5.length : Int) = (p.6.length : Int)) || !decide (ix p.5 (0 : Int) = p.2) || !y) = true) → 0 ≤ IntKind.i64.wrap ((p.5.length : Int) - 1) ∧ IntKind.i64.wrap ((p.5.length : Int) - 1) < (p.5.length : Int) := fun y h => by
    rw [gx_f] at h
    simp only [Bool.not_eq_true', Bool.or_eq_false_iff, decide_eq_false_iff_not] at h
    rw [wrap_in (by omega) (by omega)]; omega
  have k22 : ∀ y : Bool, (0 < p.Days.length ∧ p.Days.length = p.Regions.length ∧ ix p.Days 0 = p.From → (y = true ↔ asc p.Days)) → (¬ (0 < p.Days.length ∧ p.Days.length = p.Regions.length ∧ ix p.Days 0 = p.From) → y = false) → J22 y := fun y hy1 hy0 => by
    rw [hJ22]
    have hcond : ∀ z : Bool, ((decide ((p.5.length : Int) = (0 : Int)) || !decide ((p.5.length : Int) = (p.6.length : Int)) || !decide (ix p.5 (0 : Int) = p.2) || !y || decide (Min.min p.3 (36864 : Int) < ix p.5 (IntKind.i64.wrap ((p.5.length : Int) - (1 : Int)))) || !z) = false ↔ (0 < p.Days.length ∧ p.Days.length = p.Regions.length ∧ ix p.Days 0 = p.From ∧ asc p.Days ∧ ix p.Days ((p.Days.length : Int) - 1) ≤ min p.Until 36864 ∧ z = true)) := fun z => by
      by_cases hc : 0 < p.Days.length ∧ p.Days.length = p.Regions.length ∧ ix p.Days 0 = p.From
      · have hy := hy1 hc
        rw [wrap_in (by omega) (by omega)]
        simp only [Bool.or_eq_false_iff, Bool.not_eq_false', decide_eq_true_eq, decide_eq_false_iff_not, hy]
        obtain ⟨c1, c2, c3⟩ := hc
        constructor
        · rintro ⟨⟨⟨⟨⟨d1, d2⟩, d3⟩, d4⟩, d5⟩, d6⟩
          exact ⟨c1, c2, c3, d4, Int.not_lt.1 d5, d6⟩
        · rintro ⟨d1, d2, d3, d4, d5, d6⟩
          exact ⟨⟨⟨⟨⟨by omega, by omega⟩, d3⟩, d4⟩, Int.not_lt.2 d5⟩, d6⟩
      · constructor
        · intro h
          simp only [Bool.or_eq_false_iff, Bool.not_eq_false', decide_eq_true_eq, decide_eq_false_iff_not] at h
          obtain ⟨⟨⟨⟨⟨d1, d2⟩, d3⟩, d4⟩, d5⟩, d6⟩ := h
          exact absurd ⟨by omega, by omega, d3⟩ hc
        · rintro ⟨d1, d2, d3, _⟩
          exact absurd ⟨d1, d2, d3⟩ hc
    have key : JOIN [Ty.bool] (fun (y13 : Bool) => J11 (decide ((p.5.length : Int) = (0 : Int)) || !decide ((p.5.length : Int) = (p.6.length : Int)) || !decide (ix p.5 (0 : Int) = p.2) || !y || decide (Min.min p.3 (36864 : Int) < ix p.5 (IntKind.i64.wrap ((p.5.length : Int) - (1 : Int)))) || !y13)) fun (J14 : Bool → Prop) => IFB (gx false (decide ((p.5.length : Int) = (0 : Int)) || !decide ((p.5.length : Int) = (p.6.length : Int)) || !decide (ix p.5 (0 : Int) = p.2) || !y || decide (Min.min p.3 (36864 : Int) < ix p.5 (IntKind.i64.wrap ((p.5.length : Int) - (1 : Int)))))) (p.4.length ≤ (1000000000 : Nat) ∧ ∀ (v15 : Bool), (v15 = true ↔ asc p.4) → J14 v15) (J14 false) := by
      refine JOIN.opq fun (J14 : Bool → Prop) hJ14 => IFB.mk (fun hg => ⟨by omega, fun v hv => ?_⟩) (fun hg => ?_)
      · rw [hJ14]
        refine k11 _ ?_
        have h := hcond v
        generalize (decide ((p.5.length : Int) = (0 : Int)) || !decide ((p.5.length : Int) = (p.6.length : Int)) || !decide (ix p.5 (0 : Int) = p.2) || !y || decide (Min.min p.3 (36864 : Int) < ix p.5 (IntKind.i64.wrap ((p.5.length : Int) - (1 : Int)))) || !v) = c at h
        rw [hv] at h
        constructor
        · intro hc ho
          have := h.2 ho
          rw [hc] at this; cases this
        · intro ho
          cases c with
          | true => rfl
          | false => exact absurd (h.1 rfl) ho
      · rw [hJ14]
        refine k11 _ ⟨fun _ ho => ?_, fun _ => ?_⟩
        · rw [gx_f] at hg
          have hg : (decide ((p.5.length : Int) = (0 : Int)) || !decide ((p.5.length : Int) = (p.6.length : Int)) || !decide (ix p.5 (0 : Int) = p.2) || !y || decide (Min.min p.3 (36864 : Int) < ix p.5 (IntKind.i64.wrap ((p.5.length : Int) - (1 : Int))))) = true := by
            have hb : ∀ b : Bool, (!b) = false → b = true := by decide
            exact hb _ hg
          have h := (hcond true).2 ⟨ho.1, ho.2.1, ho.2.2.1, ho.2.2.2.1, ho.2.2.2.2.1, rfl⟩
          rw [hg] at h; cases h
        · simp
    exact ⟨⟨kn y, key, key⟩, kn y, key⟩
  refine IFB.mk (fun hg => ⟨by omega, fun v hv => k22 v (fun _ => hv) fun hn => ?_⟩) (fun hg => k22 false (fun hc => ?_) fun _ => rfl)
  · rw [gx_f] at hg
    simp only [Bool.not_eq_true', Bool.or_eq_false_iff, Bool.not_eq_false', decide_eq_true_eq, decide_eq_false_iff_not] at hg
    exact absurd ⟨by omega, by omega, hg.2⟩ hn
  · rw [gx_f] at hg
    simp only [Bool.not_eq_false', Bool.or_eq_true, Bool.not_eq_true', decide_eq_true_eq, decide_eq_false_iff_not] at hg
    omega

end RE
end Go.Proofs.YtpeggkeenboacaaGreat
set_option maxRecDepth 100000
set_option linter.unusedVariables false
namespace Go.Proofs.YtpeggkeenboacaaGreat
open Go.RowKit
namespace RE
open PL

def pchk_P (l : List (api_Parcel)) (post : Int → Prop) : Prop := (szL l) ∧ post (checkS l)
def pchk_sp : Spec := ⟨14, false, false, [.sl (.st .api_Parcel)], .dat (.int .i64), fun x post => pchk_P (x.1 : List (api_Parcel)) (fun y0 => post (y0, ()))⟩
def pchk_C : CtxR := ⟨tau, [rule1 pmt_sp, rule1 pright_sp], lookJ [(0, 21, ⟨[(26, .dat (.int .i64))], [], [27, 28, 29, 30, 6, 5, 31, 32, 33, 34, 35, 36], [], []⟩), (12777200361, 0, ⟨[(0, .dat (.int .i64))], [], [], [], []⟩), (12777200361, 5, ⟨[(8, .dat (.int .i64))], [], [9, 10, 5, 11, 12, 13, 14, 15, 16, 18], [], []⟩), (0, 9, ⟨[(12, .dat (.int .i64))], [], [13, 14, 15, 16, 4, 3, 17, 18, 19, 20, 21, 22, 23], [], []⟩)]⟩
def pchk_W (l : List (api_Parcel)) (post : Int → Prop) : Prop := (↑l.length : Int) ≤ (9223372036854775807 : Int) → IFB (decide ((60 : Int) < (↑l.length : Int))) (post (1 : Int)) ((↑l.length : Int) ≤ (9223372036854775807 : Int) → LOOP [Ty.int IntKind.i64] (fun (rec1 : Int → Prop) (z2 : Int) ↦ IFB (decide (z2 < (↑l.length : Int))) (((0 : Int) ≤ z2 ∧ z2 < (↑l.length : Int)) ∧ (Int.NonNeg (0 : Int) ∧ (0 : Int) ≤ z2 ∧ z2 ≤ (↑l.length : Int)) ∧ ((sub l (0 : Int) z2).length ≤ (1000000 : Nat) ∧ (ix l z2).5.length ≤ (1000000 : Nat) ∧ (ix l z2).6.length ≤ (1000000 : Nat) ∧ (ix l z2).4.length ≤ (1000000 : Nat) ∧ ∀ (v3 : api_Region), v3 ∈ (ix l z2).6 → v3.1.length ≤ (1000000 : Nat)) ∧ ∀ (v4 : Bool), (v4 = true ↔ rightP (sub l (0 : Int) z2) { Number := (ix l z2).1, From := (ix l z2).2, Until := (ix l z2).3, Parents := (ix l z2).4, Days := (ix l z2).5, Regions := (ix l z2).6 : api_Parcel }) → IFB (!v4) (post (3 : Int)) (rec1 (IntKind.i64.wrap (z2 + (1 : Int))))) ((↑l.length : Int) ≤ (9223372036854775807 : Int) → LOOP [Ty.int IntKind.i64] (fun (rec5 : Int → Prop) (z6 : Int) ↦ IFB (decide (z6 < (↑l.length : Int))) (((0 : Int) ≤ z6 ∧ z6 < (↑l.length : Int)) ∧ (Int.NonNeg (0 : Int) ∧ (0 : Int) ≤ z6 ∧ z6 ≤ (↑l.length : Int)) ∧ JOIN [Ty.int IntKind.i64] (fun (y7 : Int) ↦ IFB (decide ((0 : Int) ≤ y7)) (post (3 : Int)) (rec5 (IntKind.i64.wrap (z6 + (1 : Int))))) fun (J8 : Int → Prop) ↦ (↑(sub l (0 : Int) z6).length : Int) ≤ (9223372036854775807 : Int) → LOOP [Ty.int IntKind.i64] (fun (rec9 : Int → Prop) (z10 : Int) ↦ IFB (decide (z10 < (↑(sub l (0 : Int) z6).length : Int))) (((0 : Int) ≤ z10 ∧ z10 < (↑(sub l (0 : Int) z6).length : Int)) ∧ ((ix l z6).5.length = (ix l z6).6.length ∧ (ix (sub l (0 : Int) z6) z10).5.length = (ix (sub l (0 : Int) z6) z10).6.length ∧ (ix l z6).5.length ≤ (1000000 : Nat) ∧ (ix (sub l (0 : Int) z6) z10).5.length ≤ (1000000 : Nat)) ∧ ∀ (v11 : Bool), (v11 = true ↔ meetPc { Number := (ix l z6).1, From := (ix l z6).2, Until := (ix l z6).3, Parents := (ix l z6).4, Days := (ix l z6).5, Regions := (ix l z6).6 : api_Parcel } { Number := (ix (sub l (0 : Int) z6) z10).1, From := (ix (sub l (0 : Int) z6) z10).2, Until := (ix (sub l (0 : Int) z6) z10).3, Parents := (ix (sub l (0 : Int) z6) z10).4, Days := (ix (sub l (0 : Int) z6) z10).5, Regions := (ix (sub l (0 : Int) z6) z10).6 : api_Parcel }) → IFB v11 (J8 z10) (rec9 (IntKind.i64.wrap (z10 + (1 : Int))))) (J8 (-1 : Int))) ((0 : Int), PUnit.unit)) (post (0 : Int))) ((0 : Int), PUnit.unit))) ((0 : Int), PUnit.unit))
theorem pchk_w (l : List (api_Parcel)) (post : dens (shT pchk_sp.rs []) → Prop) : pchk_W l (fun y0 => post (y0, ())) = walkG (callR Tryz.prog pchk_C (drawF Tryz.prog tau) 8 0) 14 false [tv (.sl (.st .api_Parcel)) l] pchk_sp.rs post := by kernel_rfl
theorem pchk_of (h : ∀ (l : List (api_Parcel)) (post : Int → Prop), pchk_P l post → pchk_W l post) : SpecOK Tryz.prog pchk_sp := SpecOK.of_rules (C := pchk_C) (dr := drawF Tryz.prog tau) (n := 8) (fk := 0) (.cons (rule1_ok pmt_ok) (.cons (rule1_ok pright_ok) .nil)) (drawF_ok tau) fun x post hp => HoldW.of (pchk_w x.1 post) (h x.1 (fun y0 => post (y0, ())) hp)
theorem take_ix {α : Type} [Inhabited α] {l : List α} {k j : Nat} (hj : j < k) (hk : k ≤ l.length) : ix (l.take k) (j : Int) = ix l (j : Int) := by
  rw [ix_lt (by rw [List.length_take]; omega), ix_lt (by omega), List.getElem_take]
theorem regP_sz {l : List Pc} (h : szL l) {k : Nat} (hk : k < l.length) : szP (ix l (k : Int)) := h.all _ (ix_mem (by omega) (by omega))
theorem pchk_ok : SpecOK Tryz.prog pchk_sp := pchk_of fun l post hp => by
  obtain ⟨hsz, hp⟩ := hp
  have hl := hsz.len
  unfold pchk_W
  unfold checkS at hp
  intro _
  refine IFB.mk (fun hb => ?_) (fun hb _ => ?_)
  · have hb : (60 : Int) < (l.length : Int) := of_decide_eq_true hb
    rw [if_pos (by omega)] at hp; exact hp
  have hb : ¬ (60 : Int) < (l.length : Int) := of_decide_eq_false hb
  rw [if_neg (by omega)] at hp
  have bad : ¬ regP l → post 3 := fun h => by rw [if_neg h] at hp; exact hp
  refine loopCmp (n := l.length) (by omega) (p := fun i => rightP (l.take i) (ix l (i : Int))) (fun rec k hk _ hrec => ?_) fun hall => ?_
  · have hx := regP_sz hsz hk
    refine ⟨by omega, ⟨Int.NonNeg.mk 0, by omega, by omega⟩, ?_⟩
    rw [sub_front]
    refine ⟨⟨by rw [List.length_take]; omega, hx.days, hx.regs, hx.pars, hx.rect⟩, fun v hv => IFB.mk (fun hb => ?_) (fun hb => hrec (hv.1 (by simpa using hb)))⟩
    have hb : v = false := by simpa using hb
    refine bad fun hr => ?_
    have := hv.2 (hr.1 k hk)
    rw [hb] at this; cases this
  · refine fun _ => loopCmp (n := l.length) (by omega) (p := fun i => ∀ j : Nat, j < i → ¬ meetPc (ix l (i : Int)) (ix l (j : Int))) (fun rec k hk _ hrec => ?_) fun hall2 => ?_
    · have hx := regP_sz hsz hk
      refine ⟨by omega, ⟨Int.NonNeg.mk 0, by omega, by omega⟩, ?_⟩
      rw [sub_front]
      have hkl : (l.take k).length = k := by rw [List.length_take]; omega
      rw [hkl]
      refine JOIN.opq fun (J : Int → Prop) hJ _ => ?_
      refine loopCmp (n := k) (by omega) (p := fun j => ¬ meetPc (ix l (k : Int)) (ix l (j : Int))) (fun rec2 j hj _ hrec2 => ?_) fun hall3 => ?_
      · have hxj := regP_sz hsz (k := j) (by omega)
        refine ⟨by omega, ?_⟩
        rw [take_ix hj (by omega)]
        have ok1 := (hall k hk).2.2.2.2.2.1.2.1
        have ok2 := (hall j (by omega)).2.2.2.2.2.1.2.1
        refine ⟨⟨ok1, ok2, hx.days, hxj.days⟩, fun r hr => IFB.mk (fun hb => ?_) (fun hb => hrec2 fun h => ?_)⟩
        · rw [hJ]
          exact IFB.yes (decide_eq_true (by omega)) (bad fun h => h.2 k j hk hj (hr.1 hb))
        · have := hr.2 h; rw [hb] at this; cases this
      · rw [hJ]
        exact IFB.no rfl (hrec hall3)
    · rw [if_pos ⟨hall, fun i j hi hj => hall2 i hi j hj⟩] at hp
      exact hp

end RE
end Go.Proofs.YtpeggkeenboacaaGreat
set_option maxRecDepth 100000
set_option linter.unusedVariables false
namespace Go.Proofs.YtpeggkeenboacaaGreat
open Go.RowKit
namespace RE
open PL

namespace PL
end PL
end RE
end Go.Proofs.YtpeggkeenboacaaGreat
set_option maxRecDepth 100000
set_option linter.unusedVariables false
namespace Go.Proofs.YtpeggkeenboacaaGreat
open Go.RowKit
namespace RE
open PL

end RE
end Go.Proofs.YtpeggkeenboacaaGreat
set_option maxRecDepth 100000
set_option linter.unusedVariables false
namespace Go.Proofs.YtpeggkeenboacaaGreat
open Go.RowKit
namespace RE
open PL

def pmergeX_P (A : List (region_Span)) (B : List (region_Span)) (post : List (region_Span) → Prop) : Prop := (A.length ≤ 20000 ∧ B.length ≤ 20000) ∧ post (mergeX xorS A B)
def pmergeX_sp : Spec := ⟨163, false, true, [.sl (.st .region_Span), .sl (.st .region_Span)], .dat (.sl (.st .region_Span)), fun x post => pmergeX_P (x.1 : List (region_Span)) (x.2.1 : List (region_Span)) (fun y0 => post (y0, ()))⟩
def pmergeX_C : CtxR := ⟨tau, [rule1 pconc_sp, rule3 ssort_sp, rule2 scompact_sp, rule1 pins_sp], lookJ [(0, 23, ⟨[(11, .dat (.int .i64)), (10, .own 232 (.st .region_Span))], [], [35, 36, 37, 38, 54, 53, 52, 51, 50, 49, 48, 47, 46, 12, 45, 44, 43, 42, 41, 77, 76, 75, 74, 73, 72, 71, 70, 69, 67, 66, 65, 64, 63, 62, 61, 60, 68, 59, 58, 57, 13, 56, 55, 86, 85, 84, 83, 82, 81, 80, 79, 78, 39, 40], [], []⟩), (0, 24, ⟨[(10, .own 232 (.st .region_Span))], [], [78, 79, 80, 81, 82, 83, 84, 85, 86, 55, 56, 13, 57, 58, 59, 68, 60, 61, 62, 63, 64, 65, 66, 67, 69, 70, 71, 72, 73, 74, 75, 76, 77, 41, 42, 43, 44, 45, 12, 46, 47, 48, 49, 50, 51, 52, 53, 54], [3], []⟩), (0, 7, ⟨[(19, .dat (.int .i64)), (7, .own 3 (.int .i64))], [], [20, 21, 22, 9, 23, 24, 25, 26, 27, 28, 29, 30], [], []⟩)]⟩
def pmergeX_W (A : List (region_Span)) (B : List (region_Span)) (post : List (region_Span) → Prop) : Prop := ((A.append (B.append [])).length ≤ (100000 : Nat) ∧ [A, B].length ≤ (10 : Nat)) ∧ ((↑(A.append (B.append [])).length : Int) ≤ (9223372036854775807 : Int) → LOOP [Ty.int IntKind.i64, (Ty.int IntKind.i64).sl] (fun (rec1 : Int → List Int → Prop) (z2 : Int) (z3 : List Int) ↦ IFB (decide (z2 < (↑(A.append (B.append [])).length : Int))) (((0 : Int) ≤ z2 ∧ z2 < (↑(A.append (B.append [])).length : Int)) ∧ (z3.length + [(ix (A.append (B.append [])) z2).1, (ix (A.append (B.append [])) z2).2].length) * (8 : Nat) ≤ (140737488355328 : Nat) ∧ rec1 (IntKind.i64.wrap (z2 + (1 : Int))) (z3 ++ [(ix (A.append (B.append [])) z2).1, (ix (A.append (B.append [])) z2).2])) (z3.length ≤ (1000000 : Nat) ∧ (sortI z3).length ≤ (1000000 : Nat) ∧ LOOP [Ty.int IntKind.i64, (Ty.st Sn.region_Span).sl] (fun (rec4 : Int → List region_Span → Prop) (z5 : Int) (z6 : List region_Span) ↦ (↑(compI (sortI z3)).length : Int) ≤ (9223372036854775807 : Int) → IFB (decide (z5 < (↑(compI (sortI z3)).length : Int))) (JOIN [(Ty.st Sn.region_Span).sl] (fun (y7 : List region_Span) ↦ rec4 (IntKind.i64.wrap (z5 + (1 : Int))) y7) fun (J8 : List region_Span → Prop) ↦ ((0 : Int) ≤ IntKind.i64.wrap (z5 - (1 : Int)) ∧ IntKind.i64.wrap (z5 - (1 : Int)) < (↑(compI (sortI z3)).length : Int)) ∧ A.length ≤ (1000000 : Nat) ∧ B.length ≤ (1000000 : Nat) ∧ IFB (!!insS A (ix (compI (sortI z3)) (IntKind.i64.wrap (z5 - (1 : Int)))) == insS B (ix (compI (sortI z3)) (IntKind.i64.wrap (z5 - (1 : Int))))) (J8 z6) ((↑z6.length : Int) ≤ (9223372036854775807 : Int) → (gx true (decide ((0 : Int) < (↑z6.length : Int))) = true → (0 : Int) ≤ IntKind.i64.wrap ((↑z6.length : Int) - (1 : Int)) ∧ IntKind.i64.wrap ((↑z6.length : Int) - (1 : Int)) < (↑z6.length : Int)) ∧ IFB (decide ((0 : Int) < (↑z6.length : Int)) && decide ((ix z6 (IntKind.i64.wrap ((↑z6.length : Int) - (1 : Int)))).2 = ix (compI (sortI z3)) (IntKind.i64.wrap (z5 - (1 : Int))))) (((0 : Int) ≤ z5 ∧ z5 < (↑(compI (sortI z3)).length : Int)) ∧ ((0 : Int) ≤ IntKind.i64.wrap ((↑z6.length : Int) - (1 : Int)) ∧ IntKind.i64.wrap ((↑z6.length : Int) - (1 : Int)) < (↑z6.length : Int)) ∧ J8 (z6.set (IntKind.i64.wrap ((↑z6.length : Int) - (1 : Int))).toNat { Left := (ix z6 (IntKind.i64.wrap ((↑z6.length : Int) - (1 : Int)))).1, Right := ix (compI (sortI z3)) z5 : region_Span })) (((0 : Int) ≤ z5 ∧ z5 < (↑(compI (sortI z3)).length : Int)) ∧ (z6.length + [{ Left := ix (compI (sortI z3)) (IntKind.i64.wrap (z5 - (1 : Int))), Right := ix (compI (sortI z3)) z5 : region_Span }].length) * (16 : Nat) ≤ (140737488355328 : Nat) ∧ J8 (z6 ++ [{ Left := ix (compI (sortI z3)) (IntKind.i64.wrap (z5 - (1 : Int))), Right := ix (compI (sortI z3)) z5 : region_Span }])))) (post z6)) ((1 : Int), [], PUnit.unit))) ((0 : Int), [], PUnit.unit))
theorem pmergeX_w (A : List (region_Span)) (B : List (region_Span)) (post : dens (shT pmergeX_sp.rs []) → Prop) : pmergeX_W A B (fun y0 => post (y0, ())) = walkG (callR Tryz.prog pmergeX_C (drawR Tryz.prog tau) 10 0) 163 false [tv (.sl (.st .region_Span)) A, tv (.sl (.st .region_Span)) B, .v (clo 193)] pmergeX_sp.rs post := by kernel_rfl
theorem pmergeX_of (h : ∀ (A : List (region_Span)) (B : List (region_Span)) (post : List (region_Span) → Prop), pmergeX_P A B post → pmergeX_W A B post) : SpecCOK Tryz.prog pmergeX_sp [clo 193] := SpecCOK.of_rules (C := pmergeX_C) (dr := drawR Tryz.prog tau) (n := 10) (fk := 0) (.cons (rule1_ok pconc_ok) (.cons (rule3_ok ssort_ok) (.cons (rule2_ok scompact_ok) (.cons (rule1_ok pins_ok) .nil)))) (drawR_ok tau) fun x post hp => HoldW.of (pmergeX_w x.1 x.2.1 post) (h x.1 x.2.1 (fun y0 => post (y0, ())) hp)
theorem pmergeX_ok : SpecCOK Tryz.prog pmergeX_sp [clo 193] := pmergeX_of fun A B post hp => by
  obtain ⟨⟨h1, h2⟩, hp⟩ := hp
  unfold pmergeX_W
  have e : A.append (B.append []) = A ++ B := by show A ++ (B ++ []) = A ++ B; rw [List.append_nil]
  rw [e]
  refine ⟨⟨by rw [List.length_append]; omega, by simp⟩, fun _ => ?_⟩
  refine edg_in (l := A ++ B) (A := []) (K := fun z3 => z3.length ≤ (1000000 : Nat) ∧ (sortI z3).length ≤ (1000000 : Nat) ∧ _) (by simp only [List.length_nil, List.length_append]; omega) ?_
  rw [List.nil_append]
  have hel : (edgL (A ++ B)).length ≤ 80000 := by rw [edgL_len, List.length_append]; omega
  have hsl : (sortI (edgL (A ++ B))).length = (edgL (A ++ B)).length := by unfold sortI; simp
  refine ⟨by omega, by omega, ?_⟩
  have hxl : (uniqI (edgL (A ++ B))).length ≤ 80000 := Nat.le_trans (uniqI_len _) hel
  have hxe : compI (sortI (edgL (A ++ B))) = uniqI (edgL (A ++ B)) := rfl
  rw [hxe]
  have hp : post (spansG (fun x => xorS (insS A x) (insS B x)) [] (uniqI (edgL (A ++ B)))) := hp
  generalize uniqI (edgL (A ++ B)) = xs at hxl hp ⊢
  refine LOOP.fuel (fun u => ∃ (k : Nat) (acc : List Sp), u.1 = ((k + 1 : Nat) : Int) ∧ u.2.1 = acc ∧ k ≤ xs.length ∧ spansG (fun x => xorS (insS A x) (insS B x)) acc (xs.drop k) = spansG (fun x => xorS (insS A x) (insS B x)) [] xs ∧ acc.length ≤ k) (fun u => xs.length + 1 - Int.toNat u.1) ⟨0, [], rfl, rfl, Nat.zero_le _, rfl, Nat.le_refl _⟩ ?_
  rintro rec ⟨(z2 : Int), (z3 : List region_Span), ⟨⟩⟩ ⟨k, acc, i1, i2, i3, i4, i5⟩ hrec
  have i1 : z2 = ((k + 1 : Nat) : Int) := i1
  have i2 : z3 = acc := i2
  subst i1 i2
  have i5 : z3.length ≤ k := i5
  intro _
  refine IFB.mk (fun hb => ?_) (fun hb => ?_)
  · have hb : ((k + 1 : Nat) : Int) < xs.length := of_decide_eq_true hb
    have hb : k + 1 < xs.length := by omega
    obtain ⟨d1, d2⟩ := drop_two hb
    have w1 : IntKind.i64.wrap (((k + 1 : Nat) : Int) - 1) = k := by rw [wrap_in (by omega) (by omega)]; omega
    refine JOIN.opq fun (J : List Sp → Prop) hJ => ?_
    rw [w1]
    have hgo : ∀ acc', acc'.length ≤ k + 1 → spansG (fun x => xorS (insS A x) (insS B x)) acc' (xs.drop (k + 1)) = spansG (fun x => xorS (insS A x) (insS B x)) [] xs → J acc' := fun acc' hle hG => by
      rw [hJ]
      show rec (IntKind.i64.wrap (((k + 1 : Nat) : Int) + 1)) _
      rw [wrapS (by omega)]
      exact hrec (((k + 2 : Nat) : Int), acc', ()) ⟨k + 1, acc', rfl, rfl, by omega, hG, hle⟩ (by show xs.length + 1 - ((k + 2 : Nat) : Int).toNat < xs.length + 1 - ((k + 1 : Nat) : Int).toNat; omega)
    have hstep : spansG (fun x => xorS (insS A x) (insS B x)) (if xorS (insS A (ix xs (k : Int))) (insS B (ix xs (k : Int))) = true then addSp z3 (ix xs (k : Int)) (ix xs ((k + 1 : Nat) : Int)) else z3) (xs.drop (k + 1)) = spansG (fun x => xorS (insS A x) (insS B x)) [] xs := by
      rw [← i4, d1, d2]
      rfl
    unfold xorS at hstep
    generalize ix xs (k : Int) = u at hstep ⊢
    generalize ix xs ((k + 1 : Nat) : Int) = v at hstep ⊢
    refine ⟨by omega, by omega, by omega, IFB.mk (fun hn => ?_) (fun hn => ?_)⟩
    · have hn : (!decide (insS A u = insS B u)) = false := by rw [Bool.not_eq_true'] at hn; exact hn
      rw [hn] at hstep
      exact hgo z3 (by omega) hstep
    · have hn : (!decide (insS A u = insS B u)) = true := by
        rw [Bool.not_eq_false'] at hn; exact hn
      rw [hn, if_pos rfl] at hstep
      intro _
      rcases List.eq_nil_or_concat z3 with rfl | ⟨Z, q, rfl⟩
      · have hj : addSp [] u v = [⟨u, v⟩] := rfl
        rw [hj] at hstep
        refine ⟨fun h => (by cases h), IFB.mk (fun hb => (by cases hb)) (fun _ => ⟨by omega, by simp, hgo _ (by simp) hstep⟩)⟩
      · rw [List.concat_eq_append] at *
        have hAl : (Z ++ [q]).length = Z.length + 1 := by simp
        have w2 : IntKind.i64.wrap (((Z ++ [q]).length : Int) - 1) = Z.length := by
          rw [hAl, wrap_in (by omega) (by omega)]
          omega
        have hq : ix (Z ++ [q]) (Z.length : Int) = q := ix_app rfl
        have hset : ∀ z, (Z ++ [q]).set (Z.length : Int).toNat z = Z ++ [z] := fun z => set_app (by simp)
        rw [w2, hq, hset]
        have hj : addSp (Z ++ [q]) u v = if q.2 = u then Z ++ [⟨q.1, v⟩] else Z ++ [q] ++ [⟨u, v⟩] := by
          unfold addSp
          simp
        rw [hj] at hstep
        have hd : decide ((0 : Int) < ((Z ++ [q]).length : Int)) = true := decide_eq_true (by omega)
        rw [hd, Bool.true_and]
        refine ⟨fun _ => by rw [hAl]; omega, IFB.mk (fun hc => ⟨by omega, by rw [hAl]; omega, ?_⟩) (fun hc => ⟨by omega, by rw [hAl]; simp only [List.length_cons, List.length_nil]; omega, ?_⟩)⟩
        · have hc : q.2 = u := of_decide_eq_true hc
          rw [if_pos hc] at hstep
          exact hgo _ (by simp only [List.length_append, List.length_cons, List.length_nil] at *; omega) hstep
        · have hc : ¬ q.2 = u := of_decide_eq_false hc
          rw [if_neg hc] at hstep
          exact hgo _ (by simp only [List.length_append, List.length_cons, List.length_nil] at *; omega) hstep
  · have hb : ¬ ((k + 1 : Nat) : Int) < xs.length := of_decide_eq_false hb
    rw [short_drop2 (by omega)] at i4
    rw [← i4] at hp
    exact hp

def pmergeA_P (A : List (region_Span)) (B : List (region_Span)) (post : List (region_Span) → Prop) : Prop := (A.length ≤ 20000 ∧ B.length ≤ 20000) ∧ post (mergeS 2 A B)
def pmergeA_sp : Spec := ⟨163, false, true, [.sl (.st .region_Span), .sl (.st .region_Span)], .dat (.sl (.st .region_Span)), fun x post => pmergeA_P (x.1 : List (region_Span)) (x.2.1 : List (region_Span)) (fun y0 => post (y0, ()))⟩
def pmergeA_C : CtxR := ⟨tau, [rule1 pconc_sp, rule3 ssort_sp, rule2 scompact_sp, rule1 pins_sp], lookJ [(0, 23, ⟨[(11, .dat (.int .i64)), (10, .own 232 (.st .region_Span))], [], [35, 36, 37, 38, 54, 53, 52, 51, 50, 49, 48, 47, 46, 12, 45, 44, 43, 42, 41, 77, 76, 75, 74, 73, 72, 71, 70, 69, 67, 66, 65, 64, 63, 62, 61, 60, 68, 59, 58, 57, 13, 56, 55, 86, 85, 84, 83, 82, 81, 80, 79, 78, 39, 40], [], []⟩), (0, 24, ⟨[(10, .own 232 (.st .region_Span))], [], [78, 79, 80, 81, 82, 83, 84, 85, 86, 55, 56, 13, 57, 58, 59, 68, 60, 61, 62, 63, 64, 65, 66, 67, 69, 70, 71, 72, 73, 74, 75, 76, 77, 41, 42, 43, 44, 45, 12, 46, 47, 48, 49, 50, 51, 52, 53, 54], [3], []⟩), (0, 7, ⟨[(19, .dat (.int .i64)), (7, .own 3 (.int .i64))], [], [20, 21, 22, 9, 23, 24, 25, 26, 27, 28, 29, 30], [], []⟩)]⟩
def pmergeA_W (A : List (region_Span)) (B : List (region_Span)) (post : List (region_Span) → Prop) : Prop := ((A.append (B.append [])).length ≤ (100000 : Nat) ∧ [A, B].length ≤ (10 : Nat)) ∧ ((↑(A.append (B.append [])).length : Int) ≤ (9223372036854775807 : Int) → LOOP [Ty.int IntKind.i64, (Ty.int IntKind.i64).sl] (fun (rec1 : Int → List Int → Prop) (z2 : Int) (z3 : List Int) ↦ IFB (decide (z2 < (↑(A.append (B.append [])).length : Int))) (((0 : Int) ≤ z2 ∧ z2 < (↑(A.append (B.append [])).length : Int)) ∧ (z3.length + [(ix (A.append (B.append [])) z2).1, (ix (A.append (B.append [])) z2).2].length) * (8 : Nat) ≤ (140737488355328 : Nat) ∧ rec1 (IntKind.i64.wrap (z2 + (1 : Int))) (z3 ++ [(ix (A.append (B.append [])) z2).1, (ix (A.append (B.append [])) z2).2])) (z3.length ≤ (1000000 : Nat) ∧ (sortI z3).length ≤ (1000000 : Nat) ∧ LOOP [Ty.int IntKind.i64, (Ty.st Sn.region_Span).sl] (fun (rec4 : Int → List region_Span → Prop) (z5 : Int) (z6 : List region_Span) ↦ (↑(compI (sortI z3)).length : Int) ≤ (9223372036854775807 : Int) → IFB (decide (z5 < (↑(compI (sortI z3)).length : Int))) (JOIN [(Ty.st Sn.region_Span).sl] (fun (y7 : List region_Span) ↦ rec4 (IntKind.i64.wrap (z5 + (1 : Int))) y7) fun (J8 : List region_Span → Prop) ↦ ((0 : Int) ≤ IntKind.i64.wrap (z5 - (1 : Int)) ∧ IntKind.i64.wrap (z5 - (1 : Int)) < (↑(compI (sortI z3)).length : Int)) ∧ A.length ≤ (1000000 : Nat) ∧ B.length ≤ (1000000 : Nat) ∧ IFB (!(insS A (ix (compI (sortI z3)) (IntKind.i64.wrap (z5 - (1 : Int)))) && insS B (ix (compI (sortI z3)) (IntKind.i64.wrap (z5 - (1 : Int)))))) (J8 z6) ((↑z6.length : Int) ≤ (9223372036854775807 : Int) → (gx true (decide ((0 : Int) < (↑z6.length : Int))) = true → (0 : Int) ≤ IntKind.i64.wrap ((↑z6.length : Int) - (1 : Int)) ∧ IntKind.i64.wrap ((↑z6.length : Int) - (1 : Int)) < (↑z6.length : Int)) ∧ IFB (decide ((0 : Int) < (↑z6.length : Int)) && decide ((ix z6 (IntKind.i64.wrap ((↑z6.length : Int) - (1 : Int)))).2 = ix (compI (sortI z3)) (IntKind.i64.wrap (z5 - (1 : Int))))) (((0 : Int) ≤ z5 ∧ z5 < (↑(compI (sortI z3)).length : Int)) ∧ ((0 : Int) ≤ IntKind.i64.wrap ((↑z6.length : Int) - (1 : Int)) ∧ IntKind.i64.wrap ((↑z6.length : Int) - (1 : Int)) < (↑z6.length : Int)) ∧ J8 (z6.set (IntKind.i64.wrap ((↑z6.length : Int) - (1 : Int))).toNat { Left := (ix z6 (IntKind.i64.wrap ((↑z6.length : Int) - (1 : Int)))).1, Right := ix (compI (sortI z3)) z5 : region_Span })) (((0 : Int) ≤ z5 ∧ z5 < (↑(compI (sortI z3)).length : Int)) ∧ (z6.length + [{ Left := ix (compI (sortI z3)) (IntKind.i64.wrap (z5 - (1 : Int))), Right := ix (compI (sortI z3)) z5 : region_Span }].length) * (16 : Nat) ≤ (140737488355328 : Nat) ∧ J8 (z6 ++ [{ Left := ix (compI (sortI z3)) (IntKind.i64.wrap (z5 - (1 : Int))), Right := ix (compI (sortI z3)) z5 : region_Span }])))) (post z6)) ((1 : Int), [], PUnit.unit))) ((0 : Int), [], PUnit.unit))
theorem pmergeA_w (A : List (region_Span)) (B : List (region_Span)) (post : dens (shT pmergeA_sp.rs []) → Prop) : pmergeA_W A B (fun y0 => post (y0, ())) = walkG (callR Tryz.prog pmergeA_C (drawR Tryz.prog tau) 10 0) 163 false [tv (.sl (.st .region_Span)) A, tv (.sl (.st .region_Span)) B, .v (clo 90)] pmergeA_sp.rs post := by kernel_rfl
theorem pmergeA_of (h : ∀ (A : List (region_Span)) (B : List (region_Span)) (post : List (region_Span) → Prop), pmergeA_P A B post → pmergeA_W A B post) : SpecCOK Tryz.prog pmergeA_sp [clo 90] := SpecCOK.of_rules (C := pmergeA_C) (dr := drawR Tryz.prog tau) (n := 10) (fk := 0) (.cons (rule1_ok pconc_ok) (.cons (rule3_ok ssort_ok) (.cons (rule2_ok scompact_ok) (.cons (rule1_ok pins_ok) .nil)))) (drawR_ok tau) fun x post hp => HoldW.of (pmergeA_w x.1 x.2.1 post) (h x.1 x.2.1 (fun y0 => post (y0, ())) hp)
theorem howS_2' (a b : Bool) : howS 2 a b = (a && b) := by unfold howS; simp
theorem pmergeA_ok : SpecCOK Tryz.prog pmergeA_sp [clo 90] := pmergeA_of fun A B post hp => by
  obtain ⟨⟨h1, h2⟩, hp⟩ := hp
  unfold pmergeA_W
  have e : A.append (B.append []) = A ++ B := by show A ++ (B ++ []) = A ++ B; rw [List.append_nil]
  rw [e]
  refine ⟨⟨by rw [List.length_append]; omega, by simp⟩, fun _ => ?_⟩
  refine edg_in (l := A ++ B) (A := []) (K := fun z3 => z3.length ≤ (1000000 : Nat) ∧ (sortI z3).length ≤ (1000000 : Nat) ∧ _) (by simp only [List.length_nil, List.length_append]; omega) ?_
  rw [List.nil_append]
  have hel : (edgL (A ++ B)).length ≤ 80000 := by rw [edgL_len, List.length_append]; omega
  have hsl : (sortI (edgL (A ++ B))).length = (edgL (A ++ B)).length := by unfold sortI; simp
  refine ⟨by omega, by omega, ?_⟩
  have hxl : (uniqI (edgL (A ++ B))).length ≤ 80000 := Nat.le_trans (uniqI_len _) hel
  have hxe : compI (sortI (edgL (A ++ B))) = uniqI (edgL (A ++ B)) := rfl
  rw [hxe]
  have hp : post (spansG (fun x => howS 2 (insS A x) (insS B x)) [] (uniqI (edgL (A ++ B)))) := hp
  generalize uniqI (edgL (A ++ B)) = xs at hxl hp ⊢
  refine LOOP.fuel (fun u => ∃ (k : Nat) (acc : List Sp), u.1 = ((k + 1 : Nat) : Int) ∧ u.2.1 = acc ∧ k ≤ xs.length ∧ spansG (fun x => howS 2 (insS A x) (insS B x)) acc (xs.drop k) = spansG (fun x => howS 2 (insS A x) (insS B x)) [] xs ∧ acc.length ≤ k) (fun u => xs.length + 1 - Int.toNat u.1) ⟨0, [], rfl, rfl, Nat.zero_le _, rfl, Nat.le_refl _⟩ ?_
  rintro rec ⟨(z2 : Int), (z3 : List region_Span), ⟨⟩⟩ ⟨k, acc, i1, i2, i3, i4, i5⟩ hrec
  have i1 : z2 = ((k + 1 : Nat) : Int) := i1
  have i2 : z3 = acc := i2
  subst i1 i2
  have i5 : z3.length ≤ k := i5
  intro _
  refine IFB.mk (fun hb => ?_) (fun hb => ?_)
  · have hb : ((k + 1 : Nat) : Int) < xs.length := of_decide_eq_true hb
    have hb : k + 1 < xs.length := by omega
    obtain ⟨d1, d2⟩ := drop_two hb
    have w1 : IntKind.i64.wrap (((k + 1 : Nat) : Int) - 1) = k := by rw [wrap_in (by omega) (by omega)]; omega
    refine JOIN.opq fun (J : List Sp → Prop) hJ => ?_
    rw [w1]
    have hgo : ∀ acc', acc'.length ≤ k + 1 → spansG (fun x => howS 2 (insS A x) (insS B x)) acc' (xs.drop (k + 1)) = spansG (fun x => howS 2 (insS A x) (insS B x)) [] xs → J acc' := fun acc' hle hG => by
      rw [hJ]
      show rec (IntKind.i64.wrap (((k + 1 : Nat) : Int) + 1)) _
      rw [wrapS (by omega)]
      exact hrec (((k + 2 : Nat) : Int), acc', ()) ⟨k + 1, acc', rfl, rfl, by omega, hG, hle⟩ (by show xs.length + 1 - ((k + 2 : Nat) : Int).toNat < xs.length + 1 - ((k + 1 : Nat) : Int).toNat; omega)
    have hstep : spansG (fun x => howS 2 (insS A x) (insS B x)) (if howS 2 (insS A (ix xs (k : Int))) (insS B (ix xs (k : Int))) = true then addSp z3 (ix xs (k : Int)) (ix xs ((k + 1 : Nat) : Int)) else z3) (xs.drop (k + 1)) = spansG (fun x => howS 2 (insS A x) (insS B x)) [] xs := by
      rw [← i4, d1, d2]
      rfl
    rw [howS_2'] at hstep
    generalize ix xs (k : Int) = u at hstep ⊢
    generalize ix xs ((k + 1 : Nat) : Int) = v at hstep ⊢
    refine ⟨by omega, by omega, by omega, IFB.mk (fun hn => ?_) (fun hn => ?_)⟩
    · have hn : (insS A u && insS B u) = false := by rw [Bool.not_eq_true'] at hn; exact hn
      rw [hn] at hstep
      exact hgo z3 (by omega) hstep
    · have hn : (insS A u && insS B u) = true := by
        rw [Bool.not_eq_false'] at hn; exact hn
      rw [hn, if_pos rfl] at hstep
      intro _
      rcases List.eq_nil_or_concat z3 with rfl | ⟨Z, q, rfl⟩
      · have hj : addSp [] u v = [⟨u, v⟩] := rfl
        rw [hj] at hstep
        refine ⟨fun h => (by cases h), IFB.mk (fun hb => (by cases hb)) (fun _ => ⟨by omega, by simp, hgo _ (by simp) hstep⟩)⟩
      · rw [List.concat_eq_append] at *
        have hAl : (Z ++ [q]).length = Z.length + 1 := by simp
        have w2 : IntKind.i64.wrap (((Z ++ [q]).length : Int) - 1) = Z.length := by
          rw [hAl, wrap_in (by omega) (by omega)]
          omega
        have hq : ix (Z ++ [q]) (Z.length : Int) = q := ix_app rfl
        have hset : ∀ z, (Z ++ [q]).set (Z.length : Int).toNat z = Z ++ [z] := fun z => set_app (by simp)
        rw [w2, hq, hset]
        have hj : addSp (Z ++ [q]) u v = if q.2 = u then Z ++ [⟨q.1, v⟩] else Z ++ [q] ++ [⟨u, v⟩] := by
          unfold addSp
          simp
        rw [hj] at hstep
        have hd : decide ((0 : Int) < ((Z ++ [q]).length : Int)) = true := decide_eq_true (by omega)
        rw [hd, Bool.true_and]
        refine ⟨fun _ => by rw [hAl]; omega, IFB.mk (fun hc => ⟨by omega, by rw [hAl]; omega, ?_⟩) (fun hc => ⟨by omega, by rw [hAl]; simp only [List.length_cons, List.length_nil]; omega, ?_⟩)⟩
        · have hc : q.2 = u := of_decide_eq_true hc
          rw [if_pos hc] at hstep
          exact hgo _ (by simp only [List.length_append, List.length_cons, List.length_nil] at *; omega) hstep
        · have hc : ¬ q.2 = u := of_decide_eq_false hc
          rw [if_neg hc] at hstep
          exact hgo _ (by simp only [List.length_append, List.length_cons, List.length_nil] at *; omega) hstep
  · have hb : ¬ ((k + 1 : Nat) : Int) < xs.length := of_decide_eq_false hb
    rw [short_drop2 (by omega)] at i4
    rw [← i4] at hp
    exact hp

def pcutsL_P (ls : List (List (api_Rect))) (post : List (Int) → Prop) : Prop := (ls.flatten.length ≤ 20000 ∧ ls.length ≤ 10) ∧ post (cutsS ls.flatten)
def pcutsL_sp : Spec := ⟨161, false, true, [.sl (.sl (.st .api_Rect))], .dat (.sl (.int .i64)), fun x post => pcutsL_P (x.1 : List (List (api_Rect))) (fun y0 => post (y0, ()))⟩
def pcutsL_C : CtxR := ⟨tau, [rule3 ssort_sp, rule2 scompact_sp], lookJ [(0, 7, ⟨[(10, .dat (.int .i64)), (3, .own 3 (.int .i64))], [], [11, 12, 13, 5, 14, 15, 27, 26, 25, 24, 23, 22, 21, 20, 7, 19, 18, 16, 17, 28], [], []⟩), (0, 13, ⟨[(16, .dat (.int .i64)), (3, .own 3 (.int .i64))], [], [17, 18, 19, 7, 20, 21, 22, 23, 24, 25, 26, 27], [0], []⟩)]⟩
def pcutsL_W (ls : List (List (api_Rect))) (post : List (Int) → Prop) : Prop := (↑ls.length : Int) ≤ (9223372036854775807 : Int) → LOOP [Ty.int IntKind.i64, (Ty.int IntKind.i64).sl] (fun (rec1 : Int → List Int → Prop) (z2 : Int) (z3 : List Int) ↦ IFB (decide (z2 < (↑ls.length : Int))) (((0 : Int) ≤ z2 ∧ z2 < (↑ls.length : Int)) ∧ ((↑(ix ls z2).length : Int) ≤ (9223372036854775807 : Int) → LOOP [Ty.int IntKind.i64, (Ty.int IntKind.i64).sl] (fun (rec4 : Int → List Int → Prop) (z5 : Int) (z6 : List Int) ↦ IFB (decide (z5 < (↑(ix ls z2).length : Int))) (((0 : Int) ≤ z5 ∧ z5 < (↑(ix ls z2).length : Int)) ∧ (z6.length + [(ix (ix ls z2) z5).2, (ix (ix ls z2) z5).4].length) * (8 : Nat) ≤ (140737488355328 : Nat) ∧ rec4 (IntKind.i64.wrap (z5 + (1 : Int))) (z6 ++ [(ix (ix ls z2) z5).2, (ix (ix ls z2) z5).4])) (rec1 (IntKind.i64.wrap (z2 + (1 : Int))) z6)) ((0 : Int), z3, PUnit.unit))) (z3.length ≤ (1000000 : Nat) ∧ (sortI z3).length ≤ (1000000 : Nat) ∧ post (compI (sortI z3)))) ((0 : Int), [], PUnit.unit)
theorem pcutsL_w (ls : List (List (api_Rect))) (post : dens (shT pcutsL_sp.rs []) → Prop) : pcutsL_W ls (fun y0 => post (y0, ())) = walkG (callR Tryz.prog pcutsL_C (drawR Tryz.prog tau) 8 0) 161 false [tv (.sl (.sl (.st .api_Rect))) ls] pcutsL_sp.rs post := by kernel_rfl
theorem pcutsL_of (h : ∀ (ls : List (List (api_Rect))) (post : List (Int) → Prop), pcutsL_P ls post → pcutsL_W ls post) : SpecOK Tryz.prog pcutsL_sp := SpecOK.of_rules (C := pcutsL_C) (dr := drawR Tryz.prog tau) (n := 8) (fk := 0) (.cons (rule3_ok ssort_ok) (.cons (rule2_ok scompact_ok) .nil)) (drawR_ok tau) fun x post hp => HoldW.of (pcutsL_w x.1 post) (h x.1 (fun y0 => post (y0, ())) hp)
theorem pcutsL_ok : SpecOK Tryz.prog pcutsL_sp := pcutsL_of fun ls post hp => by
  obtain ⟨⟨h1, h2⟩, hp⟩ := hp
  unfold pcutsL_W
  intro _
  refine LOOP.list ls (fun k (s : List Int) => ((k : Int), s, ())) (fun u => Int.toNat u.1) (fun k r (s : List Int) => s ++ cutL r.flatten = cutL ls.flatten) [] rfl rfl (fun k s h => by simp) ?_ ?_
  · intro rec k x r s hd hk hkl g1 hrec
    have hx := ix_of hk
    have hlen : s.length + (2 * x.length + 2 * r.flatten.length) ≤ 40000 := by
      have := congrArg List.length g1
      rw [List.length_append, cutL_len, cutL_len, List.flatten_cons, List.length_append] at this
      omega
    show IFB _ _ _
    refine IFB.mk (fun _ => ⟨by show 0 ≤ (k : Int) ∧ (k : Int) < ls.length; omega, ?_⟩) (fun h => absurd (of_decide_eq_false h) (by show ¬ ¬ ((k : Int) < ls.length); omega))
    dsimp only
    rw [hx]
    intro _
    refine cuts_in (l := x) (A := s) (K := fun z6 => rec (IntKind.i64.wrap ((k : Int) + 1)) z6) (by omega) ?_
    rw [wrapS (by omega)]
    refine hrec _ ?_
    rw [← g1, List.flatten_cons, cutL_app, List.append_assoc]
  · intro rec s g1
    show IFB _ _ _
    refine IFB.mk (fun h => absurd (of_decide_eq_true h) (by show ¬ ((ls.length : Int) < ls.length); omega)) (fun _ => ?_)
    have g1 : s = cutL ls.flatten := by simpa [cutL] using g1
    have hlen : s.length ≤ 40000 := by rw [g1, cutL_len]; omega
    have hsl : (sortI s).length = s.length := by unfold sortI; simp
    dsimp only
    refine ⟨by omega, by omega, ?_⟩
    rw [← cuts_uniq, ← g1] at hp
    exact hp

def prowL_P (l : List (api_Rect)) (y : Int) (post : List (region_Span) → Prop) : Prop := ((∀ r ∈ l, r.Left < r.Right) ∧ l.length ≤ 20000) ∧ post (rowS l y)
def prowL_sp : Spec := ⟨164, false, true, [.sl (.st .api_Rect), .int .i64], .dat (.sl (.st .region_Span)), fun x post => prowL_P (x.1 : List (api_Rect)) (x.2.1 : Int) (fun y0 => post (y0, ()))⟩
def prowL_C : CtxR := ⟨tau, [rule3 psort_sp], lookJ [(0, 23, ⟨[(41, .dat (.int .i64)), (8, .own 232 (.st .region_Span))], [], [42, 73, 72, 71, 70, 69, 68, 67, 66, 65, 64, 63, 62, 61, 60, 58, 57, 56, 55, 54, 53, 52, 51, 50, 59, 49, 48, 47, 11, 46, 45, 10, 44, 43, 77, 76, 75, 74, 78], [], []⟩), (0, 34, ⟨[(8, .own 232 (.st .region_Span))], [], [74, 75, 76, 77, 43, 44, 10, 45, 46, 11, 47, 48, 49, 59, 50, 51, 52, 53, 54, 55, 56, 57, 58, 60, 61, 62, 63, 64, 65, 66, 67, 68, 69, 70, 71, 72, 73], [1], []⟩), (0, 7, ⟨[(14, .dat (.int .i64)), (5, .own 232 (.st .region_Span))], [], [15, 35, 34, 33, 32, 31, 30, 29, 28, 26, 25, 24, 23, 27, 22, 21, 20, 19, 18, 7, 17, 16, 36], [], []⟩), (0, 14, ⟨[(5, .own 232 (.st .region_Span))], [], [16, 17, 7, 18, 19, 20, 21, 22, 27, 23, 24, 25, 26, 28, 29, 30, 31, 32, 33, 34, 35], [0], []⟩)]⟩
def prowL_W (l : List (api_Rect)) (y : Int) (post : List (region_Span) → Prop) : Prop := (↑l.length : Int) ≤ (9223372036854775807 : Int) → LOOP [Ty.int IntKind.i64, (Ty.st Sn.region_Span).sl] (fun (rec1 : Int → List region_Span → Prop) (z2 : Int) (z3 : List region_Span) ↦ IFB (decide (z2 < (↑l.length : Int))) (JOIN [(Ty.st Sn.region_Span).sl] (fun (y4 : List region_Span) ↦ rec1 (IntKind.i64.wrap (z2 + (1 : Int))) y4) fun (J5 : List region_Span → Prop) ↦ ((0 : Int) ≤ z2 ∧ z2 < (↑l.length : Int)) ∧ IFB (decide ((ix l z2).2 ≤ y) && decide (y < (ix l z2).4)) ((z3.length + [{ Left := (ix l z2).1, Right := (ix l z2).3 : region_Span }].length) * (16 : Nat) ≤ (140737488355328 : Nat) ∧ J5 (z3 ++ [{ Left := (ix l z2).1, Right := (ix l z2).3 : region_Span }])) (J5 z3)) (z3.length ≤ (1000000 : Nat) ∧ ∀ (v6 : List region_Span), v6.Perm z3 → List.Pairwise (fun (s t : region_Span) ↦ s.1 ≤ t.1) v6 → (↑v6.length : Int) ≤ (9223372036854775807 : Int) → LOOP [Ty.int IntKind.i64, (Ty.st Sn.region_Span).sl] (fun (rec7 : Int → List region_Span → Prop) (z8 : Int) (z9 : List region_Span) ↦ IFB (decide (z8 < (↑v6.length : Int))) (JOIN [(Ty.st Sn.region_Span).sl] (fun (y10 : List region_Span) ↦ rec7 (IntKind.i64.wrap (z8 + (1 : Int))) y10) fun (J11 : List region_Span → Prop) ↦ ((0 : Int) ≤ z8 ∧ z8 < (↑v6.length : Int)) ∧ ((↑z9.length : Int) ≤ (9223372036854775807 : Int) → (gx true (decide ((0 : Int) < (↑z9.length : Int))) = true → (0 : Int) ≤ IntKind.i64.wrap ((↑z9.length : Int) - (1 : Int)) ∧ IntKind.i64.wrap ((↑z9.length : Int) - (1 : Int)) < (↑z9.length : Int)) ∧ IFB (decide ((0 : Int) < (↑z9.length : Int)) && decide ((ix v6 z8).1 ≤ (ix z9 (IntKind.i64.wrap ((↑z9.length : Int) - (1 : Int)))).2)) (((0 : Int) ≤ IntKind.i64.wrap ((↑z9.length : Int) - (1 : Int)) ∧ IntKind.i64.wrap ((↑z9.length : Int) - (1 : Int)) < (↑z9.length : Int)) ∧ ((0 : Int) ≤ IntKind.i64.wrap ((↑z9.length : Int) - (1 : Int)) ∧ IntKind.i64.wrap ((↑z9.length : Int) - (1 : Int)) < (↑z9.length : Int)) ∧ J11 (z9.set (IntKind.i64.wrap ((↑z9.length : Int) - (1 : Int))).toNat { Left := (ix z9 (IntKind.i64.wrap ((↑z9.length : Int) - (1 : Int)))).1, Right := Max.max (ix z9 (IntKind.i64.wrap ((↑z9.length : Int) - (1 : Int)))).2 (ix v6 z8).2 : region_Span })) ((z9.length + [{ Left := (ix v6 z8).1, Right := (ix v6 z8).2 : region_Span }].length) * (16 : Nat) ≤ (140737488355328 : Nat) ∧ J11 (z9 ++ [{ Left := (ix v6 z8).1, Right := (ix v6 z8).2 : region_Span }])))) (post z9)) ((0 : Int), [], PUnit.unit))) ((0 : Int), [], PUnit.unit)
theorem prowL_w (l : List (api_Rect)) (y : Int) (post : dens (shT prowL_sp.rs []) → Prop) : prowL_W l y (fun y0 => post (y0, ())) = walkG (callR Tryz.prog prowL_C (drawR Tryz.prog tau) 10 0) 164 false [tv (.sl (.st .api_Rect)) l, tv (.int .i64) y] prowL_sp.rs post := by kernel_rfl
theorem prowL_of (h : ∀ (l : List (api_Rect)) (y : Int) (post : List (region_Span) → Prop), prowL_P l y post → prowL_W l y post) : SpecOK Tryz.prog prowL_sp := SpecOK.of_rules (C := prowL_C) (dr := drawR Tryz.prog tau) (n := 10) (fk := 0) (.cons (rule3_ok psort_ok) .nil) (drawR_ok tau) fun x post hp => HoldW.of (prowL_w x.1 x.2.1 post) (h x.1 x.2.1 (fun y0 => post (y0, ())) hp)
theorem prowL_ok : SpecOK Tryz.prog prowL_sp := prowL_of fun l y post hp => by
  obtain ⟨⟨h1, h2⟩, hp⟩ := hp
  unfold prowL_W
  intro _
  refine LOOP.list l (fun k (s : List Sp) => ((k : Int), s, ())) (fun u => Int.toNat u.1) (fun k r (s : List Sp) => s ++ (onRow y r).map spanOf = (onRow y l).map spanOf ∧ s.length ≤ k) [] rfl ⟨rfl, Nat.le_refl _⟩ (fun k s h => by simp) ?_ ?_
  · intro rec k x r s hd hk hkl ⟨g1, g2⟩ hrec
    have hx := ix_of hk
    show IFB _ _ _
    refine IFB.mk (fun _ => ?_) (fun h => absurd (of_decide_eq_false h) (by show ¬ ¬ ((k : Int) < l.length); omega))
    refine JOIN.opq fun (J : List Sp → Prop) hJ => ?_
    dsimp only
    rw [hx]
    refine ⟨by omega, IFB.mk (fun hb => ?_) (fun hb => ?_)⟩
    · refine ⟨by simp only [List.length_cons, List.length_nil]; omega, ?_⟩
      rw [hJ]
      show rec (IntKind.i64.wrap ((k : Int) + 1)) _
      rw [wrapS (by omega)]
      refine hrec _ ⟨?_, by simp only [List.length_append, List.length_cons, List.length_nil]; omega⟩
      rw [← g1, onRow_cons, if_pos hb]
      simp [spanOf]
    · rw [hJ]
      show rec (IntKind.i64.wrap ((k : Int) + 1)) _
      rw [wrapS (by omega)]
      refine hrec _ ⟨?_, by omega⟩
      rw [← g1, onRow_cons, if_neg (by rw [hb]; simp)]
  · intro rec s ⟨g1, g2⟩
    show IFB _ _ _
    refine IFB.mk (fun h => absurd (of_decide_eq_true h) (by show ¬ ((l.length : Int) < l.length); omega)) (fun _ => ?_)
    have g1 : s = (onRow y l).map spanOf := by simpa [onRow] using g1
    have hsl : s.length ≤ 20000 := by omega
    refine ⟨by show s.length ≤ 1000000; omega, fun v hperm hsort _ => ?_⟩
    have hvl : v.length = s.length := hperm.length_eq
    rw [← rowS_sorted h1 (g1 ▸ hperm) hsort] at hp
    refine LOOP.list v (fun k (s : List Sp) => ((k : Int), s, ())) (fun u => Int.toNat u.1) (fun k r (s : List Sp) => rowG s r = rowG [] v ∧ s.length ≤ k) [] rfl ⟨rfl, Nat.le_refl _⟩ (fun k s h => by simp) ?_ ?_
    · intro rec k x r out hd hk hkl ⟨q1, q2⟩ hrec
      have hx := ix_of hk
      show IFB _ _ _
      refine IFB.mk (fun _ => ?_) (fun h => absurd (of_decide_eq_false h) (by show ¬ ¬ ((k : Int) < v.length); omega))
      refine JOIN.opq fun (J : List Sp → Prop) hJ => ?_
      dsimp only
      rw [hx]
      have hgo : (joinSp out x).length ≤ k + 1 → J (joinSp out x) := fun hle => by
        rw [hJ]
        show rec (IntKind.i64.wrap ((k : Int) + 1)) _
        rw [wrapS (by omega)]
        exact hrec _ ⟨q1, hle⟩
      refine ⟨by omega, fun _ => ?_⟩
      rcases List.eq_nil_or_concat out with rfl | ⟨A, q, rfl⟩
      · have hj : joinSp [] x = [x] := rfl
        rw [hj] at hgo
        refine ⟨fun h => ?_, IFB.mk (fun hb => ?_) (fun hb => ⟨by simp, hgo (by simp)⟩)⟩
        · cases h
        · cases hb
      · rw [List.concat_eq_append] at *
        have w1 : IntKind.i64.wrap (((A ++ [q]).length : Int) - 1) = A.length := by
          simp only [List.length_append, List.length_cons, List.length_nil]
          rw [wrap_in (by omega) (by simp only [List.length_append, List.length_cons, List.length_nil] at q2; omega)]
          omega
        have hq : ix (A ++ [q]) (A.length : Int) = q := ix_app rfl
        have hset : ∀ z, (A ++ [q]).set (A.length : Int).toNat z = A ++ [z] := fun z => set_app (by simp)
        rw [w1, hq, hset]
        have hAl : (A ++ [q]).length = A.length + 1 := by simp
        have hj : joinSp (A ++ [q]) x = if x.Left ≤ q.Right then A ++ [⟨q.Left, max q.Right x.Right⟩] else A ++ [q] ++ [x] := by
          unfold joinSp
          simp
        rw [hj] at hgo
        refine ⟨fun _ => by omega, IFB.mk (fun hb => ⟨by omega, by omega, ?_⟩) (fun hb => ⟨by simp only [List.length_append, List.length_cons, List.length_nil] at *; omega, ?_⟩)⟩
        · rw [Bool.and_eq_true] at hb
          have hb2 : x.Left ≤ q.Right := of_decide_eq_true hb.2
          rw [if_pos hb2] at hgo
          exact hgo (by simp only [List.length_append, List.length_cons, List.length_nil] at *; omega)
        · have hb2 : ¬ x.Left ≤ q.Right := by
            intro h
            rw [Bool.and_eq_false_iff] at hb
            rcases hb with hb | hb
            · have := of_decide_eq_false hb; omega
            · exact of_decide_eq_false hb h
          rw [if_neg hb2] at hgo
          exact hgo (by simp only [List.length_append, List.length_cons, List.length_nil] at *; omega)
    · intro rec out ⟨q1, q2⟩
      show IFB _ _ _
      refine IFB.mk (fun h => absurd (of_decide_eq_true h) (by show ¬ ((v.length : Int) < v.length); omega)) (fun _ => ?_)
      have q1 : out = rowG [] v := q1
      show post out
      rw [q1]; exact hp

def pchoX_P (A : List (api_Rect)) (B : List (api_Rect)) (post : List (api_Rect) → Prop) : Prop := (((∀ r ∈ A, proper r) ∧ A.length ≤ 8000) ∧ (∀ r ∈ B, proper r) ∧ B.length ≤ 8000) ∧ post (canonF (comb xorS A B))
def pchoX_sp : Spec := ⟨89, false, true, [.sl (.st .api_Rect), .sl (.st .api_Rect)], .dat (.sl (.st .api_Rect)), fun x post => pchoX_P (x.1 : List (api_Rect)) (x.2.1 : List (api_Rect)) (fun y0 => post (y0, ()))⟩
def pchoX_C : CtxR := ⟨tau, [rule1 pcutsL_sp, rule1 prowL_sp, rule1 peqs_sp, rule1 prects_sp, ruleC pmergeX_sp 193], lookJ [(1027, 7, ⟨[(6, .dat (.int .i64)), (5, .own 229 (.st .region_band))], [], [9, 10, 11, 12, 64, 63, 62, 61, 60, 59, 58, 56, 55, 54, 53, 52, 51, 50, 49, 48, 45, 44, 43, 42, 41, 40, 39, 38, 37, 57, 47, 46, 36, 35, 34, 8, 33, 32, 7, 31, 30, 29, 28, 27, 26, 25, 24, 23, 22, 21, 20, 19, 18, 17, 16, 15, 68, 67, 66, 65, 13, 14], [], []⟩), (1027, 8, ⟨[(5, .own 229 (.st .region_band))], [], [65, 66, 67, 68, 15, 16, 17, 18, 19, 20, 21, 22, 23, 24, 25, 26, 27, 28, 29, 30, 31, 7, 32, 33, 8, 34, 35, 36, 46, 47, 57, 37, 38, 39, 40, 41, 42, 43, 44, 45, 48, 49, 50, 51, 52, 53, 54, 55, 56, 58, 59, 60, 61, 62, 63, 64], [4], []⟩), (1070592028, 1000001, ⟨[(5, .dat (.sl (.st .region_Span)))], [], [6, 7, 8, 9, 10, 11, 12, 13], [], []⟩)]⟩
def pchoX_W (A : List (api_Rect)) (B : List (api_Rect)) (post : List (api_Rect) → Prop) : Prop := ((A.append (B.append [])).length ≤ (20000 : Nat) ∧ [A, B].length ≤ (10 : Nat)) ∧ LOOP [Ty.int IntKind.i64, (Ty.st Sn.region_band).sl] (fun (rec1 : Int → List region_band → Prop) (z2 : Int) (z3 : List region_band) ↦ (↑(cutsS (A.append (B.append []))).length : Int) ≤ (9223372036854775807 : Int) → IFB (decide (z2 < (↑(cutsS (A.append (B.append []))).length : Int))) (JOIN [(Ty.st Sn.region_band).sl] (fun (y4 : List region_band) ↦ rec1 (IntKind.i64.wrap (z2 + (1 : Int))) y4) fun (J5 : List region_band → Prop) ↦ ((0 : Int) ≤ IntKind.i64.wrap (z2 - (1 : Int)) ∧ IntKind.i64.wrap (z2 - (1 : Int)) < (↑(cutsS (A.append (B.append []))).length : Int)) ∧ ((0 : Int) ≤ z2 ∧ z2 < (↑(cutsS (A.append (B.append []))).length : Int)) ∧ ((0 : Int) ≤ IntKind.i64.wrap (z2 - (1 : Int)) ∧ IntKind.i64.wrap (z2 - (1 : Int)) < (↑(cutsS (A.append (B.append []))).length : Int)) ∧ (JOIN [(Ty.st Sn.region_Span).sl] (fun (y6 : List region_Span) ↦ ((↑z3.length : Int) ≤ (9223372036854775807 : Int) → (gx true (decide ((0 : Int) < (↑z3.length : Int))) = true → (0 : Int) ≤ IntKind.i64.wrap ((↑z3.length : Int) - (1 : Int)) ∧ IntKind.i64.wrap ((↑z3.length : Int) - (1 : Int)) < (↑z3.length : Int)) ∧ (gx true (decide ((0 : Int) < (↑z3.length : Int)) && decide ((ix z3 (IntKind.i64.wrap ((↑z3.length : Int) - (1 : Int)))).2 = ix (cutsS (A.append (B.append []))) (IntKind.i64.wrap (z2 - (1 : Int))))) = true → (0 : Int) ≤ IntKind.i64.wrap ((↑z3.length : Int) - (1 : Int)) ∧ IntKind.i64.wrap ((↑z3.length : Int) - (1 : Int)) < (↑z3.length : Int)) ∧ JOIN [Ty.bool] (fun (y7 : Bool) ↦ IFB (decide ((0 : Int) < (↑z3.length : Int)) && decide ((ix z3 (IntKind.i64.wrap ((↑z3.length : Int) - (1 : Int)))).2 = ix (cutsS (A.append (B.append []))) (IntKind.i64.wrap (z2 - (1 : Int)))) && y7) (((0 : Int) ≤ IntKind.i64.wrap ((↑z3.length : Int) - (1 : Int)) ∧ IntKind.i64.wrap ((↑z3.length : Int) - (1 : Int)) < (↑z3.length : Int)) ∧ J5 (z3.set (IntKind.i64.wrap ((↑z3.length : Int) - (1 : Int))).toNat { low := (ix z3 (IntKind.i64.wrap ((↑z3.length : Int) - (1 : Int)))).1, high := ix (cutsS (A.append (B.append []))) z2, spans := (ix z3 (IntKind.i64.wrap ((↑z3.length : Int) - (1 : Int)))).3 : region_band })) ((z3.length + [{ low := ix (cutsS (A.append (B.append []))) (IntKind.i64.wrap (z2 - (1 : Int))), high := ix (cutsS (A.append (B.append []))) z2, spans := y6 : region_band }].length) * (40 : Nat) ≤ (140737488355328 : Nat) ∧ J5 (z3 ++ [{ low := ix (cutsS (A.append (B.append []))) (IntKind.i64.wrap (z2 - (1 : Int))), high := ix (cutsS (A.append (B.append []))) z2, spans := y6 : region_band }]))) fun (J8 : Bool → Prop) ↦ IFB (gx true (decide ((0 : Int) < (↑z3.length : Int)) && decide ((ix z3 (IntKind.i64.wrap ((↑z3.length : Int) - (1 : Int)))).2 = ix (cutsS (A.append (B.append []))) (IntKind.i64.wrap (z2 - (1 : Int)))))) ((ix z3 (IntKind.i64.wrap ((↑z3.length : Int) - (1 : Int)))).3.length ≤ (1000000000 : Nat) ∧ ∀ (v9 : Bool), (v9 = true ↔ (ix z3 (IntKind.i64.wrap ((↑z3.length : Int) - (1 : Int)))).3 = y6) → J8 v9) (J8 false)) ∧ ((↑z3.length : Int) ≤ (9223372036854775807 : Int) → (gx true (decide ((0 : Int) < (↑z3.length : Int))) = true → (0 : Int) ≤ IntKind.i64.wrap ((↑z3.length : Int) - (1 : Int)) ∧ IntKind.i64.wrap ((↑z3.length : Int) - (1 : Int)) < (↑z3.length : Int)) ∧ (gx true (decide ((0 : Int) < (↑z3.length : Int)) && decide ((ix z3 (IntKind.i64.wrap ((↑z3.length : Int) - (1 : Int)))).2 = ix (cutsS (A.append (B.append []))) (IntKind.i64.wrap (z2 - (1 : Int))))) = true → (0 : Int) ≤ IntKind.i64.wrap ((↑z3.length : Int) - (1 : Int)) ∧ IntKind.i64.wrap ((↑z3.length : Int) - (1 : Int)) < (↑z3.length : Int)) ∧ JOIN [Ty.bool] (fun (y10 : Bool) ↦ IFB (decide ((0 : Int) < (↑z3.length : Int)) && decide ((ix z3 (IntKind.i64.wrap ((↑z3.length : Int) - (1 : Int)))).2 = ix (cutsS (A.append (B.append []))) (IntKind.i64.wrap (z2 - (1 : Int)))) && y10) (((0 : Int) ≤ IntKind.i64.wrap ((↑z3.length : Int) - (1 : Int)) ∧ IntKind.i64.wrap ((↑z3.length : Int) - (1 : Int)) < (↑z3.length : Int)) ∧ J5 (z3.set (IntKind.i64.wrap ((↑z3.length : Int) - (1 : Int))).toNat { low := (ix z3 (IntKind.i64.wrap ((↑z3.length : Int) - (1 : Int)))).1, high := ix (cutsS (A.append (B.append []))) z2, spans := (ix z3 (IntKind.i64.wrap ((↑z3.length : Int) - (1 : Int)))).3 : region_band })) ((z3.length + [{ low := ix (cutsS (A.append (B.append []))) (IntKind.i64.wrap (z2 - (1 : Int))), high := ix (cutsS (A.append (B.append []))) z2, spans := y6 : region_band }].length) * (40 : Nat) ≤ (140737488355328 : Nat) ∧ J5 (z3 ++ [{ low := ix (cutsS (A.append (B.append []))) (IntKind.i64.wrap (z2 - (1 : Int))), high := ix (cutsS (A.append (B.append []))) z2, spans := y6 : region_band }]))) fun (J11 : Bool → Prop) ↦ IFB (gx true (decide ((0 : Int) < (↑z3.length : Int)) && decide ((ix z3 (IntKind.i64.wrap ((↑z3.length : Int) - (1 : Int)))).2 = ix (cutsS (A.append (B.append []))) (IntKind.i64.wrap (z2 - (1 : Int)))))) ((ix z3 (IntKind.i64.wrap ((↑z3.length : Int) - (1 : Int)))).3.length ≤ (1000000000 : Nat) ∧ ∀ (v12 : Bool), (v12 = true ↔ (ix z3 (IntKind.i64.wrap ((↑z3.length : Int) - (1 : Int)))).3 = y6) → J11 v12) (J11 false))) fun (J13 : List region_Span → Prop) ↦ ((∀ (v14 : api_Rect), v14 ∈ A → v14.1 < v14.3) ∧ A.length ≤ (20000 : Nat)) ∧ ((∀ (v15 : api_Rect), v15 ∈ B → v15.1 < v15.3) ∧ B.length ≤ (20000 : Nat)) ∧ ((rowS A (ix (cutsS (A.append (B.append []))) (IntKind.i64.wrap (z2 - (1 : Int))))).length ≤ (20000 : Nat) ∧ (rowS B (ix (cutsS (A.append (B.append []))) (IntKind.i64.wrap (z2 - (1 : Int))))).length ≤ (20000 : Nat)) ∧ J13 (mergeX xorS (rowS A (ix (cutsS (A.append (B.append []))) (IntKind.i64.wrap (z2 - (1 : Int))))) (rowS B (ix (cutsS (A.append (B.append []))) (IntKind.i64.wrap (z2 - (1 : Int))))))) ∧ JOIN [(Ty.st Sn.region_Span).sl] (fun (y16 : List region_Span) ↦ (↑z3.length : Int) ≤ (9223372036854775807 : Int) → (gx true (decide ((0 : Int) < (↑z3.length : Int))) = true → (0 : Int) ≤ IntKind.i64.wrap ((↑z3.length : Int) - (1 : Int)) ∧ IntKind.i64.wrap ((↑z3.length : Int) - (1 : Int)) < (↑z3.length : Int)) ∧ (gx true (decide ((0 : Int) < (↑z3.length : Int)) && decide ((ix z3 (IntKind.i64.wrap ((↑z3.length : Int) - (1 : Int)))).2 = ix (cutsS (A.append (B.append []))) (IntKind.i64.wrap (z2 - (1 : Int))))) = true → (0 : Int) ≤ IntKind.i64.wrap ((↑z3.length : Int) - (1 : Int)) ∧ IntKind.i64.wrap ((↑z3.length : Int) - (1 : Int)) < (↑z3.length : Int)) ∧ JOIN [Ty.bool] (fun (y17 : Bool) ↦ IFB (decide ((0 : Int) < (↑z3.length : Int)) && decide ((ix z3 (IntKind.i64.wrap ((↑z3.length : Int) - (1 : Int)))).2 = ix (cutsS (A.append (B.append []))) (IntKind.i64.wrap (z2 - (1 : Int)))) && y17) (((0 : Int) ≤ IntKind.i64.wrap ((↑z3.length : Int) - (1 : Int)) ∧ IntKind.i64.wrap ((↑z3.length : Int) - (1 : Int)) < (↑z3.length : Int)) ∧ J5 (z3.set (IntKind.i64.wrap ((↑z3.length : Int) - (1 : Int))).toNat { low := (ix z3 (IntKind.i64.wrap ((↑z3.length : Int) - (1 : Int)))).1, high := ix (cutsS (A.append (B.append []))) z2, spans := (ix z3 (IntKind.i64.wrap ((↑z3.length : Int) - (1 : Int)))).3 : region_band })) ((z3.length + [{ low := ix (cutsS (A.append (B.append []))) (IntKind.i64.wrap (z2 - (1 : Int))), high := ix (cutsS (A.append (B.append []))) z2, spans := y16 : region_band }].length) * (40 : Nat) ≤ (140737488355328 : Nat) ∧ J5 (z3 ++ [{ low := ix (cutsS (A.append (B.append []))) (IntKind.i64.wrap (z2 - (1 : Int))), high := ix (cutsS (A.append (B.append []))) z2, spans := y16 : region_band }]))) fun (J18 : Bool → Prop) ↦ IFB (gx true (decide ((0 : Int) < (↑z3.length : Int)) && decide ((ix z3 (IntKind.i64.wrap ((↑z3.length : Int) - (1 : Int)))).2 = ix (cutsS (A.append (B.append []))) (IntKind.i64.wrap (z2 - (1 : Int)))))) ((ix z3 (IntKind.i64.wrap ((↑z3.length : Int) - (1 : Int)))).3.length ≤ (1000000000 : Nat) ∧ ∀ (v19 : Bool), (v19 = true ↔ (ix z3 (IntKind.i64.wrap ((↑z3.length : Int) - (1 : Int)))).3 = y16) → J18 v19) (J18 false)) fun (J20 : List region_Span → Prop) ↦ ((∀ (v21 : api_Rect), v21 ∈ A → v21.1 < v21.3) ∧ A.length ≤ (20000 : Nat)) ∧ ((∀ (v22 : api_Rect), v22 ∈ B → v22.1 < v22.3) ∧ B.length ≤ (20000 : Nat)) ∧ ((rowS A (ix (cutsS (A.append (B.append []))) (IntKind.i64.wrap (z2 - (1 : Int))))).length ≤ (20000 : Nat) ∧ (rowS B (ix (cutsS (A.append (B.append []))) (IntKind.i64.wrap (z2 - (1 : Int))))).length ≤ (20000 : Nat)) ∧ J20 (mergeX xorS (rowS A (ix (cutsS (A.append (B.append []))) (IntKind.i64.wrap (z2 - (1 : Int))))) (rowS B (ix (cutsS (A.append (B.append []))) (IntKind.i64.wrap (z2 - (1 : Int))))))) (((flat z3).length ≤ (1000000000 : Nat) ∧ z3.length ≤ (1000000000 : Nat)) ∧ post (flat z3))) ((1 : Int), [], PUnit.unit)
theorem pchoX_w (A : List (api_Rect)) (B : List (api_Rect)) (post : dens (shT pchoX_sp.rs []) → Prop) : pchoX_W A B (fun y0 => post (y0, ())) = walkG (callR Tryz.prog pchoX_C (drawR Tryz.prog tau) 12 0) 89 false [tv (.sl (.st .api_Rect)) A, tv (.sl (.st .api_Rect)) B, .v (clo 193)] pchoX_sp.rs post := by kernel_rfl
theorem pchoX_of (h : ∀ (A : List (api_Rect)) (B : List (api_Rect)) (post : List (api_Rect) → Prop), pchoX_P A B post → pchoX_W A B post) : SpecCOK Tryz.prog pchoX_sp [clo 193] := SpecCOK.of_rules (C := pchoX_C) (dr := drawR Tryz.prog tau) (n := 12) (fk := 0) (.cons (rule1_ok pcutsL_ok) (.cons (rule1_ok prowL_ok) (.cons (rule1_ok peqs_ok) (.cons (rule1_ok prects_ok) (.cons (ruleC_ok pmergeX_ok) .nil))))) (drawR_ok tau) fun x post hp => HoldW.of (pchoX_w x.1 x.2.1 post) (h x.1 x.2.1 (fun y0 => post (y0, ())) hp)
theorem pchoX_ok : SpecCOK Tryz.prog pchoX_sp [clo 193] := pchoX_of fun l m post hp => by
  obtain ⟨⟨⟨g1, hl1⟩, g2, hl2⟩, hp⟩ := hp
  unfold pchoX_W
  have e : l.append (m.append []) = l ++ m := by show l ++ (m ++ []) = l ++ m; rw [List.append_nil]
  rw [e]
  have hlm : (l ++ m).length ≤ 16000 := by rw [List.length_append]; omega
  have hcl := cutsS_len (l := l ++ m)
  have hJ4 : (flat (buildG (fun y => mergeX xorS (rowS l y) (rowS m y)) [] (cutsS (l ++ m)))).length ≤ 268435456 := by
    rw [← chooseX_build xorS_0]
    exact box_len (comb_ok (xorS_0) l m).1 fun x y hc => by
      rw [(comb_ok (xorS_0) l m).2] at hc
      unfold comb xorS at hc
      cases h1 : cov l x y with
      | true => exact proper_box g1 h1
      | false => cases h2 : cov m x y with
        | true => exact proper_box g2 h2
        | false => rw [h1, h2] at hc; cases hc
  rw [chooseX_build xorS_0] at hp
  refine ⟨⟨by omega, by simp⟩, ?_⟩
  have hmlen : ∀ y, (mergeX xorS (rowS l y) (rowS m y)).length ≤ 100000 := fun y => by
    unfold mergeX spansOf
    have q1 := spansG_len (p := fun x => xorS (insS (rowS l y) x) (insS (rowS m y) x)) (xs := uniqI (edgL (rowS l y ++ rowS m y))) (out := [])
    have q2 := uniqI_len (edgL (rowS l y ++ rowS m y))
    rw [edgL_len, List.length_append] at q2
    have q3 := rowS_len (l := l) (y := y)
    have q4 := rowS_len (l := m) (y := y)
    simp only [List.length_nil] at q1
    omega
  refine build_loop (xs := cutsS (l ++ m)) (R := fun y => mergeX xorS (rowS l y) (rowS m y)) hmlen (by omega) (fun rec k acc hk hal has hrec => ?_) (fun hlen => ⟨⟨by omega, by omega⟩, hp⟩)
  refine JOIN.opq fun (J9 : List Bd → Prop) hJ9 => ?_
  have w1 : IntKind.i64.wrap (((k + 1 : Nat) : Int) - 1) = k := by rw [wrap_in (by omega) (by omega)]; omega
  rw [w1]
  have hJ9 : J9 (addBd acc (ix (cutsS (l ++ m)) (k : Int)) (ix (cutsS (l ++ m)) ((k + 1 : Nat) : Int)) (mergeX xorS (rowS l (ix (cutsS (l ++ m)) (k : Int))) (rowS m (ix (cutsS (l ++ m)) (k : Int))))) := by
    rw [hJ9]
    show rec (IntKind.i64.wrap (((k + 1 : Nat) : Int) + 1)) _
    rw [wrapS (by omega)]
    exact hrec
  have main := bandM_ok (by omega) (fun b hb => Nat.le_trans (has b hb) (by omega)) hJ9
  have q3 := rowS_len (l := l) (y := ix (cutsS (l ++ m)) (k : Int))
  have q4 := rowS_len (l := m) (y := ix (cutsS (l ++ m)) (k : Int))
  have hD1 : (∀ v : api_Rect, v ∈ l → v.1 < v.3) ∧ l.length ≤ 20000 := ⟨fun r hr => (g1 r hr).2.1, by omega⟩
  have hD2 : (∀ v : api_Rect, v ∈ m → v.1 < v.3) ∧ m.length ≤ 20000 := ⟨fun r hr => (g2 r hr).2.1, by omega⟩
  refine ⟨by omega, by omega, by omega, ?_, ?_⟩
  · refine JOIN.opq fun (J17 : List Sp → Prop) hJ17 => ⟨hD1, hD2, ⟨by omega, by omega⟩, ?_⟩
    rw [hJ17]
    exact ⟨main, main⟩
  · refine JOIN.opq fun (J17 : List Sp → Prop) hJ17 => ⟨hD1, hD2, ⟨by omega, by omega⟩, ?_⟩
    rw [hJ17]
    exact main

def pchoA_P (A : List (api_Rect)) (B : List (api_Rect)) (post : List (api_Rect) → Prop) : Prop := (((∀ r ∈ A, proper r) ∧ A.length ≤ 8000) ∧ (∀ r ∈ B, proper r) ∧ B.length ≤ 8000) ∧ post (canonF (comb (howS 2) A B))
def pchoA_sp : Spec := ⟨89, false, true, [.sl (.st .api_Rect), .sl (.st .api_Rect)], .dat (.sl (.st .api_Rect)), fun x post => pchoA_P (x.1 : List (api_Rect)) (x.2.1 : List (api_Rect)) (fun y0 => post (y0, ()))⟩
def pchoA_C : CtxR := ⟨tau, [rule1 pcutsL_sp, rule1 prowL_sp, rule1 peqs_sp, rule1 prects_sp, ruleC pmergeA_sp 90], lookJ [(1027, 7, ⟨[(6, .dat (.int .i64)), (5, .own 229 (.st .region_band))], [], [9, 10, 11, 12, 64, 63, 62, 61, 60, 59, 58, 56, 55, 54, 53, 52, 51, 50, 49, 48, 45, 44, 43, 42, 41, 40, 39, 38, 37, 57, 47, 46, 36, 35, 34, 8, 33, 32, 7, 31, 30, 29, 28, 27, 26, 25, 24, 23, 22, 21, 20, 19, 18, 17, 16, 15, 68, 67, 66, 65, 13, 14], [], []⟩), (1027, 8, ⟨[(5, .own 229 (.st .region_band))], [], [65, 66, 67, 68, 15, 16, 17, 18, 19, 20, 21, 22, 23, 24, 25, 26, 27, 28, 29, 30, 31, 7, 32, 33, 8, 34, 35, 36, 46, 47, 57, 37, 38, 39, 40, 41, 42, 43, 44, 45, 48, 49, 50, 51, 52, 53, 54, 55, 56, 58, 59, 60, 61, 62, 63, 64], [4], []⟩), (1070592028, 1000001, ⟨[(5, .dat (.sl (.st .region_Span)))], [], [6, 7, 8, 9, 10, 11, 12, 13], [], []⟩)]⟩
def pchoA_W (A : List (api_Rect)) (B : List (api_Rect)) (post : List (api_Rect) → Prop) : Prop := ((A.append (B.append [])).length ≤ (20000 : Nat) ∧ [A, B].length ≤ (10 : Nat)) ∧ LOOP [Ty.int IntKind.i64, (Ty.st Sn.region_band).sl] (fun (rec1 : Int → List region_band → Prop) (z2 : Int) (z3 : List region_band) ↦ (↑(cutsS (A.append (B.append []))).length : Int) ≤ (9223372036854775807 : Int) → IFB (decide (z2 < (↑(cutsS (A.append (B.append []))).length : Int))) (JOIN [(Ty.st Sn.region_band).sl] (fun (y4 : List region_band) ↦ rec1 (IntKind.i64.wrap (z2 + (1 : Int))) y4) fun (J5 : List region_band → Prop) ↦ ((0 : Int) ≤ IntKind.i64.wrap (z2 - (1 : Int)) ∧ IntKind.i64.wrap (z2 - (1 : Int)) < (↑(cutsS (A.append (B.append []))).length : Int)) ∧ ((0 : Int) ≤ z2 ∧ z2 < (↑(cutsS (A.append (B.append []))).length : Int)) ∧ ((0 : Int) ≤ IntKind.i64.wrap (z2 - (1 : Int)) ∧ IntKind.i64.wrap (z2 - (1 : Int)) < (↑(cutsS (A.append (B.append []))).length : Int)) ∧ (JOIN [(Ty.st Sn.region_Span).sl] (fun (y6 : List region_Span) ↦ ((↑z3.length : Int) ≤ (9223372036854775807 : Int) → (gx true (decide ((0 : Int) < (↑z3.length : Int))) = true → (0 : Int) ≤ IntKind.i64.wrap ((↑z3.length : Int) - (1 : Int)) ∧ IntKind.i64.wrap ((↑z3.length : Int) - (1 : Int)) < (↑z3.length : Int)) ∧ (gx true (decide ((0 : Int) < (↑z3.length : Int)) && decide ((ix z3 (IntKind.i64.wrap ((↑z3.length : Int) - (1 : Int)))).2 = ix (cutsS (A.append (B.append []))) (IntKind.i64.wrap (z2 - (1 : Int))))) = true → (0 : Int) ≤ IntKind.i64.wrap ((↑z3.length : Int) - (1 : Int)) ∧ IntKind.i64.wrap ((↑z3.length : Int) - (1 : Int)) < (↑z3.length : Int)) ∧ JOIN [Ty.bool] (fun (y7 : Bool) ↦ IFB (decide ((0 : Int) < (↑z3.length : Int)) && decide ((ix z3 (IntKind.i64.wrap ((↑z3.length : Int) - (1 : Int)))).2 = ix (cutsS (A.append (B.append []))) (IntKind.i64.wrap (z2 - (1 : Int)))) && y7) (((0 : Int) ≤ IntKind.i64.wrap ((↑z3.length : Int) - (1 : Int)) ∧ IntKind.i64.wrap ((↑z3.length : Int) - (1 : Int)) < (↑z3.length : Int)) ∧ J5 (z3.set (IntKind.i64.wrap ((↑z3.length : Int) - (1 : Int))).toNat { low := (ix z3 (IntKind.i64.wrap ((↑z3.length : Int) - (1 : Int)))).1, high := ix (cutsS (A.append (B.append []))) z2, spans := (ix z3 (IntKind.i64.wrap ((↑z3.length : Int) - (1 : Int)))).3 : region_band })) ((z3.length + [{ low := ix (cutsS (A.append (B.append []))) (IntKind.i64.wrap (z2 - (1 : Int))), high := ix (cutsS (A.append (B.append []))) z2, spans := y6 : region_band }].length) * (40 : Nat) ≤ (140737488355328 : Nat) ∧ J5 (z3 ++ [{ low := ix (cutsS (A.append (B.append []))) (IntKind.i64.wrap (z2 - (1 : Int))), high := ix (cutsS (A.append (B.append []))) z2, spans := y6 : region_band }]))) fun (J8 : Bool → Prop) ↦ IFB (gx true (decide ((0 : Int) < (↑z3.length : Int)) && decide ((ix z3 (IntKind.i64.wrap ((↑z3.length : Int) - (1 : Int)))).2 = ix (cutsS (A.append (B.append []))) (IntKind.i64.wrap (z2 - (1 : Int)))))) ((ix z3 (IntKind.i64.wrap ((↑z3.length : Int) - (1 : Int)))).3.length ≤ (1000000000 : Nat) ∧ ∀ (v9 : Bool), (v9 = true ↔ (ix z3 (IntKind.i64.wrap ((↑z3.length : Int) - (1 : Int)))).3 = y6) → J8 v9) (J8 false)) ∧ ((↑z3.length : Int) ≤ (9223372036854775807 : Int) → (gx true (decide ((0 : Int) < (↑z3.length : Int))) = true → (0 : Int) ≤ IntKind.i64.wrap ((↑z3.length : Int) - (1 : Int)) ∧ IntKind.i64.wrap ((↑z3.length : Int) - (1 : Int)) < (↑z3.length : Int)) ∧ (gx true (decide ((0 : Int) < (↑z3.length : Int)) && decide ((ix z3 (IntKind.i64.wrap ((↑z3.length : Int) - (1 : Int)))).2 = ix (cutsS (A.append (B.append []))) (IntKind.i64.wrap (z2 - (1 : Int))))) = true → (0 : Int) ≤ IntKind.i64.wrap ((↑z3.length : Int) - (1 : Int)) ∧ IntKind.i64.wrap ((↑z3.length : Int) - (1 : Int)) < (↑z3.length : Int)) ∧ JOIN [Ty.bool] (fun (y10 : Bool) ↦ IFB (decide ((0 : Int) < (↑z3.length : Int)) && decide ((ix z3 (IntKind.i64.wrap ((↑z3.length : Int) - (1 : Int)))).2 = ix (cutsS (A.append (B.append []))) (IntKind.i64.wrap (z2 - (1 : Int)))) && y10) (((0 : Int) ≤ IntKind.i64.wrap ((↑z3.length : Int) - (1 : Int)) ∧ IntKind.i64.wrap ((↑z3.length : Int) - (1 : Int)) < (↑z3.length : Int)) ∧ J5 (z3.set (IntKind.i64.wrap ((↑z3.length : Int) - (1 : Int))).toNat { low := (ix z3 (IntKind.i64.wrap ((↑z3.length : Int) - (1 : Int)))).1, high := ix (cutsS (A.append (B.append []))) z2, spans := (ix z3 (IntKind.i64.wrap ((↑z3.length : Int) - (1 : Int)))).3 : region_band })) ((z3.length + [{ low := ix (cutsS (A.append (B.append []))) (IntKind.i64.wrap (z2 - (1 : Int))), high := ix (cutsS (A.append (B.append []))) z2, spans := y6 : region_band }].length) * (40 : Nat) ≤ (140737488355328 : Nat) ∧ J5 (z3 ++ [{ low := ix (cutsS (A.append (B.append []))) (IntKind.i64.wrap (z2 - (1 : Int))), high := ix (cutsS (A.append (B.append []))) z2, spans := y6 : region_band }]))) fun (J11 : Bool → Prop) ↦ IFB (gx true (decide ((0 : Int) < (↑z3.length : Int)) && decide ((ix z3 (IntKind.i64.wrap ((↑z3.length : Int) - (1 : Int)))).2 = ix (cutsS (A.append (B.append []))) (IntKind.i64.wrap (z2 - (1 : Int)))))) ((ix z3 (IntKind.i64.wrap ((↑z3.length : Int) - (1 : Int)))).3.length ≤ (1000000000 : Nat) ∧ ∀ (v12 : Bool), (v12 = true ↔ (ix z3 (IntKind.i64.wrap ((↑z3.length : Int) - (1 : Int)))).3 = y6) → J11 v12) (J11 false))) fun (J13 : List region_Span → Prop) ↦ ((∀ (v14 : api_Rect), v14 ∈ A → v14.1 < v14.3) ∧ A.length ≤ (20000 : Nat)) ∧ ((∀ (v15 : api_Rect), v15 ∈ B → v15.1 < v15.3) ∧ B.length ≤ (20000 : Nat)) ∧ ((rowS A (ix (cutsS (A.append (B.append []))) (IntKind.i64.wrap (z2 - (1 : Int))))).length ≤ (20000 : Nat) ∧ (rowS B (ix (cutsS (A.append (B.append []))) (IntKind.i64.wrap (z2 - (1 : Int))))).length ≤ (20000 : Nat)) ∧ J13 (mergeS (2 : Int) (rowS A (ix (cutsS (A.append (B.append []))) (IntKind.i64.wrap (z2 - (1 : Int))))) (rowS B (ix (cutsS (A.append (B.append []))) (IntKind.i64.wrap (z2 - (1 : Int))))))) ∧ JOIN [(Ty.st Sn.region_Span).sl] (fun (y16 : List region_Span) ↦ (↑z3.length : Int) ≤ (9223372036854775807 : Int) → (gx true (decide ((0 : Int) < (↑z3.length : Int))) = true → (0 : Int) ≤ IntKind.i64.wrap ((↑z3.length : Int) - (1 : Int)) ∧ IntKind.i64.wrap ((↑z3.length : Int) - (1 : Int)) < (↑z3.length : Int)) ∧ (gx true (decide ((0 : Int) < (↑z3.length : Int)) && decide ((ix z3 (IntKind.i64.wrap ((↑z3.length : Int) - (1 : Int)))).2 = ix (cutsS (A.append (B.append []))) (IntKind.i64.wrap (z2 - (1 : Int))))) = true → (0 : Int) ≤ IntKind.i64.wrap ((↑z3.length : Int) - (1 : Int)) ∧ IntKind.i64.wrap ((↑z3.length : Int) - (1 : Int)) < (↑z3.length : Int)) ∧ JOIN [Ty.bool] (fun (y17 : Bool) ↦ IFB (decide ((0 : Int) < (↑z3.length : Int)) && decide ((ix z3 (IntKind.i64.wrap ((↑z3.length : Int) - (1 : Int)))).2 = ix (cutsS (A.append (B.append []))) (IntKind.i64.wrap (z2 - (1 : Int)))) && y17) (((0 : Int) ≤ IntKind.i64.wrap ((↑z3.length : Int) - (1 : Int)) ∧ IntKind.i64.wrap ((↑z3.length : Int) - (1 : Int)) < (↑z3.length : Int)) ∧ J5 (z3.set (IntKind.i64.wrap ((↑z3.length : Int) - (1 : Int))).toNat { low := (ix z3 (IntKind.i64.wrap ((↑z3.length : Int) - (1 : Int)))).1, high := ix (cutsS (A.append (B.append []))) z2, spans := (ix z3 (IntKind.i64.wrap ((↑z3.length : Int) - (1 : Int)))).3 : region_band })) ((z3.length + [{ low := ix (cutsS (A.append (B.append []))) (IntKind.i64.wrap (z2 - (1 : Int))), high := ix (cutsS (A.append (B.append []))) z2, spans := y16 : region_band }].length) * (40 : Nat) ≤ (140737488355328 : Nat) ∧ J5 (z3 ++ [{ low := ix (cutsS (A.append (B.append []))) (IntKind.i64.wrap (z2 - (1 : Int))), high := ix (cutsS (A.append (B.append []))) z2, spans := y16 : region_band }]))) fun (J18 : Bool → Prop) ↦ IFB (gx true (decide ((0 : Int) < (↑z3.length : Int)) && decide ((ix z3 (IntKind.i64.wrap ((↑z3.length : Int) - (1 : Int)))).2 = ix (cutsS (A.append (B.append []))) (IntKind.i64.wrap (z2 - (1 : Int)))))) ((ix z3 (IntKind.i64.wrap ((↑z3.length : Int) - (1 : Int)))).3.length ≤ (1000000000 : Nat) ∧ ∀ (v19 : Bool), (v19 = true ↔ (ix z3 (IntKind.i64.wrap ((↑z3.length : Int) - (1 : Int)))).3 = y16) → J18 v19) (J18 false)) fun (J20 : List region_Span → Prop) ↦ ((∀ (v21 : api_Rect), v21 ∈ A → v21.1 < v21.3) ∧ A.length ≤ (20000 : Nat)) ∧ ((∀ (v22 : api_Rect), v22 ∈ B → v22.1 < v22.3) ∧ B.length ≤ (20000 : Nat)) ∧ ((rowS A (ix (cutsS (A.append (B.append []))) (IntKind.i64.wrap (z2 - (1 : Int))))).length ≤ (20000 : Nat) ∧ (rowS B (ix (cutsS (A.append (B.append []))) (IntKind.i64.wrap (z2 - (1 : Int))))).length ≤ (20000 : Nat)) ∧ J20 (mergeS (2 : Int) (rowS A (ix (cutsS (A.append (B.append []))) (IntKind.i64.wrap (z2 - (1 : Int))))) (rowS B (ix (cutsS (A.append (B.append []))) (IntKind.i64.wrap (z2 - (1 : Int))))))) (((flat z3).length ≤ (1000000000 : Nat) ∧ z3.length ≤ (1000000000 : Nat)) ∧ post (flat z3))) ((1 : Int), [], PUnit.unit)
theorem pchoA_w (A : List (api_Rect)) (B : List (api_Rect)) (post : dens (shT pchoA_sp.rs []) → Prop) : pchoA_W A B (fun y0 => post (y0, ())) = walkG (callR Tryz.prog pchoA_C (drawR Tryz.prog tau) 12 0) 89 false [tv (.sl (.st .api_Rect)) A, tv (.sl (.st .api_Rect)) B, .v (clo 90)] pchoA_sp.rs post := by kernel_rfl
theorem pchoA_of (h : ∀ (A : List (api_Rect)) (B : List (api_Rect)) (post : List (api_Rect) → Prop), pchoA_P A B post → pchoA_W A B post) : SpecCOK Tryz.prog pchoA_sp [clo 90] := SpecCOK.of_rules (C := pchoA_C) (dr := drawR Tryz.prog tau) (n := 12) (fk := 0) (.cons (rule1_ok pcutsL_ok) (.cons (rule1_ok prowL_ok) (.cons (rule1_ok peqs_ok) (.cons (rule1_ok prects_ok) (.cons (ruleC_ok pmergeA_ok) .nil))))) (drawR_ok tau) fun x post hp => HoldW.of (pchoA_w x.1 x.2.1 post) (h x.1 x.2.1 (fun y0 => post (y0, ())) hp)
theorem pchoA_ok : SpecCOK Tryz.prog pchoA_sp [clo 90] := pchoA_of fun l m post hp => by
  obtain ⟨⟨⟨g1, hl1⟩, g2, hl2⟩, hp⟩ := hp
  unfold pchoA_W
  have e : l.append (m.append []) = l ++ m := by show l ++ (m ++ []) = l ++ m; rw [List.append_nil]
  rw [e]
  have hlm : (l ++ m).length ≤ 16000 := by rw [List.length_append]; omega
  have hcl := cutsS_len (l := l ++ m)
  have hJ4 : (flat (buildG (fun y => mergeS 2 (rowS l y) (rowS m y)) [] (cutsS (l ++ m)))).length ≤ 268435456 := by
    rw [← choose_build]
    exact box_len (comb_ok (howS_0 2) l m).1 fun x y hc => by
      rw [(comb_ok (howS_0 2) l m).2] at hc
      refine proper_box g1 ?_
      unfold comb howS at hc
      revert hc
      cases cov l x y <;> simp
  rw [choose_build] at hp
  refine ⟨⟨by omega, by simp⟩, ?_⟩
  have hmlen : ∀ y, (mergeS 2 (rowS l y) (rowS m y)).length ≤ 100000 := fun y => by
    unfold mergeS spansOf
    have q1 := spansG_len (p := fun x => howS 2 (insS (rowS l y) x) (insS (rowS m y) x)) (xs := uniqI (edgL (rowS l y ++ rowS m y))) (out := [])
    have q2 := uniqI_len (edgL (rowS l y ++ rowS m y))
    rw [edgL_len, List.length_append] at q2
    have q3 := rowS_len (l := l) (y := y)
    have q4 := rowS_len (l := m) (y := y)
    simp only [List.length_nil] at q1
    omega
  refine build_loop (xs := cutsS (l ++ m)) (R := fun y => mergeS 2 (rowS l y) (rowS m y)) hmlen (by omega) (fun rec k acc hk hal has hrec => ?_) (fun hlen => ⟨⟨by omega, by omega⟩, hp⟩)
  refine JOIN.opq fun (J9 : List Bd → Prop) hJ9 => ?_
  have w1 : IntKind.i64.wrap (((k + 1 : Nat) : Int) - 1) = k := by rw [wrap_in (by omega) (by omega)]; omega
  rw [w1]
  have hJ9 : J9 (addBd acc (ix (cutsS (l ++ m)) (k : Int)) (ix (cutsS (l ++ m)) ((k + 1 : Nat) : Int)) (mergeS 2 (rowS l (ix (cutsS (l ++ m)) (k : Int))) (rowS m (ix (cutsS (l ++ m)) (k : Int))))) := by
    rw [hJ9]
    show rec (IntKind.i64.wrap (((k + 1 : Nat) : Int) + 1)) _
    rw [wrapS (by omega)]
    exact hrec
  have main := bandM_ok (by omega) (fun b hb => Nat.le_trans (has b hb) (by omega)) hJ9
  have q3 := rowS_len (l := l) (y := ix (cutsS (l ++ m)) (k : Int))
  have q4 := rowS_len (l := m) (y := ix (cutsS (l ++ m)) (k : Int))
  have hD1 : (∀ v : api_Rect, v ∈ l → v.1 < v.3) ∧ l.length ≤ 20000 := ⟨fun r hr => (g1 r hr).2.1, by omega⟩
  have hD2 : (∀ v : api_Rect, v ∈ m → v.1 < v.3) ∧ m.length ≤ 20000 := ⟨fun r hr => (g2 r hr).2.1, by omega⟩
  refine ⟨by omega, by omega, by omega, ?_, ?_⟩
  · refine JOIN.opq fun (J17 : List Sp → Prop) hJ17 => ⟨hD1, hD2, ⟨by omega, by omega⟩, ?_⟩
    rw [hJ17]
    exact ⟨main, main⟩
  · refine JOIN.opq fun (J17 : List Sp → Prop) hJ17 => ⟨hD1, hD2, ⟨by omega, by omega⟩, ?_⟩
    rw [hJ17]
    exact main

end RE
end Go.Proofs.YtpeggkeenboacaaGreat
set_option linter.unusedVariables false
set_option maxRecDepth 100000
namespace Go.Proofs.YtpeggkeenboacaaGreat
open Go.RowKit
namespace RE
open PL
namespace PL
/-- The last day that a register has seen. -/
def dayF (d : Int) (p : Pc) : Int := if p.Until = 36865 then max d (ix p.Days ((p.Days.length : Int) - 1)) else max (max d (ix p.Days ((p.Days.length : Int) - 1))) p.Until
def dayS (l : List Pc) : Int := l.foldl dayF 0
def openP (l : List Pc) (n : Int) : Prop := 1 ≤ n ∧ n ≤ (l.length : Int) ∧ (ix l (n - 1)).Until = 36865
/-- The last outline. -/
def nowR (p : Pc) : Rn := ix p.Regions ((p.Regions.length : Int) - 1)
def sizeR (r : Rc) : Int := (r.Right - r.Left) * (r.High - r.Low)
def sizeS (l : List Rc) : Int := l.foldl (fun n r => n + sizeR r) 0
open Classical in
noncomputable def areaS (a : Rn) : Int := if validP a.Rects then sizeS a.Rects else 0
/-- The joined squares of rectangles. -/
def joinP (l r : List Rc) (g : Int) : Prop := (120 < (canonF (cov l)).length ∧ r = [] ∧ g = 1) ∨ ((canonF (cov l)).length ≤ 120 ∧ r = canonF (cov l) ∧ g = 0)
/-- As many parcels and regions as the kind of an edit needs. -/
def fitsP (e : Ed) : Prop := (e.Kind = 1 ∧ e.Parcels.length = 0 ∧ e.Regions.length = 1) ∨ (e.Kind = 2 ∧ e.Parcels.length = 1 ∧ e.Regions.length = 1) ∨ (e.Kind = 3 ∧ e.Parcels.length = 1 ∧ 2 ≤ e.Regions.length ∧ e.Regions.length ≤ 8) ∨
  (e.Kind = 4 ∧ 2 ≤ e.Parcels.length ∧ e.Parcels.length ≤ 8 ∧ e.Regions.length = 0) ∨ (e.Kind = 5 ∧ e.Parcels.length = 1 ∧ e.Regions.length = 0)
open Classical in
/-- The first error of an edit that does not depend on squares. -/
noncomputable def editS (l : List Pc) (e : Ed) : Int :=
  if checkS l ≠ 0 then checkS l
  else if e.Kind < 1 ∨ 5 < e.Kind then 14
  else if e.Day < dayS l ∨ 36864 < e.Day then 9
  else if ¬ (fitsP e ∧ asc e.Parcels) then 3
  else if ¬ ∀ k ∈ e.Parcels, openP l k then 10
  else if ¬ ∀ a ∈ e.Regions, propR a then 7
  else 0
/-- A new parcel. -/
def newP (n day : Int) (ps : List Int) (a : Rn) : Pc := ⟨n, day, 36865, ps, [day], [a]⟩
def addL (day : Int) (ps : List Int) (l : List Pc) (rs : List Rn) : List Pc := rs.foldl (fun l a => l ++ [newP ((l.length : Int) + 1) day ps a]) l
def endP (day : Int) (l : List Pc) (k : Int) : List Pc := l.set (k - 1).toNat { ix l (k - 1) with Until := day }
def endL (day : Int) (l : List Pc) (ps : List Int) : List Pc := ps.foldl (endP day) l
/-- Does a region meet an open parcel, but for one? -/
def hitP (l : List Pc) (a : Rn) (but : Int) : Prop := ∃ p ∈ l, p.Until = 36865 ∧ p.Number ≠ but ∧ meetP a.Rects (nowR p).Rects
/-- A parcel with another outline. -/
def drawnP (p : Pc) (day : Int) (a : Rn) : Pc := if ix p.Days ((p.Days.length : Int) - 1) = day then { p with Regions := p.Regions.set (p.Days.length - 1) a } else { p with Days := p.Days ++ [day], Regions := p.Regions ++ [a] }
def partsR (l : List Rn) : List Rc := l.flatMap (·.Rects)
def apartP (l : List Rn) : Prop := ∀ i j : Nat, j < i → i < l.length → ¬ meetP (ix l (i : Int)).Rects (ix l (j : Int)).Rects
/-- The outlines of some parcels. -/
def outsL (l : List Pc) (ps : List Int) : List Rc := partsR (ps.map fun k => nowR (ix l (k - 1)))
open Classical in
/-- What an edit does. -/
noncomputable def applyS (l : List Pc) (e : Ed) : List Pc × Int :=
  if editS l e ≠ 0 then (l, editS l e)
  else if e.Kind = 1 then
    if hitP l (ix e.Regions 0) 0 then (l, 11) else if l.length = 60 then (l, 1) else (addL e.Day [] l e.Regions, 0)
  else if e.Kind = 2 then
    if hitP l (ix e.Regions 0) (ix e.Parcels 0) then (l, 11) else (l.set (ix e.Parcels 0 - 1).toNat (drawnP (ix l (ix e.Parcels 0 - 1)) e.Day (ix e.Regions 0)), 0)
  else if e.Kind = 3 then
    if ¬ apartP e.Regions then (l, 11)
    else if ¬ ∀ x y, cov (partsR e.Regions) x y = cov (nowR (ix l (ix e.Parcels 0 - 1))).Rects x y then (l, 12)
    else if 60 < l.length + e.Regions.length then (l, 1)
    else (addL e.Day e.Parcels (endL e.Day l e.Parcels) e.Regions, 0)
  else if e.Kind = 4 then
    if 120 < (canonF (cov (outsL l e.Parcels))).length then (l, 1)
    else if l.length = 60 then (l, 1)
    else (addL e.Day e.Parcels (endL e.Day l e.Parcels) [⟨canonF (cov (outsL l e.Parcels))⟩], 0)
  else (endL e.Day l e.Parcels, 0)
end PL
end RE
end Go.Proofs.YtpeggkeenboacaaGreat
set_option maxRecDepth 100000
set_option linter.unusedVariables false
namespace Go.Proofs.YtpeggkeenboacaaGreat
open Go.RowKit
namespace RE
open PL

def pclR_P (l : List (api_Region)) (post : List (api_Region) → Prop) : Prop := (l.length ≤ 4000000) ∧ post (l)
def pclR_sp : Spec := ⟨101, false, true, [.sl (.st .api_Region)], .own 29 (.st .api_Region), fun x post => pclR_P (x.1 : List (api_Region)) (fun y0 => post (y0, ()))⟩
def pclR_C : CtxR := ⟨tau, [], lookJ []⟩
def pclR_W (l : List (api_Region)) (post : List (api_Region) → Prop) : Prop := ∀ (v1 : Bool), (v1 = true → l = []) → IFB v1 (post []) (((0 : Nat) + l.length) * (24 : Nat) ≤ (140737488355328 : Nat) ∧ post ([] ++ l))
theorem pclR_w (l : List (api_Region)) (post : dens (shT pclR_sp.rs []) → Prop) : pclR_W l (fun y0 => post (y0, ())) = walkG (callR Tryz.prog pclR_C (drawR Tryz.prog tau) 8 0) 101 false [tv (.sl (.st .api_Region)) l] pclR_sp.rs post := by kernel_rfl
theorem pclR_of (h : ∀ (l : List (api_Region)) (post : List (api_Region) → Prop), pclR_P l post → pclR_W l post) : SpecOK Tryz.prog pclR_sp := SpecOK.of_rules (C := pclR_C) (dr := drawR Tryz.prog tau) (n := 8) (fk := 0) .nil (drawR_ok tau) fun x post hp => HoldW.of (pclR_w x.1 post) (h x.1 (fun y0 => post (y0, ())) hp)
theorem pclR_ok : SpecOK Tryz.prog pclR_sp := pclR_of fun l post hp => by
  obtain ⟨hl, hp⟩ := hp
  unfold pclR_W
  refine fun v hv => IFB.mk (fun h => ?_) (fun _ => ⟨by omega, ?_⟩)
  · rw [hv h] at hp; exact hp
  · rw [List.nil_append]; exact hp

def pclr_P (l : List (api_Rect)) (post : List (api_Rect) → Prop) : Prop := (l.length ≤ 4000000) ∧ post (l)
def pclr_sp : Spec := ⟨165, false, true, [.sl (.st .api_Rect)], .dat (.sl (.st .api_Rect)), fun x post => pclr_P (x.1 : List (api_Rect)) (fun y0 => post (y0, ()))⟩
def pclr_C : CtxR := ⟨tau, [], lookJ []⟩
def pclr_W (l : List (api_Rect)) (post : List (api_Rect) → Prop) : Prop := ∀ (v1 : Bool), (v1 = true → l = []) → IFB v1 (post []) (((0 : Nat) + l.length) * (32 : Nat) ≤ (140737488355328 : Nat) ∧ post ([] ++ l))
theorem pclr_w (l : List (api_Rect)) (post : dens (shT pclr_sp.rs []) → Prop) : pclr_W l (fun y0 => post (y0, ())) = walkG (callR Tryz.prog pclr_C (drawR Tryz.prog tau) 8 0) 165 false [tv (.sl (.st .api_Rect)) l] pclr_sp.rs post := by kernel_rfl
theorem pclr_of (h : ∀ (l : List (api_Rect)) (post : List (api_Rect) → Prop), pclr_P l post → pclr_W l post) : SpecOK Tryz.prog pclr_sp := SpecOK.of_rules (C := pclr_C) (dr := drawR Tryz.prog tau) (n := 8) (fk := 0) .nil (drawR_ok tau) fun x post hp => HoldW.of (pclr_w x.1 post) (h x.1 (fun y0 => post (y0, ())) hp)
theorem pclr_ok : SpecOK Tryz.prog pclr_sp := pclr_of fun l post hp => by
  obtain ⟨hl, hp⟩ := hp
  unfold pclr_W
  refine fun v hv => IFB.mk (fun h => ?_) (fun _ => ⟨by omega, ?_⟩)
  · rw [hv h] at hp; exact hp
  · rw [List.nil_append]; exact hp

def pcpy_P (a : api_Region) (post : api_Region → Prop) : Prop := (a.1.length ≤ 4000000) ∧ post (a)
def pcpy_sp : Spec := ⟨92, false, true, [.st .api_Region], .dat (.st .api_Region), fun x post => pcpy_P (x.1 : api_Region) (fun y0 => post (y0, ()))⟩
def pcpy_C : CtxR := ⟨tau, [rule1 pclr_sp], lookJ []⟩
def pcpy_W (a : api_Region) (post : api_Region → Prop) : Prop := a.1.length ≤ (4000000 : Nat) ∧ post { Rects := a.1 : api_Region }
theorem pcpy_w (a : api_Region) (post : dens (shT pcpy_sp.rs []) → Prop) : pcpy_W a (fun y0 => post (y0, ())) = walkG (callR Tryz.prog pcpy_C (drawR Tryz.prog tau) 8 0) 92 false [tv (.st .api_Region) a] pcpy_sp.rs post := by kernel_rfl
theorem pcpy_of (h : ∀ (a : api_Region) (post : api_Region → Prop), pcpy_P a post → pcpy_W a post) : SpecOK Tryz.prog pcpy_sp := SpecOK.of_rules (C := pcpy_C) (dr := drawR Tryz.prog tau) (n := 8) (fk := 0) (.cons (rule1_ok pclr_ok) .nil) (drawR_ok tau) fun x post hp => HoldW.of (pcpy_w x.1 post) (h x.1 (fun y0 => post (y0, ())) hp)
theorem pcpy_ok : SpecOK Tryz.prog pcpy_sp := pcpy_of fun a post hp => ⟨hp.1, hp.2⟩

def pallO_P (l : List (api_Parcel)) (post : List (api_Parcel) → Prop) : Prop := (szL l) ∧ post (l)
def pallO_sp : Spec := ⟨76, false, true, [.sl (.st .api_Parcel)], .own 50 (.st .api_Parcel), fun x post => pallO_P (x.1 : List (api_Parcel)) (fun y0 => post (y0, ()))⟩
def pallO_C : CtxR := ⟨tau, [rule1 pclI_sp, rule1 pclR_sp, rule1 pcpy_sp], lookJ [(0, 7, ⟨[(10, .dat (.int .i64)), (3, .own 50 (.st .api_Parcel))], [], [11, 12, 13, 5, 25, 24, 23, 22, 21, 20, 19, 18, 17, 16, 15, 14, 26, 27, 28, 40, 39, 38, 37, 36, 35, 34, 6, 7, 33, 32, 31, 29, 30, 41, 42, 43, 44, 45], [], []⟩), (0, 15, ⟨[(29, .dat (.int .i64))], [], [30, 31, 32, 33, 7, 6, 34, 35, 36, 37, 38, 39, 40], [], [(4, 29, (.st .api_Region))]⟩), (0, 1000005, ⟨[], [(1, [.dat (.int .i64), .dat (.int .i64), .dat (.int .i64), .own 3 (.int .i64), .own 3 (.int .i64), .own 29 (.st .api_Region)])], [14, 15, 16, 17, 18, 19, 20, 21, 22, 23, 24, 25], [], []⟩)]⟩
def pallO_W (l : List (api_Parcel)) (post : List (api_Parcel) → Prop) : Prop := (↑l.length : Int) ≤ (9223372036854775807 : Int) → LOOP [Ty.int IntKind.i64, (Ty.st Sn.api_Parcel).sl] (fun (rec1 : Int → List api_Parcel → Prop) (z2 : Int) (z3 : List api_Parcel) ↦ IFB (decide (z2 < (↑l.length : Int))) (((0 : Int) ≤ z2 ∧ z2 < (↑l.length : Int)) ∧ JOIN [Ty.int IntKind.i64, Ty.int IntKind.i64, Ty.int IntKind.i64, (Ty.int IntKind.i64).sl, (Ty.int IntKind.i64).sl, (Ty.st Sn.api_Region).sl] (fun (y4 y5 y6 : Int) (y7 y8 : List Int) (y9 : List api_Region) ↦ (↑y9.length : Int) ≤ (9223372036854775807 : Int) → LOOP [Ty.int IntKind.i64, (Ty.st Sn.api_Region).sl] (fun (rec10 : Int → List api_Region → Prop) (z11 : Int) (z12 : List api_Region) ↦ IFB (decide (z11 < (↑y9.length : Int))) (((0 : Int) ≤ z11 ∧ z11 < (↑z12.length : Int)) ∧ (ix z12 z11).1.length ≤ (4000000 : Nat) ∧ ((0 : Int) ≤ z11 ∧ z11 < (↑z12.length : Int)) ∧ rec10 (IntKind.i64.wrap (z11 + (1 : Int))) (z12.set z11.toNat { Rects := (ix z12 z11).1 : api_Region })) ((z3.length + [{ Number := y4, From := y5, Until := y6, Parents := y7, Days := y8, Regions := z12 : api_Parcel }].length) * (96 : Nat) ≤ (140737488355328 : Nat) ∧ rec1 (IntKind.i64.wrap (z2 + (1 : Int))) (z3 ++ [{ Number := y4, From := y5, Until := y6, Parents := y7, Days := y8, Regions := z12 : api_Parcel }]))) ((0 : Int), y9, PUnit.unit)) fun (J13 : Int → Int → Int → List Int → List Int → List api_Region → Prop) ↦ (ix l z2).4.length ≤ (4000000 : Nat) ∧ (ix l z2).5.length ≤ (4000000 : Nat) ∧ (ix l z2).6.length ≤ (4000000 : Nat) ∧ J13 (ix l z2).1 (ix l z2).2 (ix l z2).3 (ix l z2).4 (ix l z2).5 (ix l z2).6) (post z3)) ((0 : Int), [], PUnit.unit)
theorem pallO_w (l : List (api_Parcel)) (post : dens (shT pallO_sp.rs []) → Prop) : pallO_W l (fun y0 => post (y0, ())) = walkG (callR Tryz.prog pallO_C (drawF Tryz.prog tau) 8 0) 76 false [tv (.sl (.st .api_Parcel)) l] pallO_sp.rs post := by kernel_rfl
theorem pallO_of (h : ∀ (l : List (api_Parcel)) (post : List (api_Parcel) → Prop), pallO_P l post → pallO_W l post) : SpecOK Tryz.prog pallO_sp := SpecOK.of_rules (C := pallO_C) (dr := drawF Tryz.prog tau) (n := 8) (fk := 0) (.cons (rule1_ok pclI_ok) (.cons (rule1_ok pclR_ok) (.cons (rule1_ok pcpy_ok) .nil))) (drawF_ok tau) fun x post hp => HoldW.of (pallO_w x.1 post) (h x.1 (fun y0 => post (y0, ())) hp)
namespace PL
def allI (l : List Pc) (z : Int) (b : List Pc) : Prop := ∃ k : Nat, z = (k : Int) ∧ k ≤ l.length ∧ b = l.take k
end PL
theorem pallO_ok : SpecOK Tryz.prog pallO_sp := pallO_of fun l post hp => by
  obtain ⟨hsz, hp⟩ := hp
  have hl := hsz.len
  unfold pallO_W
  refine fun _ => LOOP.fuel2 (fun z b => allI l z b) (fun z _ => l.length - Int.toNat z) ⟨0, rfl, Nat.zero_le _, rfl⟩ ?_
  rintro rec (z : Int) (b : List Pc) ⟨k, i1, i2, i3⟩ hrec
  subst i1
  refine IFB.mk (fun hb => ?_) (fun hb => ?_)
  · have hb : (k : Int) < l.length := of_decide_eq_true hb
    have hk : k < l.length := by omega
    have hx := hsz.all _ (ix_mem (l := l) (i := (k : Int)) (by omega) (by omega))
    have x1 := hx.days
    have x2 := hx.regs
    have x3 := hx.pars
    have x4 := hx.rect
    refine ⟨by omega, JOIN.opq fun (J : Int → Int → Int → List Int → List Int → List api_Region → Prop) hJ => ⟨by omega, by omega, by omega, ?_⟩⟩
    rw [hJ]
    refine fun _ => LOOP.fuel2 (fun (u : Int) (c : List api_Region) => ∃ j : Nat, u = (j : Int) ∧ j ≤ (ix l (k : Int)).6.length ∧ c = (ix l (k : Int)).6) (fun u _ => (ix l (k : Int)).6.length - Int.toNat u) ⟨0, rfl, Nat.zero_le _, rfl⟩ ?_
    rintro rec2 (u : Int) (c : List api_Region) ⟨j, j1, j2, j3⟩ hrec2
    subst j1 j3
    refine IFB.mk (fun hc => ?_) (fun hc => ?_)
    · have hc : (j : Int) < (ix l (k : Int)).6.length := of_decide_eq_true hc
      have hj : j < (ix l (k : Int)).6.length := by omega
      refine ⟨by omega, ?_, by omega, ?_⟩
      · have := x4 _ (ix_mem (l := (ix l (k : Int)).6) (i := (j : Int)) (by omega) (by omega)); omega
      · rw [wrapS (by omega)]
        have e : (ix l (k : Int)).6.set (j : Int).toNat { Rects := (ix (ix l (k : Int)).6 (j : Int)).1 } = (ix l (k : Int)).6 := by
          show List.set _ j (ix (ix l (k : Int)).6 (j : Int)) = _
          rw [ix_lt hj]; exact List.set_getElem_self hj
        rw [e]
        exact hrec2 ((j + 1 : Nat) : Int) _ ⟨j + 1, rfl, hj, rfl⟩ (by show (ix l (k : Int)).6.length - ((j + 1 : Nat) : Int).toNat < (ix l (k : Int)).6.length - (j : Int).toNat; omega)
    · have hbl : b.length ≤ 1000000 := by rw [i3, List.length_take]; omega
      refine ⟨by simp only [List.length_cons, List.length_nil]; omega, ?_⟩
      rw [wrapS (by omega)]
      refine hrec ((k + 1 : Nat) : Int) _ ⟨k + 1, rfl, hk, ?_⟩ (by show l.length - ((k + 1 : Nat) : Int).toNat < l.length - (k : Int).toNat; omega)
      show b ++ [ix l (k : Int)] = _
      rw [i3, List.take_succ_eq_append_getElem hk, ix_lt hk]
  · have hb : ¬ (k : Int) < l.length := of_decide_eq_false hb
    have hk : k = l.length := by omega
    have e : b = l := by rw [i3, hk, List.take_length]
    show post b
    rw [e]; exact hp

def plast_P (l : List (api_Parcel)) (post : Int → Prop) : Prop := (l.length ≤ 1000000 ∧ ∀ p ∈ l, 0 < p.Days.length ∧ p.Days.length ≤ 1000000) ∧ post (dayS l)
def plast_sp : Spec := ⟨143, false, false, [.sl (.st .api_Parcel)], .dat (.int .i64), fun x post => plast_P (x.1 : List (api_Parcel)) (fun y0 => post (y0, ()))⟩
def plast_C : CtxR := ⟨tau, [], lookJ [(0, 7, ⟨[(8, .dat (.int .i64)), (3, .dat (.int .i64))], [], [9, 28, 27, 26, 25, 24, 23, 22, 21, 20, 19, 18, 17, 16, 15, 14, 13, 12, 5, 11, 10, 29], [], []⟩), (0, 16, ⟨[(3, .dat (.int .i64))], [], [10, 11, 5, 12, 13, 14, 15, 16, 17, 18, 19, 20, 21, 22, 23, 24, 25, 26, 27, 28], [], []⟩)]⟩
def plast_W (l : List (api_Parcel)) (post : Int → Prop) : Prop := (↑l.length : Int) ≤ (9223372036854775807 : Int) → LOOP [Ty.int IntKind.i64, Ty.int IntKind.i64] (fun (rec1 : Int → Int → Prop) (z2 z3 : Int) ↦ IFB (decide (z2 < (↑l.length : Int))) (JOIN [Ty.int IntKind.i64] (fun (y4 : Int) ↦ rec1 (IntKind.i64.wrap (z2 + (1 : Int))) y4) fun (J5 : Int → Prop) ↦ ((0 : Int) ≤ z2 ∧ z2 < (↑l.length : Int)) ∧ ((↑(ix l z2).5.length : Int) ≤ (9223372036854775807 : Int) → ((0 : Int) ≤ IntKind.i64.wrap ((↑(ix l z2).5.length : Int) - (1 : Int)) ∧ IntKind.i64.wrap ((↑(ix l z2).5.length : Int) - (1 : Int)) < (↑(ix l z2).5.length : Int)) ∧ IFB (!decide ((ix l z2).3 = (36865 : Int))) (J5 (Max.max (Max.max z3 (ix (ix l z2).5 (IntKind.i64.wrap ((↑(ix l z2).5.length : Int) - (1 : Int))))) (ix l z2).3)) (J5 (Max.max z3 (ix (ix l z2).5 (IntKind.i64.wrap ((↑(ix l z2).5.length : Int) - (1 : Int)))))))) (post z3)) ((0 : Int), (0 : Int), PUnit.unit)
theorem plast_w (l : List (api_Parcel)) (post : dens (shT plast_sp.rs []) → Prop) : plast_W l (fun y0 => post (y0, ())) = walkG (callR Tryz.prog plast_C (drawR Tryz.prog tau) 8 0) 143 false [tv (.sl (.st .api_Parcel)) l] plast_sp.rs post := by kernel_rfl
theorem plast_of (h : ∀ (l : List (api_Parcel)) (post : Int → Prop), plast_P l post → plast_W l post) : SpecOK Tryz.prog plast_sp := SpecOK.of_rules (C := plast_C) (dr := drawR Tryz.prog tau) (n := 8) (fk := 0) .nil (drawR_ok tau) fun x post hp => HoldW.of (plast_w x.1 post) (h x.1 (fun y0 => post (y0, ())) hp)
theorem fold_take {α β : Type} [Inhabited α] {f : β → α → β} {l : List α} {b : β} {k : Nat} (hk : k < l.length) : (l.take (k + 1)).foldl f b = f ((l.take k).foldl f b) (ix l (k : Int)) := by
  rw [List.take_succ_eq_append_getElem hk, List.foldl_append, ix_lt hk]; rfl
theorem plast_ok : SpecOK Tryz.prog plast_sp := plast_of fun l post hp => by
  obtain ⟨⟨hl, hsz⟩, hp⟩ := hp
  unfold plast_W
  refine fun _ => LOOP.fuel2 (fun z b => ∃ k : Nat, z = (k : Int) ∧ k ≤ l.length ∧ b = (l.take k).foldl dayF 0) (fun z _ => l.length - Int.toNat z) ⟨0, rfl, Nat.zero_le _, rfl⟩ ?_
  rintro rec (z : Int) (b : Int) ⟨k, i1, i2, i3⟩ hrec
  subst i1
  refine IFB.mk (fun hb => ?_) (fun hb => ?_)
  · have hb : (k : Int) < l.length := of_decide_eq_true hb
    have hk : k < l.length := by omega
    obtain ⟨x1, x2⟩ := hsz _ (ix_mem (l := l) (i := (k : Int)) (by omega) (by omega))
    have hw : IntKind.i64.wrap (((ix l (k : Int)).5.length : Int) - 1) = ((ix l (k : Int)).5.length : Int) - 1 := wrap_in (by omega) (by omega)
    rw [hw]
    refine JOIN.opq fun (J : Int → Prop) hJ => ⟨by omega, fun _ => ⟨by omega, ?_⟩⟩
    have fin : ∀ y : Int, y = dayF b (ix l (k : Int)) → J y := fun y hy => by
      rw [hJ]
      show rec (IntKind.i64.wrap ((k : Int) + 1)) y
      rw [wrapS (by omega)]
      exact hrec ((k + 1 : Nat) : Int) y ⟨k + 1, rfl, hk, by rw [fold_take hk, ← i3, hy]⟩ (by show l.length - ((k + 1 : Nat) : Int).toNat < l.length - (k : Int).toNat; omega)
    refine IFB.mk (fun hc => fin _ ?_) (fun hc => fin _ ?_)
    · have hc : ¬ (ix l (k : Int)).3 = 36865 := by simpa using hc
      unfold dayF; rw [if_neg hc]
    · have hc : (ix l (k : Int)).3 = 36865 := by simpa using hc
      unfold dayF; rw [if_pos hc]
  · have hb : ¬ (k : Int) < l.length := of_decide_eq_false hb
    have hk : k = l.length := by omega
    have e : b = dayS l := by rw [i3, hk, List.take_length]; rfl
    show post b
    rw [e]; exact hp

def popn_P (l : List (api_Parcel)) (n : Int) (post : Bool → Prop) : Prop := (l.length ≤ 1000000) ∧ ∀ q : Bool, (q = true ↔ openP l n) → post q
def popn_sp : Spec := ⟨145, false, false, [.sl (.st .api_Parcel), .int .i64], .dat (.bool), fun x post => popn_P (x.1 : List (api_Parcel)) (x.2.1 : Int) (fun y0 => post (y0, ()))⟩
def popn_C : CtxR := ⟨tau, [], lookJ []⟩
def popn_W (l : List (api_Parcel)) (n : Int) (post : Bool → Prop) : Prop := (gx true (decide ((1 : Int) ≤ n)) = true → (↑l.length : Int) ≤ (9223372036854775807 : Int)) → (gx true (decide ((1 : Int) ≤ n) && decide (n ≤ (↑l.length : Int))) = true → (0 : Int) ≤ IntKind.i64.wrap (n - (1 : Int)) ∧ IntKind.i64.wrap (n - (1 : Int)) < (↑l.length : Int)) ∧ post (decide ((1 : Int) ≤ n) && decide (n ≤ (↑l.length : Int)) && decide ((ix l (IntKind.i64.wrap (n - (1 : Int)))).3 = (36865 : Int)))
theorem popn_w (l : List (api_Parcel)) (n : Int) (post : dens (shT popn_sp.rs []) → Prop) : popn_W l n (fun y0 => post (y0, ())) = walkG (callR Tryz.prog popn_C (drawR Tryz.prog tau) 8 0) 145 false [tv (.sl (.st .api_Parcel)) l, tv (.int .i64) n] popn_sp.rs post := by kernel_rfl
theorem popn_of (h : ∀ (l : List (api_Parcel)) (n : Int) (post : Bool → Prop), popn_P l n post → popn_W l n post) : SpecOK Tryz.prog popn_sp := SpecOK.of_rules (C := popn_C) (dr := drawR Tryz.prog tau) (n := 8) (fk := 0) .nil (drawR_ok tau) fun x post hp => HoldW.of (popn_w x.1 x.2.1 post) (h x.1 x.2.1 (fun y0 => post (y0, ())) hp)
theorem popn_ok : SpecOK Tryz.prog popn_sp := popn_of fun l n post hp => by
  obtain ⟨hl, hp⟩ := hp
  unfold popn_W
  intro _
  refine ⟨fun h => ?_, hp _ ?_⟩
  · simp only [Bool.and_eq_true, decide_eq_true_eq, gx_t] at h
    rw [wrap_in (by omega) (by omega)]; omega
  · unfold openP
    simp only [Bool.and_eq_true, decide_eq_true_eq]
    constructor
    · rintro ⟨⟨h1, h2⟩, h3⟩
      rw [wrap_in (by omega) (by omega)] at h3
      exact ⟨h1, h2, h3⟩
    · rintro ⟨h1, h2, h3⟩
      rw [wrap_in (by omega) (by omega)]
      exact ⟨⟨h1, h2⟩, h3⟩

def psz_P (l : List (api_Rect)) (post : Int → Prop) : Prop := ((∀ r ∈ l, proper r) ∧ l.length ≤ 268435456) ∧ post (sizeS l)
def psz_sp : Spec := ⟨91, false, false, [.sl (.st .api_Rect)], .dat (.int .i64), fun x post => psz_P (x.1 : List (api_Rect)) (fun y0 => post (y0, ()))⟩
def psz_C : CtxR := ⟨tau, [], lookJ [(0, 7, ⟨[(8, .dat (.int .i64)), (3, .dat (.int .i64))], [], [9, 10, 11, 5, 12, 13, 14, 15, 16, 17, 18, 19, 20, 21, 22, 23, 24, 25], [], []⟩)]⟩
def psz_W (l : List (api_Rect)) (post : Int → Prop) : Prop := (↑l.length : Int) ≤ (9223372036854775807 : Int) → LOOP [Ty.int IntKind.i64, Ty.int IntKind.i64] (fun (rec1 : Int → Int → Prop) (z2 z3 : Int) ↦ IFB (decide (z2 < (↑l.length : Int))) (((0 : Int) ≤ z2 ∧ z2 < (↑l.length : Int)) ∧ rec1 (IntKind.i64.wrap (z2 + (1 : Int))) (IntKind.i64.wrap (z3 + IntKind.i64.wrap (IntKind.i64.wrap ((ix l z2).3 - (ix l z2).1) * IntKind.i64.wrap ((ix l z2).4 - (ix l z2).2))))) (post z3)) ((0 : Int), (0 : Int), PUnit.unit)
theorem psz_w (l : List (api_Rect)) (post : dens (shT psz_sp.rs []) → Prop) : psz_W l (fun y0 => post (y0, ())) = walkG (callR Tryz.prog psz_C (drawR Tryz.prog tau) 8 0) 91 false [tv (.sl (.st .api_Rect)) l] psz_sp.rs post := by kernel_rfl
theorem psz_of (h : ∀ (l : List (api_Rect)) (post : Int → Prop), psz_P l post → psz_W l post) : SpecOK Tryz.prog psz_sp := SpecOK.of_rules (C := psz_C) (dr := drawR Tryz.prog tau) (n := 8) (fk := 0) .nil (drawR_ok tau) fun x post hp => HoldW.of (psz_w x.1 post) (h x.1 (fun y0 => post (y0, ())) hp)
def parea_P (a : api_Region) (post : Int → Prop) : Prop := (True) ∧ post (areaS a)
def parea_sp : Spec := ⟨191, false, false, [.st .api_Region], .dat (.int .i64), fun x post => parea_P (x.1 : api_Region) (fun y0 => post (y0, ()))⟩
def parea_C : CtxR := ⟨tau, [rule1 pval_sp], lookJ [(3066, 7, ⟨[(8, .dat (.int .i64)), (3, .dat (.int .i64))], [], [9, 10, 11, 5, 12, 13, 14, 15, 16, 17, 18, 19, 20, 21, 22, 23, 24, 25], [], []⟩)]⟩
def parea_W (a : api_Region) (post : Int → Prop) : Prop := ∀ (v1 : Bool), (v1 = true ↔ validP a.1) → IFB (!v1) (post (0 : Int)) ((↑a.1.length : Int) ≤ (9223372036854775807 : Int) → LOOP [Ty.int IntKind.i64, Ty.int IntKind.i64] (fun (rec2 : Int → Int → Prop) (z3 z4 : Int) ↦ IFB (decide (z3 < (↑a.1.length : Int))) (((0 : Int) ≤ z3 ∧ z3 < (↑a.1.length : Int)) ∧ rec2 (IntKind.i64.wrap (z3 + (1 : Int))) (IntKind.i64.wrap (z4 + IntKind.i64.wrap (IntKind.i64.wrap ((ix a.1 z3).3 - (ix a.1 z3).1) * IntKind.i64.wrap ((ix a.1 z3).4 - (ix a.1 z3).2))))) (post z4)) ((0 : Int), (0 : Int), PUnit.unit))
theorem parea_w (a : api_Region) (post : dens (shT parea_sp.rs []) → Prop) : parea_W a (fun y0 => post (y0, ())) = walkG (callR Tryz.prog parea_C (drawR Tryz.prog tau) 8 0) 191 false [tv (.st .api_Region) a] parea_sp.rs post := by kernel_rfl
theorem parea_of (h : ∀ (a : api_Region) (post : Int → Prop), parea_P a post → parea_W a post) : SpecOK Tryz.prog parea_sp := SpecOK.of_rules (C := parea_C) (dr := drawR Tryz.prog tau) (n := 8) (fk := 0) (.cons (rule1_ok pval_ok) .nil) (drawR_ok tau) fun x post hp => HoldW.of (parea_w x.1 post) (h x.1 (fun y0 => post (y0, ())) hp)
def pjoin_P (l : List (api_Rect)) (post : List (api_Rect) → Int → Prop) : Prop := ((∀ r ∈ l, proper r) ∧ l.length ≤ 1000) ∧ ∀ (r : List api_Rect) (g : Int), joinP l r g → post r g
def pjoin_sp : Spec := ⟨194, false, true, [.sl (.st .api_Rect)], .tup [.agg [.dat (.sl (.st .api_Rect))], .dat (.int .i64)], fun x post => pjoin_P (x.1 : List (api_Rect)) (fun y0 y1 => post (y0, y1, ()))⟩
def pjoin_C : CtxR := ⟨tau, [rule1 pcan_sp], lookJ [(1024, 0, ⟨[(0, .tup [.agg [.dat (.sl (.st .api_Rect))], .dat (.int .i64)])], [], [], [], []⟩)]⟩
def pjoin_W (l : List (api_Rect)) (post : List (api_Rect) → Int → Prop) : Prop := ((∀ (v1 : api_Rect), v1 ∈ l → (0 : Int) ≤ v1.1 ∧ v1.1 < v1.3 ∧ v1.3 ≤ (16384 : Int) ∧ (0 : Int) ≤ v1.2 ∧ v1.2 < v1.4 ∧ v1.4 ≤ (16384 : Int)) ∧ l.length ≤ (10000 : Nat)) ∧ JOIN [(Ty.st Sn.api_Rect).sl, Ty.int IntKind.i64] (fun (y2 : List api_Rect) (y3 : Int) ↦ post y2 y3) fun (J4 : List api_Rect → Int → Prop) ↦ (↑(canonF (cov l)).length : Int) ≤ (9223372036854775807 : Int) → IFB (decide ((120 : Int) < (↑(canonF (cov l)).length : Int))) (J4 [] (1 : Int)) (J4 (canonF (cov l)) (0 : Int))
theorem pjoin_w (l : List (api_Rect)) (post : dens (shT pjoin_sp.rs []) → Prop) : pjoin_W l (fun y0 y1 => post (y0, y1, ())) = walkG (callR Tryz.prog pjoin_C (drawR Tryz.prog tau) 8 0) 194 false [tv (.sl (.st .api_Rect)) l] pjoin_sp.rs post := by kernel_rfl
theorem pjoin_of (h : ∀ (l : List (api_Rect)) (post : List (api_Rect) → Int → Prop), pjoin_P l post → pjoin_W l post) : SpecOK Tryz.prog pjoin_sp := SpecOK.of_rules (C := pjoin_C) (dr := drawR Tryz.prog tau) (n := 8) (fk := 0) (.cons (rule1_ok pcan_ok) .nil) (drawR_ok tau) fun x post hp => HoldW.of (pjoin_w x.1 post) (h x.1 (fun y0 y1 => post (y0, y1, ())) hp)
theorem size_in {r : Rc} (h : proper r) : 0 ≤ sizeR r ∧ sizeR r ≤ 268435456 ∧ IntKind.i64.wrap (IntKind.i64.wrap (r.3 - r.1) * IntKind.i64.wrap (r.4 - r.2)) = sizeR r := by
  obtain ⟨p1, p2, p3, p4, p5, p6⟩ := h
  have h1 : 0 ≤ (r.3 - r.1) := by omega
  have h2 : 0 ≤ (r.4 - r.2) := by omega
  have h3 : (r.3 - r.1) ≤ 16384 := by omega
  have h4 : (r.4 - r.2) ≤ 16384 := by omega
  have m1 := Int.mul_nonneg h1 h2
  have m2 : (r.3 - r.1) * (r.4 - r.2) ≤ 16384 * 16384 := Int.mul_le_mul h3 h4 h2 (by omega)
  refine ⟨m1, m2, ?_⟩
  rw [wrap_in (z := r.3 - r.1) (by omega) (by omega), wrap_in (z := r.4 - r.2) (by omega) (by omega), wrap_in (by omega) (by omega)]
  rfl
theorem size_loop {l : List Rc} (hp : ∀ r ∈ l, proper r) (hl : l.length ≤ 268435456) {K : Int → Prop} (hK : K (sizeS l)) :
    LOOP [Ty.int IntKind.i64, Ty.int IntKind.i64] (fun (rec2 : Int → Int → Prop) (z3 z4 : Int) => IFB (decide (z3 < (l.length : Int))) (((0 : Int) ≤ z3 ∧ z3 < (l.length : Int)) ∧ rec2 (IntKind.i64.wrap (z3 + (1 : Int))) (IntKind.i64.wrap (z4 + IntKind.i64.wrap (IntKind.i64.wrap ((ix l z3).3 - (ix l z3).1) * IntKind.i64.wrap ((ix l z3).4 - (ix l z3).2))))) (K z4)) ((0 : Int), (0 : Int), PUnit.unit) := by
  refine LOOP.fuel2 (fun (z b : Int) => ∃ k : Nat, z = (k : Int) ∧ k ≤ l.length ∧ b = (l.take k).foldl (fun n r => n + sizeR r) 0 ∧ 0 ≤ b ∧ b ≤ 268435456 * (k : Int)) (fun (z _ : Int) => l.length - Int.toNat z) ⟨0, rfl, Nat.zero_le _, rfl, Int.le_refl _, Int.le_refl _⟩ ?_
  rintro rec (z : Int) (b : Int) ⟨k, i1, i2, i3, i4, i5⟩ hrec
  subst i1
  refine IFB.mk (fun hb => ?_) (fun hb => ?_)
  · have hb : (k : Int) < l.length := of_decide_eq_true hb
    have hk : k < l.length := by omega
    obtain ⟨s1, s2, s3⟩ := size_in (hp _ (ix_mem (l := l) (i := (k : Int)) (by omega) (by omega)))
    refine ⟨by omega, ?_⟩
    rw [s3, wrapS (by omega), wrap_in (z := b + _) (by omega) (by omega)]
    exact hrec ((k + 1 : Nat) : Int) _ ⟨k + 1, rfl, hk, by rw [fold_take hk, ← i3], by omega, by omega⟩ (by show l.length - ((k + 1 : Nat) : Int).toNat < l.length - (k : Int).toNat; omega)
  · have hb : ¬ (k : Int) < l.length := of_decide_eq_false hb
    have hk : k = l.length := by omega
    have e : b = sizeS l := by rw [i3, hk, List.take_length]; rfl
    rw [e]; exact hK
theorem psz_ok : SpecOK Tryz.prog psz_sp := psz_of fun l post hp => by
  obtain ⟨⟨h1, h2⟩, hp⟩ := hp
  unfold psz_W
  exact fun _ => size_loop h1 h2 hp
theorem parea_ok : SpecOK Tryz.prog parea_sp := parea_of fun a post hp => by
  obtain ⟨_, hp⟩ := hp
  unfold parea_W
  unfold areaS at hp
  refine fun v hv => IFB.mk (fun hb => ?_) (fun hb => ?_)
  · rw [if_neg (fun h => by have := hv.2 h; rw [this] at hb; cases hb)] at hp; exact hp
  · have h := hv.1 (by simpa using hb)
    rw [if_pos h] at hp
    exact fun _ => size_loop h.2.1 (by have := h.1; omega) hp
theorem pjoin_ok : SpecOK Tryz.prog pjoin_sp := pjoin_of fun l post hp => by
  obtain ⟨⟨h1, h2⟩, hp⟩ := hp
  unfold pjoin_W
  refine ⟨⟨h1, by omega⟩, JOIN.opq fun (J : List Rc → Int → Prop) hJ _ => IFB.mk (fun hb => ?_) (fun hb => ?_)⟩
  · have hb : (120 : Int) < _ := of_decide_eq_true hb
    rw [hJ]; exact hp _ _ (.inl ⟨by omega, rfl, rfl⟩)
  · have hb : ¬ (120 : Int) < _ := of_decide_eq_false hb
    rw [hJ]; exact hp _ _ (.inr ⟨by omega, rfl, rfl⟩)

end RE
end Go.Proofs.YtpeggkeenboacaaGreat
