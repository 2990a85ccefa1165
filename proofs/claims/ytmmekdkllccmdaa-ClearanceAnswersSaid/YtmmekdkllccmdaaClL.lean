import Derived.Test.YtmmekdkllccmdaaClJ
import Derived.Test.YtmmekdkllccmdaaClK
/-
  Chapter 41: what ClearanceAnswers computes.
-/
namespace Go.Proofs.Ytmmekdkllccmdaa
namespace Eng
namespace Clr
open Est (upV err rat)
theorem forL_unit {α : Type} {b : (Unit → Prop) → α → Unit → Prop} {e : Unit → Prop} : ∀ (q : List α), (∀ x ∈ q, ∀ R : Unit → Prop, R () → b R x ()) → e () → forL b e q ()
  | [], _, h => h
  | x :: q, hb, h => hb x (by simp) _ (forL_unit q (fun y hy => hb y (by simp [hy])) h)
theorem cor_le (l : List api_Finding) (s : List api_Spent) : (corS l s).length ≤ s.length := by
  unfold corS
  split
  · rw [List.length_map]
    exact Nat.le_refl _
  · simp
theorem nam_le (l : List api_Finding) (s : List api_Spent) (k : Int) : (namS l s k).length ≤ l.length := by
  unfold namS
  split
  · split
    · simp
    · rw [List.length_map]
      exact List.length_filter_le _ _
  · simp
theorem ans_in (p3 : Int) (x3 : List api_Finding) (h3 : x3.length ≤ 30) (x4 : List api_Spent) (h4 : x4.length ≤ 80) (R : Unit → Prop) (hR : R ()) : ans_l4b p3 (fun r => r = true) x3 R x4 () := by
  have hc := cor_le x3 x4
  unfold ans_l4b
  refine ⟨fun _ => by omega, ?_⟩
  rw [if_neg (by simp)]
  refine ⟨by rw [w64_eq (z := (x4.length : Int) + 1) (by omega) (by omega)]; omega, forL_unit _ (fun n _ R5 hR5 => ?_) hR⟩
  have hn := nam_le x3 x4 n
  unfold ans_l5b
  refine ⟨fun _ => by omega, ?_⟩
  rw [if_neg (by simp)]
  exact hR5
theorem ans_2 (p1 : List api_Finding) (p2 : List api_Spent) (p3 p4 p5 p6 p7 : Int) (z1 : List api_Finding) (z2 : List api_Spent) (v1 : List api_Finding) (v2 : List api_Spent) (h1 : p1.length ≤ 30) (h2 : p2.length ≤ 80) (h3 : z1.length ≤ 4) (h4 : z2.length ≤ 24) (h5 : v1.length ≤ 4) (h6 : v2.length ≤ 24) : ans_j2 p1 p2 p3 p4 p5 p6 p7 (fun r => r = true) z1 z2 v1 v2 := by
  unfold ans_j2
  refine forL_unit _ (fun x3 hx3 R3 hR3 => ?_) ?_
  · have k3 : x3.length ≤ 30 := by
      simp only [List.mem_cons, List.not_mem_nil, or_false] at hx3
      rcases hx3 with rfl | rfl | rfl <;> omega
    unfold ans_l3b
    refine forL_unit _ (fun x4 hx4 R4 hR4 => ?_) hR3
    have k4 : x4.length ≤ 80 := by
      simp only [List.mem_cons, List.not_mem_nil, or_false] at hx4
      rcases hx4 with rfl | rfl | rfl <;> omega
    exact ans_in p3 x3 k3 x4 k4 R4 hR4
  · unfold ans_l3e
    rintro b1 rfl
    simp
theorem ans_1 (p1 : List api_Finding) (p2 : List api_Spent) (p3 p4 p5 p6 p7 : Int) (z1 : List api_Finding) (z2 : List api_Spent) (v1 : List api_Finding) (h1 : p1.length ≤ 30) (h2 : p2.length ≤ 80) (h3 : z1.length ≤ 4) (h4 : z2.length ≤ 24) (h5 : v1.length ≤ 4) : ans_j1 p1 p2 p3 p4 p5 p6 p7 (fun r => r = true) z1 z2 v1 := by
  unfold ans_j1
  split
  · rename_i hc
    simp only [decide_eq_true_eq] at hc
    refine ⟨by omega, fun z3 k1 k2 => ⟨⟨k1, by omega⟩, fun z4 k3 k4 => ?_⟩⟩
    repeat' split
    all_goals exact ans_2 _ _ _ _ _ _ _ _ _ _ _ h1 h2 h3 h4 h5 (by first | exact h4 | (rw [List.length_set]; exact h4))
  · exact ans_2 _ _ _ _ _ _ _ _ _ _ _ h1 h2 h3 h4 h5 h4
theorem ans_s (p1 : List api_Finding) (p2 : List api_Spent) (p3 p4 p5 p6 p7 : Int) : ans_W p1 p2 p3 p4 p5 p6 p7 (fun r => r = true) := by
  unfold ans_W
  split
  · rfl
  · rename_i hc
    simp only [Bool.or_eq_true, decide_eq_true_eq, not_or] at hc
    intro z1 g1 z2 g2
    have h3 := g1.len
    have h4 := g2.len
    refine ⟨by show apOK 40 0 z1.length; unfold apOK; omega, by show apOK 24 0 z2.length; unfold apOK; omega, ?_⟩
    split
    · rename_i hd
      simp only [decide_eq_true_eq] at hd
      refine ⟨by omega, fun z3 k1 k2 => ⟨⟨k1, by omega⟩, fun z4 k3 k4 => ?_⟩⟩
      repeat' split
      all_goals exact ans_1 _ _ _ _ _ _ _ _ _ _ (by omega) (by omega) h3 h4 (by first | exact h3 | (rw [List.length_set]; exact h3))
    · exact ans_1 _ _ _ _ _ _ _ _ _ _ (by omega) (by omega) h3 h4 h3
end Clr
end Eng
end Go.Proofs.Ytmmekdkllccmdaa
