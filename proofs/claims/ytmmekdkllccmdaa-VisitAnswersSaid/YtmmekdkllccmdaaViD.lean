/-
  Chapter 27: what the walk of VisitAnswers says is so.
-/
import Derived.Test.YtmmekdkllccmdaaViC
namespace Go.Proofs.Ytmmekdkllccmdaa
open Go.RowKit
set_option linter.unusedVariables false
namespace Eng
namespace Vis
theorem ans_l3 (f : Int) (Post : Bool → Prop) (x : List api_Report) (hx : x.length ≤ 4611686018427387903) (rec2 : Unit → Prop) (h : rec2 ()) : ∀ q : List Int, forL (visAns_l3b f Post x) (visAns_l3e rec2) q ()
  | [] => h
  | y :: q => by
    show visAns_l3b f Post x (forL (visAns_l3b f Post x) (visAns_l3e rec2) q) y ()
    unfold visAns_l3b
    refine ⟨hx, fun b1 e1 b2 e2 => ⟨fun _ => ?_, fun b3 e3 => ?_⟩⟩
    · by_cases hc : chkE (x.map toRep) = 0
      · have h100 := chkE_len hc
        unfold linesS
        rw [if_pos (by rw [hc]; rfl)]
        have : (Lib.compact (((List.filter (lnP y) (List.map toRep x)).map (·.l)).mergeSort fun x y => decide (x ≤ y))).length ≤ (((List.filter (lnP y) (List.map toRep x)).map (·.l)).mergeSort fun x y => decide (x ≤ y)).length := by
          unfold Lib.compact Lib.compactUpTo
          rw [List.length_map]
          exact Nat.le_trans (List.length_filter_le _ _) (by simp)
        rw [List.length_mergeSort, List.length_map] at this
        have h2 := List.length_filter_le (lnP y) (List.map toRep x)
        omega
      · unfold linesS
        rw [if_neg (by simpa using hc)]
        simp
    · have h1 : b1 = false := by rw [e1]; simp
      have h2 : b2 = false := by rw [e2]; simp
      have h3 : b3 = false := by rw [e3, h1, h2]; simp
      rw [if_neg (by rw [h3]; simp)]
      exact ans_l3 f Post x hx rec2 h q
theorem ans_l2 (f l : Int) (Post : Bool → Prop) (h : Post true) : ∀ q : List (List api_Report), (∀ x ∈ q, x.length ≤ 4611686018427387903) → forL (visAns_l2b f l Post) (visAns_l2e Post) q ()
  | [], _ => h
  | y :: q, hq => by
    show visAns_l2b f l Post (forL (visAns_l2b f l Post) (visAns_l2e Post) q) y ()
    unfold visAns_l2b
    exact ans_l3 l Post y (hq y (by simp)) _ (ans_l2 f l Post h q fun x hx => hq x (by simp [hx])) _
theorem ans_j1 (raw : List api_Report) (f l : Int) (Post : Bool → Prop) (h : Post true) (z : List Rep) (v : List api_Report) (hr : raw.length ≤ 110) (hz : z.length ≤ 110) (hv : v.length ≤ 110) : visAns_j1 raw f l Post z v := by
  unfold visAns_j1
  refine ans_l2 f l Post h _ fun x hx => ?_
  simp only [List.mem_cons, List.not_mem_nil, or_false] at hx
  rcases hx with rfl | rfl | rfl
  · rw [List.length_map]; omega
  · omega
  · omega
theorem ans_true (raw : List api_Report) (f l b : Int) : visAns_W raw f l b (fun r => r = true) := by
  unfold visAns_W
  split
  · rfl
  · rename_i hr
    have hr : raw.length ≤ 110 := by simp at hr; omega
    intro z hz
    have hzl := hz.len
    have hj : ∀ v : List api_Report, v.length = z.length → visAns_j1 raw f l (fun r => r = true) z v := fun v hv => ans_j1 raw f l (fun r => r = true) (Eq.refl true) z v hr (by omega) (by omega)
    simp only [List.nil_append]
    refine ⟨by unfold apOK; simp; omega, ?_⟩
    split
    · rename_i h0
      have hin : ∀ i : Int, 0 ≤ i → (i < ((z.map ofRep).length : Int) ∨ i = 0) → inb (z.map ofRep) i := fun i h1 h2 => by
        simp at h0 h2
        unfold inb
        simp
        omega
      refine ⟨by simp; omega, fun z2 h1 h2 => ⟨hin z2 h1 h2, fun z3 h3 h4 => ?_⟩⟩
      repeat' split
      all_goals first | exact hj _ (by simp) | exact ⟨hin 0 (by omega) (by omega), hj _ (by simp)⟩
    · exact hj _ (by simp)
end Vis
end Eng
end Go.Proofs.Ytmmekdkllccmdaa
