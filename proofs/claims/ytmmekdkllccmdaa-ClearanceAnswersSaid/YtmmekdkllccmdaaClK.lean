import Derived.Test.YtmmekdkllccmdaaClI
/-
  Chapter 41: what ClearanceYears computes.
-/
namespace Go.Proofs.Ytmmekdkllccmdaa
namespace Eng
namespace Clr
theorem cor_len (l : List api_Finding) (s : List api_Spent) (h : chkC l s = 0) : corS l s = s.map (corOf l) := by
  unfold corS
  rw [if_pos h]
theorem good_zero {l : List api_Finding} {s : List api_Spent} (h1 : FGood l) (h2 : SGood s) : chkC l s = 0 := chkC_zero (by have := h1.len; omega) (by have := h2.len; omega) h1.ok h2.ok
theorem years_fil (x : api_Spent) (hx : 0 ≤ x.Scheme ∧ x.Scheme ≤ 15) (e : List api_Finding → Prop) : ∀ (q v : List api_Finding), v.length + q.length ≤ 4 → e (v ++ q.filter (fun f => conB f x)) → forL (years_l2b x) e q v
  | [], v, _, hp => by
    have hp : e (v ++ []) := hp
    rw [List.append_nil] at hp
    exact hp
  | y :: q, v, hl, hp => by
    obtain ⟨R, hR⟩ : ∃ R, R = forL (years_l2b x) e q := ⟨_, rfl⟩
    show years_l2b x (forL (years_l2b x) e q) y v
    rw [← hR]
    unfold years_l2b
    simp only [List.length_cons] at hl
    refine ⟨hx, ?_⟩
    by_cases hc : conB y x = true
    · rw [List.filter_cons, if_pos hc] at hp
      rw [if_pos hc, hR]
      refine ⟨by unfold apOK; omega, years_fil x hx e q _ (by simp; omega) ?_⟩
      simpa using hp
    · rw [List.filter_cons, if_neg hc] at hp
      rw [if_neg hc, hR]
      exact years_fil x hx e q v (by omega) hp
theorem cor_fil (l : List api_Finding) (x : api_Spent) : corOf (l.filter (fun f => conB f x)) x = corOf l x := by
  unfold corOf
  rw [List.filter_filter]
  simp
theorem years_loop (z1 : List api_Finding) (z2 : List api_Spent) (h1 : FGood z1) (h2 : SGood z2) : ∀ (q pre : List api_Spent), z2 = pre ++ q → forLI (years_l1b (fun r => r = true) z1 z2) (years_l1e (fun r => r = true)) pre.length q ()
  | [], _, _ => rfl
  | x :: q, pre, he => by
    have hx : x ∈ z2 := by rw [he]; simp
    have hlen := h2.len
    have hpl : pre.length + (q.length + 1) ≤ 24 := by rw [he] at hlen; simpa using hlen
    have hsp := badS_ok z2 none h2.ok x hx
    unfold SpOK at hsp
    have ih := years_loop z1 z2 h1 h2 q (pre ++ [x]) (by rw [he]; simp)
    rw [List.length_append] at ih
    obtain ⟨R, hR⟩ : ∃ R, R = forLI (years_l1b (fun r => r = true) z1 z2) (years_l1e (fun r => r = true)) (pre.length + 1) q := ⟨_, rfl⟩
    show years_l1b (fun r => r = true) z1 z2 (forLI (years_l1b (fun r => r = true) z1 z2) (years_l1e (fun r => r = true)) (pre.length + 1) q) pre.length x ()
    have ih : R () := by rw [hR]; exact ih
    rw [← hR]
    unfold years_l1b
    refine years_fil x ⟨by omega, by omega⟩ _ z1 [] (by simpa using h1.len) ?_
    rw [List.nil_append]
    unfold years_l2e
    have hw : w64 ((pre.length : Int) + 1) = (pre.length : Int) + 1 := w64_eq (by omega) (by omega)
    have hsub : sub z2 (pre.length : Int) ((pre.length : Int) + 1) = [x] := by
      unfold sub
      have e1 : ((pre.length : Int) + 1).toNat = pre.length + 1 := by omega
      have e2 : ((pre.length : Int)).toNat = pre.length := by omega
      rw [e1, e2, he, List.take_append]
      simp
    rw [hw, hsub]
    have hf : badF none (z1.filter (fun f => conB f x)) = false := by
      have := (badF_iff z1 none).1 h1.ok
      refine (badF_iff _ none).2 ⟨fun y hy => this.1 y (List.mem_filter.1 hy).1, fun y _ z hz => (by cases hz), this.2.2.filter _⟩
    have hs : badS none [x] = false := by
      have := (badS_iff z2 none).1 h2.ok
      exact (badS_iff _ none).2 ⟨fun y hy => this.1 y (by rw [List.mem_singleton.1 hy]; exact hx), fun y _ z hz => (by cases hz), List.pairwise_singleton _ _⟩
    have hfl : (z1.filter (fun f => conB f x)).length ≤ z1.length := List.length_filter_le _ _
    have hz := chkC_zero (l := z1.filter (fun f => conB f x)) (s := [x]) (by have := h1.len; omega) (by simp) hf hs
    have hc1 : corS (z1.filter (fun f => conB f x)) [x] = [corOf z1 x] := by
      rw [cor_len _ _ hz]
      show [corOf (z1.filter (fun f => conB f x)) x] = _
      rw [cor_fil]
    have hc2 := cor_len z1 z2 (good_zero h1 h2)
    have hi : inb (corS z1 z2) (pre.length : Int) := by
      rw [hc2]
      refine inb_nat ?_
      rw [List.length_map, he]; simp
    have hv : ix (corS z1 z2) (pre.length : Int) = corOf z1 x := by
      rw [hc2]
      unfold ix
      have e2 : ((pre.length : Int)).toNat = pre.length := by omega
      rw [e2, he]
      simp
    rw [hc1, hz, hv]
    refine ⟨⟨by omega, by omega, by rw [he]; simp; omega⟩, ?_⟩
    rintro b1 rfl
    refine ⟨fun _ => ⟨by decide, by simp⟩, fun _ => hi, ?_⟩
    have e : ix [corOf z1 x] 0 = corOf z1 x := rfl
    rw [e]
    simpa using ih
theorem years_s : years_W (fun r => r = true) := by
  unfold years_W
  intro z1 h1 z2 h2
  have hz := good_zero h1 h2
  have hc := cor_len z1 z2 hz
  have hl : (corS z1 z2).length = z2.length := by rw [hc, List.length_map]
  rw [hz, hl, if_neg (by simp)]
  exact years_loop z1 z2 h1 h2 z2 [] rfl
end Clr
end Eng
end Go.Proofs.Ytmmekdkllccmdaa
